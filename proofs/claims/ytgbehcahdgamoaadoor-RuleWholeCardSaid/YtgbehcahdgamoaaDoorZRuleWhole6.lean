/- Part 6 of the texts for LRuleWhole: contracts and plain laws that it leans on. -/
import Derived.Test.YtgbehcahdgamoaaDoorZRuleWhole3
import Derived.Test.YtgbehcahdgamoaaDoorZRuleWhole5
import Derived.Test.YtgbehcahdgamoaaDoorZRuleWhole4
namespace Go.Proofs.YtgbehcahdgamoaaDoor.Fn
open Go.RowKit Go.Proofs.YtgbehcahdgamoaaDoorW.PrintWords Go.Proofs.YtgbehcahdgamoaaDoorW.PrintLast Go.Proofs.YtgbehcahdgamoaaDoorW.PrintMore
attribute [local go_sem] max2_int min2_int max_two min_two max_three min_three max_four min_four   -- for this text's walks alone
set_option linter.unusedVariables false
set_option linter.unusedSimpArgs false

attribute [local go_sem high] eqA23
/-! ### longcaselaw09_RuleWhole: function 8 -/
mutual
def longcaselaw09_RuleWhole.j0 : Nat → Int → Int → Bool → Bool → Int → Bool → ByteArray → Int → Bool → ByteArray → Bool → Int → Int → Int → Int → Int → Int → Int → Int → Int → Int → Option (Bool)
  | 0, _, _, _, _, _, _, _, _, _, _, _, _, _, _, _, _, _, _, _, _, _ => none
  | k + 1, x1, x2, x7, x30, x319000, x319001, x319002, x319003, x319004, x319005, x319006, x319007, x319008, x319009, x319010, x319011, x319012, x319013, x319014, x319015, x319016 => if x30 = true then (some x7) else ((rule_Turns.f k x319000 x319001 x319002 x319003 x319004 x319005 x319006 x319007 x319008 x319009 x319010 x319011 x319012 x319013 x319014 x319015 x319016 (wrap64 (1800 + (Int.tmod (Go.bits .and .i64 x1 65535) 401)))).bind fun bt321 => (if bt321.2.2 = 0 then (longcaselaw09_RuleWhole.l0 k (wrap64 (1800 + (Int.tmod (Go.bits .and .i64 x1 65535) 401))) x7 (wrap64 ((mn bt321.1 bt321.2.1) + (Go.bits .and .i64 x2 16777215))) (-4611686018427387904) false (wrap64 ((wrap64 (1800 + (Int.tmod (Go.bits .and .i64 x1 65535) 401))) - 1)) x319000 x319001 x319002 x319003 x319004 x319005 x319006 x319007 x319008 x319009 x319010 x319011 x319012 x319013 x319014 x319015 x319016) else (some false)))
def longcaselaw09_RuleWhole.l0 : Nat → Int → Bool → Int → Int → Bool → Int → Int → Bool → ByteArray → Int → Bool → ByteArray → Bool → Int → Int → Int → Int → Int → Int → Int → Int → Int → Int → Option (Bool)
  | 0, _, _, _, _, _, _, _, _, _, _, _, _, _, _, _, _, _, _, _, _, _, _, _ => none
  | k + 1, x1, x7, x12, x13, x14, x15, x319000, x319001, x319002, x319003, x319004, x319005, x319006, x319007, x319008, x319009, x319010, x319011, x319012, x319013, x319014, x319015, x319016 => if x15 ≤ (wrap64 (x1 + 2)) then ((rule_Turns.f k x319000 x319001 x319002 x319003 x319004 x319005 x319006 x319007 x319008 x319009 x319010 x319011 x319012 x319013 x319014 x319015 x319016 x15).bind fun bt329 => (if bt329.2.2 = 0 then (if bt329.1 ≤ x12 then (longcaselaw09_RuleWhole.j2 k x1 x7 x12 x13 x14 x15 bt329.1 bt329.2.1 (decide (bt329.1 ≥ x13)) x319000 x319001 x319002 x319003 x319004 x319005 x319006 x319007 x319008 x319009 x319010 x319011 x319012 x319013 x319014 x319015 x319016) else (longcaselaw09_RuleWhole.j2 k x1 x7 x12 x13 x14 x15 bt329.1 bt329.2.1 false x319000 x319001 x319002 x319003 x319004 x319005 x319006 x319007 x319008 x319009 x319010 x319011 x319012 x319013 x319014 x319015 x319016)) else (some false))) else ((rule_At.f k x319000 x319001 x319002 x319003 x319004 x319005 x319006 x319007 x319008 x319009 x319010 x319011 x319012 x319013 x319014 x319015 x319016 x12).bind fun bt324 => (if x14 = true then (if x7 = true then (if bt324.2.2.2 = 0 then (some (bt324.1 == x319003 && (bt324.2.1 == x319004 && (bt324.2.2.1.toList == x319005.toList)))) else (some false)) else (some false)) else (if x7 = true then (if bt324.2.2.2 = 0 then (some (bt324.1 == x319000 && (bt324.2.1 == x319001 && (bt324.2.2.1.toList == x319002.toList)))) else (some false)) else (some false))))
def longcaselaw09_RuleWhole.j2 : Nat → Int → Bool → Int → Int → Bool → Int → Int → Int → Bool → Int → Bool → ByteArray → Int → Bool → ByteArray → Bool → Int → Int → Int → Int → Int → Int → Int → Int → Int → Int → Option (Bool)
  | 0, _, _, _, _, _, _, _, _, _, _, _, _, _, _, _, _, _, _, _, _, _, _, _, _, _, _ => none
  | k + 1, x1, x7, x12, x13, x14, x15, x16, x17, x75, x319000, x319001, x319002, x319003, x319004, x319005, x319006, x319007, x319008, x319009, x319010, x319011, x319012, x319013, x319014, x319015, x319016 => if x75 = true then (if x17 ≤ x12 then (if x17 > x16 then (longcaselaw09_RuleWhole.l0 k x1 x7 x12 x17 false (wrap64 (x15 + 1)) x319000 x319001 x319002 x319003 x319004 x319005 x319006 x319007 x319008 x319009 x319010 x319011 x319012 x319013 x319014 x319015 x319016) else (longcaselaw09_RuleWhole.l0 k x1 x7 x12 x16 true (wrap64 (x15 + 1)) x319000 x319001 x319002 x319003 x319004 x319005 x319006 x319007 x319008 x319009 x319010 x319011 x319012 x319013 x319014 x319015 x319016)) else (longcaselaw09_RuleWhole.l0 k x1 x7 x12 x16 true (wrap64 (x15 + 1)) x319000 x319001 x319002 x319003 x319004 x319005 x319006 x319007 x319008 x319009 x319010 x319011 x319012 x319013 x319014 x319015 x319016)) else (if x17 ≤ x12 then (if x17 > x13 then (longcaselaw09_RuleWhole.l0 k x1 x7 x12 x17 false (wrap64 (x15 + 1)) x319000 x319001 x319002 x319003 x319004 x319005 x319006 x319007 x319008 x319009 x319010 x319011 x319012 x319013 x319014 x319015 x319016) else (longcaselaw09_RuleWhole.l0 k x1 x7 x12 x13 x14 (wrap64 (x15 + 1)) x319000 x319001 x319002 x319003 x319004 x319005 x319006 x319007 x319008 x319009 x319010 x319011 x319012 x319013 x319014 x319015 x319016)) else (longcaselaw09_RuleWhole.l0 k x1 x7 x12 x13 x14 (wrap64 (x15 + 1)) x319000 x319001 x319002 x319003 x319004 x319005 x319006 x319007 x319008 x319009 x319010 x319011 x319012 x319013 x319014 x319015 x319016))
end
def longcaselaw09_RuleWhole.f (k : Nat) (a0_0 : Int) (a0_1 : Bool) (a0_2 : ByteArray) (a0_3 : Int) (a0_4 : Bool) (a0_5 : ByteArray) (a0_6 : Bool) (a0_7 : Int) (a0_8 : Int) (a0_9 : Int) (a0_10 : Int) (a0_11 : Int) (a0_12 : Int) (a0_13 : Int) (a0_14 : Int) (a0_15 : Int) (a0_16 : Int) (a1 : Int) (a2 : Int) : Option (Bool) := (longcaselaw09_shown.f).bind fun t319 => ((longcaseref08_Right.f k a0_0 a0_1 a0_2 a0_3 a0_4 a0_5 a0_6 a0_7 a0_8 a0_9 a0_10 a0_11 a0_12 a0_13 a0_14 a0_15 a0_16 true).bind fun t320 => (if t320 = true then (longcaselaw09_RuleWhole.j0 k a1 a2 t319 (!a0_6) a0_0 a0_1 a0_2 a0_3 a0_4 a0_5 a0_6 a0_7 a0_8 a0_9 a0_10 a0_11 a0_12 a0_13 a0_14 a0_15 a0_16) else (longcaselaw09_RuleWhole.j0 k a1 a2 t319 true a0_0 a0_1 a0_2 a0_3 a0_4 a0_5 a0_6 a0_7 a0_8 a0_9 a0_10 a0_11 a0_12 a0_13 a0_14 a0_15 a0_16)))
theorem longcaselaw09_RuleWhole.mono_l : ∀ k, (∀ y0 y1 y2 y3 y4 y5 y6 y7 y8 y9 y10 y11 y12 y13 y14 y15 y16 y17 y18 y19 y20, LeO (longcaselaw09_RuleWhole.j0 k y0 y1 y2 y3 y4 y5 y6 y7 y8 y9 y10 y11 y12 y13 y14 y15 y16 y17 y18 y19 y20) (longcaselaw09_RuleWhole.j0 (k + 1) y0 y1 y2 y3 y4 y5 y6 y7 y8 y9 y10 y11 y12 y13 y14 y15 y16 y17 y18 y19 y20)) ∧ (∀ y0 y1 y2 y3 y4 y5 y6 y7 y8 y9 y10 y11 y12 y13 y14 y15 y16 y17 y18 y19 y20 y21 y22, LeO (longcaselaw09_RuleWhole.l0 k y0 y1 y2 y3 y4 y5 y6 y7 y8 y9 y10 y11 y12 y13 y14 y15 y16 y17 y18 y19 y20 y21 y22) (longcaselaw09_RuleWhole.l0 (k + 1) y0 y1 y2 y3 y4 y5 y6 y7 y8 y9 y10 y11 y12 y13 y14 y15 y16 y17 y18 y19 y20 y21 y22)) ∧ (∀ y0 y1 y2 y3 y4 y5 y6 y7 y8 y9 y10 y11 y12 y13 y14 y15 y16 y17 y18 y19 y20 y21 y22 y23 y24 y25, LeO (longcaselaw09_RuleWhole.j2 k y0 y1 y2 y3 y4 y5 y6 y7 y8 y9 y10 y11 y12 y13 y14 y15 y16 y17 y18 y19 y20 y21 y22 y23 y24 y25) (longcaselaw09_RuleWhole.j2 (k + 1) y0 y1 y2 y3 y4 y5 y6 y7 y8 y9 y10 y11 y12 y13 y14 y15 y16 y17 y18 y19 y20 y21 y22 y23 y24 y25))
  | 0 => ⟨fun _ _ _ _ _ _ _ _ _ _ _ _ _ _ _ _ _ _ _ _ _ r h => by simp [longcaselaw09_RuleWhole.j0] at h, fun _ _ _ _ _ _ _ _ _ _ _ _ _ _ _ _ _ _ _ _ _ _ _ r h => by simp [longcaselaw09_RuleWhole.l0] at h, fun _ _ _ _ _ _ _ _ _ _ _ _ _ _ _ _ _ _ _ _ _ _ _ _ _ _ r h => by simp [longcaselaw09_RuleWhole.j2] at h⟩
  | k + 1 => by
    obtain ⟨ih0, ih1, ih2⟩ := longcaselaw09_RuleWhole.mono_l k
    refine ⟨?_, ?_, ?_⟩
    · intro y0 y1 y2 y3 y4 y5 y6 y7 y8 y9 y10 y11 y12 y13 y14 y15 y16 y17 y18 y19 y20
      unfold longcaselaw09_RuleWhole.j0
      repeat' first
      | (with_reducible exact ih0 _ _ _ _ _ _ _ _ _ _ _ _ _ _ _ _ _ _ _ _ _)
      | (with_reducible exact ih1 _ _ _ _ _ _ _ _ _ _ _ _ _ _ _ _ _ _ _ _ _ _ _)
      | (with_reducible exact ih2 _ _ _ _ _ _ _ _ _ _ _ _ _ _ _ _ _ _ _ _ _ _ _ _ _ _)
      | (with_reducible exact longcaseref08_Right.mono _ _ _ _ _ _ _ _ _ _ _ _ _ _ _ _ _ _ _)
      | (with_reducible exact rule_At.mono _ _ _ _ _ _ _ _ _ _ _ _ _ _ _ _ _ _ _)
      | (with_reducible exact rule_Turns.mono _ _ _ _ _ _ _ _ _ _ _ _ _ _ _ _ _ _ _)
      | (with_reducible exact LeO.refl _)
      | (with_reducible exact LeO.none _)
      | (with_reducible refine LeO.ite ?_ ?_)
      | (with_reducible refine LeO.bind ?_ (fun _ => ?_))
      | exact ih0 _ _ _ _ _ _ _ _ _ _ _ _ _ _ _ _ _ _ _ _ _
      | exact ih1 _ _ _ _ _ _ _ _ _ _ _ _ _ _ _ _ _ _ _ _ _ _ _
      | exact ih2 _ _ _ _ _ _ _ _ _ _ _ _ _ _ _ _ _ _ _ _ _ _ _ _ _ _
      | exact longcaseref08_Right.mono _ _ _ _ _ _ _ _ _ _ _ _ _ _ _ _ _ _ _
      | exact rule_At.mono _ _ _ _ _ _ _ _ _ _ _ _ _ _ _ _ _ _ _
      | exact rule_Turns.mono _ _ _ _ _ _ _ _ _ _ _ _ _ _ _ _ _ _ _
      | exact LeO.none _
      | refine LeO.ite ?_ ?_
      | refine LeO.bind ?_ (fun _ => ?_)
    · intro y0 y1 y2 y3 y4 y5 y6 y7 y8 y9 y10 y11 y12 y13 y14 y15 y16 y17 y18 y19 y20 y21 y22
      unfold longcaselaw09_RuleWhole.l0
      repeat' first
      | (with_reducible exact ih0 _ _ _ _ _ _ _ _ _ _ _ _ _ _ _ _ _ _ _ _ _)
      | (with_reducible exact ih1 _ _ _ _ _ _ _ _ _ _ _ _ _ _ _ _ _ _ _ _ _ _ _)
      | (with_reducible exact ih2 _ _ _ _ _ _ _ _ _ _ _ _ _ _ _ _ _ _ _ _ _ _ _ _ _ _)
      | (with_reducible exact longcaseref08_Right.mono _ _ _ _ _ _ _ _ _ _ _ _ _ _ _ _ _ _ _)
      | (with_reducible exact rule_At.mono _ _ _ _ _ _ _ _ _ _ _ _ _ _ _ _ _ _ _)
      | (with_reducible exact rule_Turns.mono _ _ _ _ _ _ _ _ _ _ _ _ _ _ _ _ _ _ _)
      | (with_reducible exact LeO.refl _)
      | (with_reducible exact LeO.none _)
      | (with_reducible refine LeO.ite ?_ ?_)
      | (with_reducible refine LeO.bind ?_ (fun _ => ?_))
      | exact ih0 _ _ _ _ _ _ _ _ _ _ _ _ _ _ _ _ _ _ _ _ _
      | exact ih1 _ _ _ _ _ _ _ _ _ _ _ _ _ _ _ _ _ _ _ _ _ _ _
      | exact ih2 _ _ _ _ _ _ _ _ _ _ _ _ _ _ _ _ _ _ _ _ _ _ _ _ _ _
      | exact longcaseref08_Right.mono _ _ _ _ _ _ _ _ _ _ _ _ _ _ _ _ _ _ _
      | exact rule_At.mono _ _ _ _ _ _ _ _ _ _ _ _ _ _ _ _ _ _ _
      | exact rule_Turns.mono _ _ _ _ _ _ _ _ _ _ _ _ _ _ _ _ _ _ _
      | exact LeO.none _
      | refine LeO.ite ?_ ?_
      | refine LeO.bind ?_ (fun _ => ?_)
    · intro y0 y1 y2 y3 y4 y5 y6 y7 y8 y9 y10 y11 y12 y13 y14 y15 y16 y17 y18 y19 y20 y21 y22 y23 y24 y25
      unfold longcaselaw09_RuleWhole.j2
      repeat' first
      | (with_reducible exact ih0 _ _ _ _ _ _ _ _ _ _ _ _ _ _ _ _ _ _ _ _ _)
      | (with_reducible exact ih1 _ _ _ _ _ _ _ _ _ _ _ _ _ _ _ _ _ _ _ _ _ _ _)
      | (with_reducible exact ih2 _ _ _ _ _ _ _ _ _ _ _ _ _ _ _ _ _ _ _ _ _ _ _ _ _ _)
      | (with_reducible exact longcaseref08_Right.mono _ _ _ _ _ _ _ _ _ _ _ _ _ _ _ _ _ _ _)
      | (with_reducible exact rule_At.mono _ _ _ _ _ _ _ _ _ _ _ _ _ _ _ _ _ _ _)
      | (with_reducible exact rule_Turns.mono _ _ _ _ _ _ _ _ _ _ _ _ _ _ _ _ _ _ _)
      | (with_reducible exact LeO.refl _)
      | (with_reducible exact LeO.none _)
      | (with_reducible refine LeO.ite ?_ ?_)
      | (with_reducible refine LeO.bind ?_ (fun _ => ?_))
      | exact ih0 _ _ _ _ _ _ _ _ _ _ _ _ _ _ _ _ _ _ _ _ _
      | exact ih1 _ _ _ _ _ _ _ _ _ _ _ _ _ _ _ _ _ _ _ _ _ _ _
      | exact ih2 _ _ _ _ _ _ _ _ _ _ _ _ _ _ _ _ _ _ _ _ _ _ _ _ _ _
      | exact longcaseref08_Right.mono _ _ _ _ _ _ _ _ _ _ _ _ _ _ _ _ _ _ _
      | exact rule_At.mono _ _ _ _ _ _ _ _ _ _ _ _ _ _ _ _ _ _ _
      | exact rule_Turns.mono _ _ _ _ _ _ _ _ _ _ _ _ _ _ _ _ _ _ _
      | exact LeO.none _
      | refine LeO.ite ?_ ?_
      | refine LeO.bind ?_ (fun _ => ?_)
theorem longcaselaw09_RuleWhole.mono : ∀ a0 a1 a2 a3 a4 a5 a6 a7 a8 a9 a10 a11 a12 a13 a14 a15 a16 a17 a18 k, LeO (longcaselaw09_RuleWhole.f k a0 a1 a2 a3 a4 a5 a6 a7 a8 a9 a10 a11 a12 a13 a14 a15 a16 a17 a18) (longcaselaw09_RuleWhole.f (k + 1) a0 a1 a2 a3 a4 a5 a6 a7 a8 a9 a10 a11 a12 a13 a14 a15 a16 a17 a18) := by
  intro a0 a1 a2 a3 a4 a5 a6 a7 a8 a9 a10 a11 a12 a13 a14 a15 a16 a17 a18 k
  obtain ⟨ih0, ih1, ih2⟩ := longcaselaw09_RuleWhole.mono_l k
  unfold longcaselaw09_RuleWhole.f
  repeat' first
      | (with_reducible exact ih0 _ _ _ _ _ _ _ _ _ _ _ _ _ _ _ _ _ _ _ _ _)
      | (with_reducible exact ih1 _ _ _ _ _ _ _ _ _ _ _ _ _ _ _ _ _ _ _ _ _ _ _)
      | (with_reducible exact ih2 _ _ _ _ _ _ _ _ _ _ _ _ _ _ _ _ _ _ _ _ _ _ _ _ _ _)
      | (with_reducible exact longcaseref08_Right.mono _ _ _ _ _ _ _ _ _ _ _ _ _ _ _ _ _ _ _)
      | (with_reducible exact rule_At.mono _ _ _ _ _ _ _ _ _ _ _ _ _ _ _ _ _ _ _)
      | (with_reducible exact rule_Turns.mono _ _ _ _ _ _ _ _ _ _ _ _ _ _ _ _ _ _ _)
      | (with_reducible exact LeO.refl _)
      | (with_reducible exact LeO.none _)
      | (with_reducible refine LeO.ite ?_ ?_)
      | (with_reducible refine LeO.bind ?_ (fun _ => ?_))
      | exact ih0 _ _ _ _ _ _ _ _ _ _ _ _ _ _ _ _ _ _ _ _ _
      | exact ih1 _ _ _ _ _ _ _ _ _ _ _ _ _ _ _ _ _ _ _ _ _ _ _
      | exact ih2 _ _ _ _ _ _ _ _ _ _ _ _ _ _ _ _ _ _ _ _ _ _ _ _ _ _
      | exact longcaseref08_Right.mono _ _ _ _ _ _ _ _ _ _ _ _ _ _ _ _ _ _ _
      | exact rule_At.mono _ _ _ _ _ _ _ _ _ _ _ _ _ _ _ _ _ _ _
      | exact rule_Turns.mono _ _ _ _ _ _ _ _ _ _ _ _ _ _ _ _ _ _ _
      | exact LeO.none _
      | refine LeO.ite ?_ ?_
      | refine LeO.bind ?_ (fun _ => ?_)
set_option maxHeartbeats 8000000 in
set_option maxRecDepth 100000 in
theorem longcaselaw09_RuleWhole.calls (k : Nat) (a0_0 : Int) (a0_1 : Bool) (a0_2 : ByteArray) (a0_3 : Int) (a0_4 : Bool) (a0_5 : ByteArray) (a0_6 : Bool) (a0_7 : Int) (a0_8 : Int) (a0_9 : Int) (a0_10 : Int) (a0_11 : Int) (a0_12 : Int) (a0_13 : Int) (a0_14 : Int) (a0_15 : Int) (a0_16 : Int) (a1 : Int) (a2 : Int) (r : Bool) (w : World) (hG : GL w) (h : longcaselaw09_RuleWhole.f k a0_0 a0_1 a0_2 a0_3 a0_4 a0_5 a0_6 a0_7 a0_8 a0_9 a0_10 a0_11 a0_12 a0_13 a0_14 a0_15 a0_16 a1 a2 = some r) :
    Calls Tryd.prog 8 #[.agg #[.int .i64 a0_0, .bool a0_1, .string a0_2, .int .i64 a0_3, .bool a0_4, .string a0_5, .bool a0_6, .int .i64 a0_7, .int .i64 a0_8, .int .i64 a0_9, .int .i64 a0_10, .int .i64 a0_11, .int .i64 a0_12, .int .i64 a0_13, .int .i64 a0_14, .int .i64 a0_15, .int .i64 a0_16], .int .i64 a1, .int .i64 a2] w fun e w' => e = .returned (.bool r) ∧ Below w.heap.size w w' := by
  have hu27 := Tryd.underlying27
  have hu23 := Tryd.underlying23
  have HG := Aside0.mk hG
  clear hG
  have HB := Aside0.mk (Below.refl w.heap.size w)
  have H : ((longcaselaw09_shown.f).bind fun t319 => ((longcaseref08_Right.f k a0_0 a0_1 a0_2 a0_3 a0_4 a0_5 a0_6 a0_7 a0_8 a0_9 a0_10 a0_11 a0_12 a0_13 a0_14 a0_15 a0_16 true).bind fun t320 => (if t320 = true then (longcaselaw09_RuleWhole.j0 k a1 a2 t319 (!a0_6) a0_0 a0_1 a0_2 a0_3 a0_4 a0_5 a0_6 a0_7 a0_8 a0_9 a0_10 a0_11 a0_12 a0_13 a0_14 a0_15 a0_16) else (longcaselaw09_RuleWhole.j0 k a1 a2 t319 true a0_0 a0_1 a0_2 a0_3 a0_4 a0_5 a0_6 a0_7 a0_8 a0_9 a0_10 a0_11 a0_12 a0_13 a0_14 a0_15 a0_16)))) = some r := h
  clear h
  replace H := Option.bind_eq_some_iff.mp H
  obtain ⟨t319, A40, H⟩ := H
  replace H : ((longcaseref08_Right.f k a0_0 a0_1 a0_2 a0_3 a0_4 a0_5 a0_6 a0_7 a0_8 a0_9 a0_10 a0_11 a0_12 a0_13 a0_14 a0_15 a0_16 true).bind fun t320 => (if t320 = true then (longcaselaw09_RuleWhole.j0 k a1 a2 t319 (!a0_6) a0_0 a0_1 a0_2 a0_3 a0_4 a0_5 a0_6 a0_7 a0_8 a0_9 a0_10 a0_11 a0_12 a0_13 a0_14 a0_15 a0_16) else (longcaselaw09_RuleWhole.j0 k a1 a2 t319 true a0_0 a0_1 a0_2 a0_3 a0_4 a0_5 a0_6 a0_7 a0_8 a0_9 a0_10 a0_11 a0_12 a0_13 a0_14 a0_15 a0_16))) = some r := H
  have A4 := Aside0.mk A40
  clear A40
  replace H := Option.bind_eq_some_iff.mp H
  obtain ⟨t320, A50, H⟩ := H
  replace H : (if t320 = true then (longcaselaw09_RuleWhole.j0 k a1 a2 t319 (!a0_6) a0_0 a0_1 a0_2 a0_3 a0_4 a0_5 a0_6 a0_7 a0_8 a0_9 a0_10 a0_11 a0_12 a0_13 a0_14 a0_15 a0_16) else (longcaselaw09_RuleWhole.j0 k a1 a2 t319 true a0_0 a0_1 a0_2 a0_3 a0_4 a0_5 a0_6 a0_7 a0_8 a0_9 a0_10 a0_11 a0_12 a0_13 a0_14 a0_15 a0_16)) = some r := H
  have A5 := Aside0.mk A50
  clear A50
  have HC6 := Aside0.mk H
  clear H
  go_enter Tryd.func8, Tryd.ntmps8
  go_upto_region 3 with (first | ((with_reducible refine gate_dst (N := 3) rfl ?_); refine box_event ?hg (N := 3) ?hd (cs := #[.int .i64 a0_0, .bool a0_1, .string a0_2, .int .i64 a0_3, .bool a0_4, .string a0_5, .bool a0_6, .int .i64 a0_7, .int .i64 a0_8, .int .i64 a0_9, .int .i64 a0_10, .int .i64 a0_11, .int .i64 a0_12, .int .i64 a0_13, .int .i64 a0_14, .int .i64 a0_15, .int .i64 a0_16]) (t := 27) ?hr ?_; (case hd => rfl); (case hg => rfl); (case hr => first | (go_simp; done) | (go_simp; rfl)); intro gb318 hg w7 hbox hb; have n0_ := Aside0.mk (below_step (by repeat (first | (with_reducible first | exact HB.out | apply below_alloc | apply pw_below_drewN | apply below_drew1) | exact HB.out)) hb); have n1_ := Aside0.mk (hbox); have n2_ := Aside0.mk ((by rw [hg]; exact (below_size (by repeat (first | (with_reducible first | exact HB.out | apply below_alloc | apply pw_below_drewN | apply below_drew1) | exact HB.out))) : w.heap.size ≤ gb318)); have n3_ := Aside0.mk ((by rw [hg]; exact (below_size (by repeat (first | (with_reducible first | exact HB.out | apply below_alloc | apply pw_below_drewN | apply below_drew1) | exact HB.out))) : w.heap.size ≤ gb318)); clear HB; have HB := n0_; have BK318 := n1_; have GW318 := n2_; have GE318 := n3_; clear n0_ n1_ n2_ n3_; clear hb hbox hg) | ((with_reducible refine gate_callee (f := 11) rfl ?_); refine goesL_ (some 21) rfl rfl Tryd.func11 (by kernel_rfl) rfl #[] rfl (by (try simp only [List.map_toArray, List.map_cons, List.map_nil]); first | done | rfl | (simp only [List.length_drop, List.length_take]; rfl)) ?_; (with_reducible refine (longcaselaw09_shown.calls  t319 _ ?side1 A4.out).mono ?_); (case side1 => exact GL.below HG.out (by repeat (first | (with_reducible first | exact HB.out | apply below_alloc | apply pw_below_drewN | apply below_drew1 | refine below_set ?_ GE318.out) | exact HB.out))); rintro e w8 ⟨rfl, hb⟩; refine ⟨_, rfl, ?_⟩; have n0_ := Aside0.mk (blk_below (g := gb318) (o := .cells #[.int .i64 a0_0, .bool a0_1, .string a0_2, .int .i64 a0_3, .bool a0_4, .string a0_5, .bool a0_6, .int .i64 a0_7, .int .i64 a0_8, .int .i64 a0_9, .int .i64 a0_10, .int .i64 a0_11, .int .i64 a0_12, .int .i64 a0_13, .int .i64 a0_14, .int .i64 a0_15, .int .i64 a0_16] 27 (0, 0)) (by (with_reducible repeat (first | refine blk_drewN ?_ _ | refine blk_drew ?_ | refine blk_alloc ?_ _)); exact BK318.out) hb); have n1_ := Aside0.mk (below_step (by repeat (first | (with_reducible first | exact HB.out | apply below_alloc | apply pw_below_drewN | apply below_drew1 | refine below_set ?_ GE318.out) | exact HB.out)) hb); clear BK318; clear HB; have BK318 := n0_; have HB := n1_; clear n0_ n1_; (try clear hb); (try clear hb2); (try clear hk); (try clear hi)) | ((with_reducible refine gate_dst (N := 22) rfl ?_); refine wpList_load_row rfl 27 _ rfl (gb318) rfl 27 #[.int .i64 a0_0, .bool a0_1, .string a0_2, .int .i64 a0_3, .bool a0_4, .string a0_5, .bool a0_6, .int .i64 a0_7, .int .i64 a0_8, .int .i64 a0_9, .int .i64 a0_10, .int .i64 a0_11, .int .i64 a0_12, .int .i64 a0_13, .int .i64 a0_14, .int .i64 a0_15, .int .i64 a0_16] (0, 0) _ (by (with_reducible repeat (first | refine blk_drewN ?_ _ | refine blk_drew ?_ | refine blk_alloc ?_ _)); exact BK318.out) Tryd.underlying27 rfl (by kernel_rfl) ?_) | ((with_reducible refine gate_callee (f := 18) rfl ?_); refine goesL_ (some 23) rfl rfl Tryd.func18 (by kernel_rfl) rfl #[.agg #[.int .i64 a0_0, .bool a0_1, .string a0_2, .int .i64 a0_3, .bool a0_4, .string a0_5, .bool a0_6, .int .i64 a0_7, .int .i64 a0_8, .int .i64 a0_9, .int .i64 a0_10, .int .i64 a0_11, .int .i64 a0_12, .int .i64 a0_13, .int .i64 a0_14, .int .i64 a0_15, .int .i64 a0_16], .bool true] rfl (by (try simp only [List.map_toArray, List.map_cons, List.map_nil]); first | done | rfl | (simp only [List.length_drop, List.length_take]; rfl)) ?_; (with_reducible refine (longcaseref08_Right.calls k a0_0 a0_1 a0_2 a0_3 a0_4 a0_5 a0_6 a0_7 a0_8 a0_9 a0_10 a0_11 a0_12 a0_13 a0_14 a0_15 a0_16 true t320 _ A5.out).mono ?_); rintro e w9 ⟨rfl, hb⟩; refine ⟨_, rfl, ?_⟩; have n0_ := Aside0.mk (blk_below (g := gb318) (o := .cells #[.int .i64 a0_0, .bool a0_1, .string a0_2, .int .i64 a0_3, .bool a0_4, .string a0_5, .bool a0_6, .int .i64 a0_7, .int .i64 a0_8, .int .i64 a0_9, .int .i64 a0_10, .int .i64 a0_11, .int .i64 a0_12, .int .i64 a0_13, .int .i64 a0_14, .int .i64 a0_15, .int .i64 a0_16] 27 (0, 0)) (by (with_reducible repeat (first | refine blk_drewN ?_ _ | refine blk_drew ?_ | refine blk_alloc ?_ _)); exact BK318.out) hb); have n1_ := Aside0.mk (below_step (by repeat (first | (with_reducible first | exact HB.out | apply below_alloc | apply pw_below_drewN | apply below_drew1 | refine below_set ?_ GE318.out) | exact HB.out)) hb); clear BK318; clear HB; have BK318 := n0_; have HB := n1_; clear n0_ n1_; (try clear hb); (try clear hb2); (try clear hk); (try clear hi)))
  (try simp only [Act.put, List.setIfInBounds_toArray, List.set_cons_zero, List.set_cons_succ])
  go_cut [30] (fun v30 wc => ∃ (kq : Nat) (x30_5 : Bool), v30 = .bool x30_5 ∧ Aside0 (longcaselaw09_RuleWhole.j0 kq a1 a2 t319 x30_5 a0_0 a0_1 a0_2 a0_3 a0_4 a0_5 a0_6 a0_7 a0_8 a0_9 a0_10 a0_11 a0_12 a0_13 a0_14 a0_15 a0_16 = some r) ∧ Aside0 (kq ≤ k) ∧ Aside0 (wc.heap[gb318]? = some (.cells #[.int .i64 a0_0, .bool a0_1, .string a0_2, .int .i64 a0_3, .bool a0_4, .string a0_5, .bool a0_6, .int .i64 a0_7, .int .i64 a0_8, .int .i64 a0_9, .int .i64 a0_10, .int .i64 a0_11, .int .i64 a0_12, .int .i64 a0_13, .int .i64 a0_14, .int .i64 a0_15, .int .i64 a0_16] 27 (0, 0))) ∧ Aside0 (Below w.heap.size w wc))
  case first =>
    have H := HC6.out
    clear HC6
    by_cases c10 : t320 = true
    · subst c10
      have H1 : (longcaselaw09_RuleWhole.j0 k a1 a2 t319 (!a0_6) a0_0 a0_1 a0_2 a0_3 a0_4 a0_5 a0_6 a0_7 a0_8 a0_9 a0_10 a0_11 a0_12 a0_13 a0_14 a0_15 a0_16) = some r := by rw [if_pos rfl] at H; exact H
      clear H
      have H := H1
      clear H1
      have H' := Aside0.mk H
      clear H
      have hcz11_0 : w9.cell? ⟨gb318, 0, none⟩ = some (.int .i64 a0_0) := (blk_cell BK318.out 0).trans rfl
      have hcz11_1 : w9.cell? ⟨gb318, 1, none⟩ = some (.bool a0_1) := (blk_cell BK318.out 1).trans rfl
      have hcz11_2 : w9.cell? ⟨gb318, 2, none⟩ = some (.string a0_2) := (blk_cell BK318.out 2).trans rfl
      have hcz11_3 : w9.cell? ⟨gb318, 3, none⟩ = some (.int .i64 a0_3) := (blk_cell BK318.out 3).trans rfl
      have hcz11_4 : w9.cell? ⟨gb318, 4, none⟩ = some (.bool a0_4) := (blk_cell BK318.out 4).trans rfl
      have hcz11_5 : w9.cell? ⟨gb318, 5, none⟩ = some (.string a0_5) := (blk_cell BK318.out 5).trans rfl
      have hcz11_6 : w9.cell? ⟨gb318, 6, none⟩ = some (.bool a0_6) := (blk_cell BK318.out 6).trans rfl
      have hcz11_7 : w9.cell? ⟨gb318, 7, none⟩ = some (.int .i64 a0_7) := (blk_cell BK318.out 7).trans rfl
      have hcz11_8 : w9.cell? ⟨gb318, 8, none⟩ = some (.int .i64 a0_8) := (blk_cell BK318.out 8).trans rfl
      have hcz11_9 : w9.cell? ⟨gb318, 9, none⟩ = some (.int .i64 a0_9) := (blk_cell BK318.out 9).trans rfl
      have hcz11_10 : w9.cell? ⟨gb318, 10, none⟩ = some (.int .i64 a0_10) := (blk_cell BK318.out 10).trans rfl
      have hcz11_11 : w9.cell? ⟨gb318, 11, none⟩ = some (.int .i64 a0_11) := (blk_cell BK318.out 11).trans rfl
      have hcz11_12 : w9.cell? ⟨gb318, 12, none⟩ = some (.int .i64 a0_12) := (blk_cell BK318.out 12).trans rfl
      have hcz11_13 : w9.cell? ⟨gb318, 13, none⟩ = some (.int .i64 a0_13) := (blk_cell BK318.out 13).trans rfl
      have hcz11_14 : w9.cell? ⟨gb318, 14, none⟩ = some (.int .i64 a0_14) := (blk_cell BK318.out 14).trans rfl
      have hcz11_15 : w9.cell? ⟨gb318, 15, none⟩ = some (.int .i64 a0_15) := (blk_cell BK318.out 15).trans rfl
      have hcz11_16 : w9.cell? ⟨gb318, 16, none⟩ = some (.int .i64 a0_16) := (blk_cell BK318.out 16).trans rfl
      have hfz11_0 := blk_frozen BK318.out 0
      have hfz11_1 := blk_frozen BK318.out 1
      have hfz11_2 := blk_frozen BK318.out 2
      have hfz11_3 := blk_frozen BK318.out 3
      have hfz11_4 := blk_frozen BK318.out 4
      have hfz11_5 := blk_frozen BK318.out 5
      have hfz11_6 := blk_frozen BK318.out 6
      have hfz11_7 := blk_frozen BK318.out 7
      have hfz11_8 := blk_frozen BK318.out 8
      have hfz11_9 := blk_frozen BK318.out 9
      have hfz11_10 := blk_frozen BK318.out 10
      have hfz11_11 := blk_frozen BK318.out 11
      have hfz11_12 := blk_frozen BK318.out 12
      have hfz11_13 := blk_frozen BK318.out 13
      have hfz11_14 := blk_frozen BK318.out 14
      have hfz11_15 := blk_frozen BK318.out 15
      have hfz11_16 := blk_frozen BK318.out 16
      go_wp2
      go_meet
      case rel => exact ⟨_, (!a0_6), (by first | rfl | (simp; done) | (simp [*]; done)), H', ⟨by first | omega | exact Nat.le_refl _⟩, ⟨by (with_reducible repeat (first | refine blk_drewN ?_ _ | refine blk_drew ?_ | refine blk_alloc ?_ _)); exact BK318.out⟩, ⟨by repeat (first | (with_reducible first | exact HB.out | apply below_alloc | apply pw_below_drewN | apply below_drew1 | refine below_set ?_ GE318.out) | exact HB.out)⟩⟩
    · replace c10 := Bool.eq_false_iff.mpr c10
      subst c10
      have H1 : (longcaselaw09_RuleWhole.j0 k a1 a2 t319 true a0_0 a0_1 a0_2 a0_3 a0_4 a0_5 a0_6 a0_7 a0_8 a0_9 a0_10 a0_11 a0_12 a0_13 a0_14 a0_15 a0_16) = some r := by rw [if_neg (show ¬ (false = true) by decide)] at H; exact H
      clear H
      have H := H1
      clear H1
      have H' := Aside0.mk H
      clear H
      go_wp2
      go_meet
      case rel => exact ⟨_, (true), (by first | rfl | (simp; done) | (simp [*]; done)), H', ⟨by first | omega | exact Nat.le_refl _⟩, ⟨by (with_reducible repeat (first | refine blk_drewN ?_ _ | refine blk_drew ?_ | refine blk_alloc ?_ _)); exact BK318.out⟩, ⟨by repeat (first | (with_reducible first | exact HB.out | apply below_alloc | apply pw_below_drewN | apply below_drew1 | refine below_set ?_ GE318.out) | exact HB.out)⟩⟩
  case rest =>
    clear HC6
    try clear c1
    try clear p2
    try clear c8
    try clear c10
    try clear c11
    try clear hcz11_0
    try clear hcz11_1
    try clear hcz11_10
    try clear hcz11_11
    try clear hcz11_12
    try clear hcz11_13
    try clear hcz11_14
    try clear hcz11_15
    try clear hcz11_16
    try clear hcz11_2
    try clear hcz11_3
    try clear hcz11_4
    try clear hcz11_5
    try clear hcz11_6
    try clear hcz11_7
    try clear hcz11_8
    try clear hcz11_9
    try clear hfz11_0
    try clear hfz11_1
    try clear hfz11_10
    try clear hfz11_11
    try clear hfz11_12
    try clear hfz11_13
    try clear hfz11_14
    try clear hfz11_15
    try clear hfz11_16
    try clear hfz11_2
    try clear hfz11_3
    try clear hfz11_4
    try clear hfz11_5
    try clear hfz11_6
    try clear hfz11_7
    try clear hfz11_8
    try clear hfz11_9
    obtain ⟨kq, x30_5, rfl, HA, HJ5, BK318, HB⟩ := hcut
    cases kq with
    | zero => exact absurd HA.out (by simp [longcaselaw09_RuleWhole.j0])
    | succ kj5 =>
      have H := HA.out
      clear HA
      simp only [longcaselaw09_RuleWhole.j0] at H
      by_cases c12 : x30_5 = true
      · subst c12
        have H1 : (some t319) = some r := by rw [if_pos rfl] at H; exact H
        clear H
        have H := H1
        clear H1
        obtain rfl := Option.some.inj H
        go_wp2
        go_ret
        exact ⟨by first | rfl | (simp [errW_none, errW_some] <;> rfl) | (simp [*, errW_none, errW_some] <;> rfl), by repeat (first | (with_reducible first | exact HB.out | apply below_alloc | apply pw_below_drewN | apply below_drew1 | refine below_set ?_ GE318.out) | exact HB.out)⟩
      · replace c12 := Bool.eq_false_iff.mpr c12
        subst c12
        have H1 : ((rule_Turns.f kj5 a0_0 a0_1 a0_2 a0_3 a0_4 a0_5 a0_6 a0_7 a0_8 a0_9 a0_10 a0_11 a0_12 a0_13 a0_14 a0_15 a0_16 (wrap64 (1800 + (Int.tmod (Go.bits .and .i64 a1 65535) 401)))).bind fun bt321 => (if bt321.2.2 = 0 then (longcaselaw09_RuleWhole.l0 kj5 (wrap64 (1800 + (Int.tmod (Go.bits .and .i64 a1 65535) 401))) t319 (wrap64 ((mn bt321.1 bt321.2.1) + (Go.bits .and .i64 a2 16777215))) (-4611686018427387904) false (wrap64 ((wrap64 (1800 + (Int.tmod (Go.bits .and .i64 a1 65535) 401))) - 1)) a0_0 a0_1 a0_2 a0_3 a0_4 a0_5 a0_6 a0_7 a0_8 a0_9 a0_10 a0_11 a0_12 a0_13 a0_14 a0_15 a0_16) else (some false))) = some r := by rw [if_neg (show ¬ (false = true) by decide)] at H; exact H
        clear H
        have H := H1
        clear H1
        replace H := Option.bind_eq_some_iff.mp H
        obtain ⟨⟨t321, t322, t323⟩, A130, H⟩ := H
        replace H : (if t323 = 0 then (longcaselaw09_RuleWhole.l0 kj5 (wrap64 (1800 + (Int.tmod (Go.bits .and .i64 a1 65535) 401))) t319 (wrap64 ((mn t321 t322) + (Go.bits .and .i64 a2 16777215))) (-4611686018427387904) false (wrap64 ((wrap64 (1800 + (Int.tmod (Go.bits .and .i64 a1 65535) 401))) - 1)) a0_0 a0_1 a0_2 a0_3 a0_4 a0_5 a0_6 a0_7 a0_8 a0_9 a0_10 a0_11 a0_12 a0_13 a0_14 a0_15 a0_16) else (some false)) = some r := H
        have A13 := Aside0.mk A130
        clear A130
        by_cases c14 : t323 = 0
        · rw [if_pos c14] at H
          have c14b0 : (t323 == 0) = true := beq_iff_eq.mpr c14
          have c14b1 : (t323 != 0) = false := bne_eq_false_iff_eq.mpr c14
          clear c14
          obtain ⟨ji15, hji15⟩ : ∃ j_ : Int, (mn t321 t322) = j_ := ⟨_, rfl⟩
          replace H : (longcaselaw09_RuleWhole.l0 kj5 (wrap64 (1800 + (Int.tmod (Go.bits .and .i64 a1 65535) 401))) t319 (wrap64 ((ji15) + (Go.bits .and .i64 a2 16777215))) (-4611686018427387904) false (wrap64 ((wrap64 (1800 + (Int.tmod (Go.bits .and .i64 a1 65535) 401))) - 1)) a0_0 a0_1 a0_2 a0_3 a0_4 a0_5 a0_6 a0_7 a0_8 a0_9 a0_10 a0_11 a0_12 a0_13 a0_14 a0_15 a0_16) = some r := by first | (rw [hji15] at H; exact H) | (simp only [hji15] at H ⊢; exact H)
          (try rw [hji15] at A13)
          have hji15_ : (if t322 < t321 then t322 else t321) = ji15 := hji15
          have H' := Aside0.mk H
          clear H
          go_wp2_with (first | ((with_reducible refine gate_dst (N := 37) rfl ?_); refine wpList_load_row rfl 27 _ rfl (gb318) rfl 27 #[.int .i64 a0_0, .bool a0_1, .string a0_2, .int .i64 a0_3, .bool a0_4, .string a0_5, .bool a0_6, .int .i64 a0_7, .int .i64 a0_8, .int .i64 a0_9, .int .i64 a0_10, .int .i64 a0_11, .int .i64 a0_12, .int .i64 a0_13, .int .i64 a0_14, .int .i64 a0_15, .int .i64 a0_16] (0, 0) _ (by (with_reducible repeat (first | refine blk_drewN ?_ _ | refine blk_drew ?_ | refine blk_alloc ?_ _)); exact BK318.out) Tryd.underlying27 rfl (by kernel_rfl) ?_) | ((with_reducible refine gate_callee (f := 14) rfl ?_); refine goesL_ (some 39) rfl rfl Tryd.func14 (by kernel_rfl) rfl #[.agg #[.int .i64 a0_0, .bool a0_1, .string a0_2, .int .i64 a0_3, .bool a0_4, .string a0_5, .bool a0_6, .int .i64 a0_7, .int .i64 a0_8, .int .i64 a0_9, .int .i64 a0_10, .int .i64 a0_11, .int .i64 a0_12, .int .i64 a0_13, .int .i64 a0_14, .int .i64 a0_15, .int .i64 a0_16], .int .i64 (wrap64 (1800 + (Int.tmod (Go.bits .and .i64 a1 65535) 401)))] rfl (by (try simp only [List.map_toArray, List.map_cons, List.map_nil]); first | done | rfl | (simp only [List.length_drop, List.length_take]; rfl)) ?_; (with_reducible refine (rule_Turns.calls kj5 a0_0 a0_1 a0_2 a0_3 a0_4 a0_5 a0_6 a0_7 a0_8 a0_9 a0_10 a0_11 a0_12 a0_13 a0_14 a0_15 a0_16 (wrap64 (1800 + (Int.tmod (Go.bits .and .i64 a1 65535) 401))) t321 t322 t323 _ ?side1 A13.out).mono ?_); (case side1 => exact GL.below HG.out (by repeat (first | (with_reducible first | exact HB.out | apply below_alloc | apply pw_below_drewN | apply below_drew1 | refine below_set ?_ GE318.out) | exact HB.out))); rintro e w16 ⟨rfl, hb⟩; refine ⟨_, rfl, ?_⟩; have n0_ := Aside0.mk (blk_below (g := gb318) (o := .cells #[.int .i64 a0_0, .bool a0_1, .string a0_2, .int .i64 a0_3, .bool a0_4, .string a0_5, .bool a0_6, .int .i64 a0_7, .int .i64 a0_8, .int .i64 a0_9, .int .i64 a0_10, .int .i64 a0_11, .int .i64 a0_12, .int .i64 a0_13, .int .i64 a0_14, .int .i64 a0_15, .int .i64 a0_16] 27 (0, 0)) (by (with_reducible repeat (first | refine blk_drewN ?_ _ | refine blk_drew ?_ | refine blk_alloc ?_ _)); exact BK318.out) hb); have n1_ := Aside0.mk (below_step (by repeat (first | (with_reducible first | exact HB.out | apply below_alloc | apply pw_below_drewN | apply below_drew1 | refine below_set ?_ GE318.out) | exact HB.out)) hb); clear BK318; clear HB; have BK318 := n0_; have HB := n1_; clear n0_ n1_; (try clear hb); (try clear hb2); (try clear hk); (try clear hi)))
          go_loopg [13, 14, 15] kj5 (fun kq v13 v14 v15 w' => ∃ (x13_2 : Int) (x14_2 : Bool) (x15_2 : Int), v13 = .int .i64 x13_2 ∧ v14 = .bool x14_2 ∧ v15 = .int .i64 x15_2 ∧ Aside0 (longcaselaw09_RuleWhole.l0 kq (wrap64 (1800 + (Int.tmod (Go.bits .and .i64 a1 65535) 401))) t319 (wrap64 ((ji15) + (Go.bits .and .i64 a2 16777215))) x13_2 x14_2 x15_2 a0_0 a0_1 a0_2 a0_3 a0_4 a0_5 a0_6 a0_7 a0_8 a0_9 a0_10 a0_11 a0_12 a0_13 a0_14 a0_15 a0_16 = some r) ∧ Aside0 (kq ≤ kj5) ∧ Aside0 (w'.heap[gb318]? = some (.cells #[.int .i64 a0_0, .bool a0_1, .string a0_2, .int .i64 a0_3, .bool a0_4, .string a0_5, .bool a0_6, .int .i64 a0_7, .int .i64 a0_8, .int .i64 a0_9, .int .i64 a0_10, .int .i64 a0_11, .int .i64 a0_12, .int .i64 a0_13, .int .i64 a0_14, .int .i64 a0_15, .int .i64 a0_16] 27 (0, 0))) ∧ Aside0 (Below w.heap.size w w'))
          case atStart => exact ⟨((-4611686018427387904)), (false), (wrap64 ((wrap64 (1800 + (Int.tmod (Go.bits .and .i64 a1 65535) 401))) - 1)), (by first | rfl | (simp; done) | (simp [*]; done)), (by first | rfl | (simp; done) | (simp [*]; done)), (by first | rfl | (simp; done) | (simp [*]; done)), H', ⟨Nat.le_refl _⟩, ⟨by (with_reducible repeat (first | refine blk_drewN ?_ _ | refine blk_drew ?_ | refine blk_alloc ?_ _)); exact BK318.out⟩, ⟨by repeat (first | (with_reducible first | exact HB.out | apply below_alloc | apply pw_below_drewN | apply below_drew1 | refine below_set ?_ GE318.out) | exact HB.out)⟩⟩
          case round =>
            clear H'
            try clear c1
            try clear p2
            try clear p6
            try clear c8
            try clear c10
            try clear c11
            try clear c12
            try clear c14
            try clear c14b0
            try clear c14b1
            try clear hcz11_0
            try clear hcz11_1
            try clear hcz11_10
            try clear hcz11_11
            try clear hcz11_12
            try clear hcz11_13
            try clear hcz11_14
            try clear hcz11_15
            try clear hcz11_16
            try clear hcz11_2
            try clear hcz11_3
            try clear hcz11_4
            try clear hcz11_5
            try clear hcz11_6
            try clear hcz11_7
            try clear hcz11_8
            try clear hcz11_9
            try clear hfz11_0
            try clear hfz11_1
            try clear hfz11_10
            try clear hfz11_11
            try clear hfz11_12
            try clear hfz11_13
            try clear hfz11_14
            try clear hfz11_15
            try clear hfz11_16
            try clear hfz11_2
            try clear hfz11_3
            try clear hfz11_4
            try clear hfz11_5
            try clear hfz11_6
            try clear hfz11_7
            try clear hfz11_8
            try clear hfz11_9
            try clear p2
            obtain ⟨x13_2, x14_2, x15_2, rfl, rfl, rfl, HA, HK2, BK318, HB⟩ := hrel
            cases gk with
            | zero => exact absurd HA.out (by simp [longcaselaw09_RuleWhole.l0])
            | succ k2 =>
              have H := HA.out
              clear HA
              simp only [longcaselaw09_RuleWhole.l0] at H
              by_cases c17 : x15_2 ≤ (wrap64 ((wrap64 (1800 + (Int.tmod (Go.bits .and .i64 a1 65535) 401))) + 2))
              · rw [if_pos c17] at H
                have c17b0 : decide (x15_2 ≤ (wrap64 ((wrap64 (1800 + (Int.tmod (Go.bits .and .i64 a1 65535) 401))) + 2))) = true := decide_eq_true c17
                clear c17
                replace H := Option.bind_eq_some_iff.mp H
                obtain ⟨⟨t329, t330, t331⟩, A180, H⟩ := H
                replace H : (if t331 = 0 then (if t329 ≤ (wrap64 ((ji15) + (Go.bits .and .i64 a2 16777215))) then (longcaselaw09_RuleWhole.j2 k2 (wrap64 (1800 + (Int.tmod (Go.bits .and .i64 a1 65535) 401))) t319 (wrap64 ((ji15) + (Go.bits .and .i64 a2 16777215))) x13_2 x14_2 x15_2 t329 t330 (decide (t329 ≥ x13_2)) a0_0 a0_1 a0_2 a0_3 a0_4 a0_5 a0_6 a0_7 a0_8 a0_9 a0_10 a0_11 a0_12 a0_13 a0_14 a0_15 a0_16) else (longcaselaw09_RuleWhole.j2 k2 (wrap64 (1800 + (Int.tmod (Go.bits .and .i64 a1 65535) 401))) t319 (wrap64 ((ji15) + (Go.bits .and .i64 a2 16777215))) x13_2 x14_2 x15_2 t329 t330 false a0_0 a0_1 a0_2 a0_3 a0_4 a0_5 a0_6 a0_7 a0_8 a0_9 a0_10 a0_11 a0_12 a0_13 a0_14 a0_15 a0_16)) else (some false)) = some r := H
                have A18 := Aside0.mk A180
                clear A180
                by_cases c19 : t331 = 0
                · rw [if_pos c19] at H
                  have c19b0 : (t331 == 0) = true := beq_iff_eq.mpr c19
                  have c19b1 : (t331 != 0) = false := bne_eq_false_iff_eq.mpr c19
                  clear c19
                  have HC20 := Aside0.mk H
                  clear H
                  go_upto_region 18 with (first | ((with_reducible refine gate_dst (N := 60) rfl ?_); refine wpList_load_row rfl 27 _ rfl (gb318) rfl 27 #[.int .i64 a0_0, .bool a0_1, .string a0_2, .int .i64 a0_3, .bool a0_4, .string a0_5, .bool a0_6, .int .i64 a0_7, .int .i64 a0_8, .int .i64 a0_9, .int .i64 a0_10, .int .i64 a0_11, .int .i64 a0_12, .int .i64 a0_13, .int .i64 a0_14, .int .i64 a0_15, .int .i64 a0_16] (0, 0) _ (by (with_reducible repeat (first | refine blk_drewN ?_ _ | refine blk_drew ?_ | refine blk_alloc ?_ _)); exact BK318.out) Tryd.underlying27 rfl (by kernel_rfl) ?_) | ((with_reducible refine gate_callee (f := 14) rfl ?_); refine goesL_ (some 62) rfl rfl Tryd.func14 (by kernel_rfl) rfl #[.agg #[.int .i64 a0_0, .bool a0_1, .string a0_2, .int .i64 a0_3, .bool a0_4, .string a0_5, .bool a0_6, .int .i64 a0_7, .int .i64 a0_8, .int .i64 a0_9, .int .i64 a0_10, .int .i64 a0_11, .int .i64 a0_12, .int .i64 a0_13, .int .i64 a0_14, .int .i64 a0_15, .int .i64 a0_16], .int .i64 x15_2] rfl (by (try simp only [List.map_toArray, List.map_cons, List.map_nil]); first | done | rfl | (simp only [List.length_drop, List.length_take]; rfl)) ?_; (with_reducible refine (rule_Turns.calls k2 a0_0 a0_1 a0_2 a0_3 a0_4 a0_5 a0_6 a0_7 a0_8 a0_9 a0_10 a0_11 a0_12 a0_13 a0_14 a0_15 a0_16 x15_2 t329 t330 t331 _ ?side1 A18.out).mono ?_); (case side1 => exact GL.below HG.out (by repeat (first | (with_reducible first | exact HB.out | apply below_alloc | apply pw_below_drewN | apply below_drew1 | refine below_set ?_ GE318.out) | exact HB.out))); rintro e w21 ⟨rfl, hb⟩; refine ⟨_, rfl, ?_⟩; have n0_ := Aside0.mk (blk_below (g := gb318) (o := .cells #[.int .i64 a0_0, .bool a0_1, .string a0_2, .int .i64 a0_3, .bool a0_4, .string a0_5, .bool a0_6, .int .i64 a0_7, .int .i64 a0_8, .int .i64 a0_9, .int .i64 a0_10, .int .i64 a0_11, .int .i64 a0_12, .int .i64 a0_13, .int .i64 a0_14, .int .i64 a0_15, .int .i64 a0_16] 27 (0, 0)) (by (with_reducible repeat (first | refine blk_drewN ?_ _ | refine blk_drew ?_ | refine blk_alloc ?_ _)); exact BK318.out) hb); have n1_ := Aside0.mk (below_step (by repeat (first | (with_reducible first | exact HB.out | apply below_alloc | apply pw_below_drewN | apply below_drew1 | refine below_set ?_ GE318.out) | exact HB.out)) hb); clear BK318; clear HB; have BK318 := n0_; have HB := n1_; clear n0_ n1_; (try clear hb); (try clear hb2); (try clear hk); (try clear hi)))
                  (try simp only [Act.put, List.setIfInBounds_toArray, List.set_cons_zero, List.set_cons_succ])
                  go_cut [75] (fun v75 wc => ∃ (kq : Nat) (x75_19 : Bool), v75 = .bool x75_19 ∧ Aside0 (longcaselaw09_RuleWhole.j2 kq (wrap64 (1800 + (Int.tmod (Go.bits .and .i64 a1 65535) 401))) t319 (wrap64 ((ji15) + (Go.bits .and .i64 a2 16777215))) x13_2 x14_2 x15_2 t329 t330 x75_19 a0_0 a0_1 a0_2 a0_3 a0_4 a0_5 a0_6 a0_7 a0_8 a0_9 a0_10 a0_11 a0_12 a0_13 a0_14 a0_15 a0_16 = some r) ∧ Aside0 (kq ≤ k2) ∧ Aside0 (wc.heap[gb318]? = some (.cells #[.int .i64 a0_0, .bool a0_1, .string a0_2, .int .i64 a0_3, .bool a0_4, .string a0_5, .bool a0_6, .int .i64 a0_7, .int .i64 a0_8, .int .i64 a0_9, .int .i64 a0_10, .int .i64 a0_11, .int .i64 a0_12, .int .i64 a0_13, .int .i64 a0_14, .int .i64 a0_15, .int .i64 a0_16] 27 (0, 0))) ∧ Aside0 (Below w.heap.size w wc))
                  case first =>
                    have H := HC20.out
                    clear HC20
                    by_cases c22 : t329 ≤ (wrap64 ((ji15) + (Go.bits .and .i64 a2 16777215)))
                    · rw [if_pos c22] at H
                      have c22b0 : decide (t329 ≤ (wrap64 ((ji15) + (Go.bits .and .i64 a2 16777215)))) = true := decide_eq_true c22
                      clear c22
                      (first | rw [c22b0] | (simp only [i64_w, i32_w]; rw [c22b0]) | skip)
                      have H' := Aside0.mk H
                      clear H
                      go_wp2
                      go_meet
                      case rel => exact ⟨_, (decide (t329 ≥ x13_2)), (by first | rfl | (simp; done) | (simp [*]; done)), H', ⟨by have := HJ5.out; have := HK2.out; first | omega | exact Nat.le_refl _⟩, ⟨by (with_reducible repeat (first | refine blk_drewN ?_ _ | refine blk_drew ?_ | refine blk_alloc ?_ _)); exact BK318.out⟩, ⟨by repeat (first | (with_reducible first | exact HB.out | apply below_alloc | apply pw_below_drewN | apply below_drew1 | refine below_set ?_ GE318.out) | exact HB.out)⟩⟩
                    · rw [if_neg c22] at H
                      have c22b0 : decide (t329 ≤ (wrap64 ((ji15) + (Go.bits .and .i64 a2 16777215)))) = false := decide_eq_false c22
                      clear c22
                      (first | rw [c22b0] | (simp only [i64_w, i32_w]; rw [c22b0]) | skip)
                      have H' := Aside0.mk H
                      clear H
                      go_wp2
                      go_meet
                      case rel => exact ⟨_, (false), (by first | rfl | (simp; done) | (simp [*]; done)), H', ⟨by have := HJ5.out; have := HK2.out; first | omega | exact Nat.le_refl _⟩, ⟨by (with_reducible repeat (first | refine blk_drewN ?_ _ | refine blk_drew ?_ | refine blk_alloc ?_ _)); exact BK318.out⟩, ⟨by repeat (first | (with_reducible first | exact HB.out | apply below_alloc | apply pw_below_drewN | apply below_drew1 | refine below_set ?_ GE318.out) | exact HB.out)⟩⟩
                  case rest =>
                    clear HC20
                    try clear c1
                    try clear c2
                    try clear p2
                    try clear p6
                    try clear c8
                    try clear c10
                    try clear c11
                    try clear c12
                    try clear c14
                    try clear c14b0
                    try clear c14b1
                    try clear c17
                    try clear c17b0
                    try clear c18
                    try clear c19
                    try clear c19b0
                    try clear c19b1
                    try clear c22
                    try clear c22b0
                    try clear hcz11_0
                    try clear hcz11_1
                    try clear hcz11_10
                    try clear hcz11_11
                    try clear hcz11_12
                    try clear hcz11_13
                    try clear hcz11_14
                    try clear hcz11_15
                    try clear hcz11_16
                    try clear hcz11_2
                    try clear hcz11_3
                    try clear hcz11_4
                    try clear hcz11_5
                    try clear hcz11_6
                    try clear hcz11_7
                    try clear hcz11_8
                    try clear hcz11_9
                    try clear hfz11_0
                    try clear hfz11_1
                    try clear hfz11_10
                    try clear hfz11_11
                    try clear hfz11_12
                    try clear hfz11_13
                    try clear hfz11_14
                    try clear hfz11_15
                    try clear hfz11_16
                    try clear hfz11_2
                    try clear hfz11_3
                    try clear hfz11_4
                    try clear hfz11_5
                    try clear hfz11_6
                    try clear hfz11_7
                    try clear hfz11_8
                    try clear hfz11_9
                    try clear p2
                    try clear p6
                    obtain ⟨kq, x75_19, rfl, HA, HJ19, BK318, HB⟩ := hcut
                    cases kq with
                    | zero => exact absurd HA.out (by simp [longcaselaw09_RuleWhole.j2])
                    | succ kj19 =>
                      have H := HA.out
                      clear HA
                      simp only [longcaselaw09_RuleWhole.j2] at H
                      by_cases c23 : x75_19 = true
                      · subst c23
                        have H1 : (if t330 ≤ (wrap64 ((ji15) + (Go.bits .and .i64 a2 16777215))) then (if t330 > t329 then (longcaselaw09_RuleWhole.l0 kj19 (wrap64 (1800 + (Int.tmod (Go.bits .and .i64 a1 65535) 401))) t319 (wrap64 ((ji15) + (Go.bits .and .i64 a2 16777215))) t330 false (wrap64 (x15_2 + 1)) a0_0 a0_1 a0_2 a0_3 a0_4 a0_5 a0_6 a0_7 a0_8 a0_9 a0_10 a0_11 a0_12 a0_13 a0_14 a0_15 a0_16) else (longcaselaw09_RuleWhole.l0 kj19 (wrap64 (1800 + (Int.tmod (Go.bits .and .i64 a1 65535) 401))) t319 (wrap64 ((ji15) + (Go.bits .and .i64 a2 16777215))) t329 true (wrap64 (x15_2 + 1)) a0_0 a0_1 a0_2 a0_3 a0_4 a0_5 a0_6 a0_7 a0_8 a0_9 a0_10 a0_11 a0_12 a0_13 a0_14 a0_15 a0_16)) else (longcaselaw09_RuleWhole.l0 kj19 (wrap64 (1800 + (Int.tmod (Go.bits .and .i64 a1 65535) 401))) t319 (wrap64 ((ji15) + (Go.bits .and .i64 a2 16777215))) t329 true (wrap64 (x15_2 + 1)) a0_0 a0_1 a0_2 a0_3 a0_4 a0_5 a0_6 a0_7 a0_8 a0_9 a0_10 a0_11 a0_12 a0_13 a0_14 a0_15 a0_16)) = some r := by rw [if_pos rfl] at H; exact H
                        clear H
                        have H := H1
                        clear H1
                        by_cases c24 : t330 ≤ (wrap64 ((ji15) + (Go.bits .and .i64 a2 16777215)))
                        · rw [if_pos c24] at H
                          have c24b0 : decide (t330 ≤ (wrap64 ((ji15) + (Go.bits .and .i64 a2 16777215)))) = true := decide_eq_true c24
                          clear c24
                          by_cases c25 : t330 > t329
                          · rw [if_pos c25] at H
                            have c25b0 : decide (t329 < t330) = true := decide_eq_true c25
                            clear c25
                            have H' := Aside0.mk H
                            clear H
                            go_wp2
                            go_roundg kj19
                            case measure => have := HJ5.out; have := HK2.out; have := HJ19.out; omega
                            case rel => exact ⟨(t330), (false), (wrap64 (x15_2 + 1)), (by first | rfl | (simp; done) | (simp [*]; done)), (by first | rfl | (simp; done) | (simp [*]; done)), (by first | rfl | (simp; done) | (simp [*]; done)), H', ⟨by have := HJ5.out; have := HK2.out; have := HJ19.out; omega⟩, ⟨by (with_reducible repeat (first | refine blk_drewN ?_ _ | refine blk_drew ?_ | refine blk_alloc ?_ _)); exact BK318.out⟩, ⟨by repeat (first | (with_reducible first | exact HB.out | apply below_alloc | apply pw_below_drewN | apply below_drew1 | refine below_set ?_ GE318.out) | exact HB.out)⟩⟩
                          · rw [if_neg c25] at H
                            have c25b0 : decide (t329 < t330) = false := decide_eq_false c25
                            clear c25
                            have H' := Aside0.mk H
                            clear H
                            go_wp2
                            go_roundg kj19
                            case measure => have := HJ5.out; have := HK2.out; have := HJ19.out; omega
                            case rel => exact ⟨(t329), (true), (wrap64 (x15_2 + 1)), (by first | rfl | (simp; done) | (simp [*]; done)), (by first | rfl | (simp; done) | (simp [*]; done)), (by first | rfl | (simp; done) | (simp [*]; done)), H', ⟨by have := HJ5.out; have := HK2.out; have := HJ19.out; omega⟩, ⟨by (with_reducible repeat (first | refine blk_drewN ?_ _ | refine blk_drew ?_ | refine blk_alloc ?_ _)); exact BK318.out⟩, ⟨by repeat (first | (with_reducible first | exact HB.out | apply below_alloc | apply pw_below_drewN | apply below_drew1 | refine below_set ?_ GE318.out) | exact HB.out)⟩⟩
                        · rw [if_neg c24] at H
                          have c24b0 : decide (t330 ≤ (wrap64 ((ji15) + (Go.bits .and .i64 a2 16777215)))) = false := decide_eq_false c24
                          clear c24
                          have H' := Aside0.mk H
                          clear H
                          go_wp2
                          go_roundg kj19
                          case measure => have := HJ5.out; have := HK2.out; have := HJ19.out; omega
                          case rel => exact ⟨(t329), (true), (wrap64 (x15_2 + 1)), (by first | rfl | (simp; done) | (simp [*]; done)), (by first | rfl | (simp; done) | (simp [*]; done)), (by first | rfl | (simp; done) | (simp [*]; done)), H', ⟨by have := HJ5.out; have := HK2.out; have := HJ19.out; omega⟩, ⟨by (with_reducible repeat (first | refine blk_drewN ?_ _ | refine blk_drew ?_ | refine blk_alloc ?_ _)); exact BK318.out⟩, ⟨by repeat (first | (with_reducible first | exact HB.out | apply below_alloc | apply pw_below_drewN | apply below_drew1 | refine below_set ?_ GE318.out) | exact HB.out)⟩⟩
                      · replace c23 := Bool.eq_false_iff.mpr c23
                        subst c23
                        have H1 : (if t330 ≤ (wrap64 ((ji15) + (Go.bits .and .i64 a2 16777215))) then (if t330 > x13_2 then (longcaselaw09_RuleWhole.l0 kj19 (wrap64 (1800 + (Int.tmod (Go.bits .and .i64 a1 65535) 401))) t319 (wrap64 ((ji15) + (Go.bits .and .i64 a2 16777215))) t330 false (wrap64 (x15_2 + 1)) a0_0 a0_1 a0_2 a0_3 a0_4 a0_5 a0_6 a0_7 a0_8 a0_9 a0_10 a0_11 a0_12 a0_13 a0_14 a0_15 a0_16) else (longcaselaw09_RuleWhole.l0 kj19 (wrap64 (1800 + (Int.tmod (Go.bits .and .i64 a1 65535) 401))) t319 (wrap64 ((ji15) + (Go.bits .and .i64 a2 16777215))) x13_2 x14_2 (wrap64 (x15_2 + 1)) a0_0 a0_1 a0_2 a0_3 a0_4 a0_5 a0_6 a0_7 a0_8 a0_9 a0_10 a0_11 a0_12 a0_13 a0_14 a0_15 a0_16)) else (longcaselaw09_RuleWhole.l0 kj19 (wrap64 (1800 + (Int.tmod (Go.bits .and .i64 a1 65535) 401))) t319 (wrap64 ((ji15) + (Go.bits .and .i64 a2 16777215))) x13_2 x14_2 (wrap64 (x15_2 + 1)) a0_0 a0_1 a0_2 a0_3 a0_4 a0_5 a0_6 a0_7 a0_8 a0_9 a0_10 a0_11 a0_12 a0_13 a0_14 a0_15 a0_16)) = some r := by rw [if_neg (show ¬ (false = true) by decide)] at H; exact H
                        clear H
                        have H := H1
                        clear H1
                        by_cases c26 : t330 ≤ (wrap64 ((ji15) + (Go.bits .and .i64 a2 16777215)))
                        · rw [if_pos c26] at H
                          have c26b0 : decide (t330 ≤ (wrap64 ((ji15) + (Go.bits .and .i64 a2 16777215)))) = true := decide_eq_true c26
                          clear c26
                          by_cases c27 : t330 > x13_2
                          · rw [if_pos c27] at H
                            have c27b0 : decide (x13_2 < t330) = true := decide_eq_true c27
                            clear c27
                            have H' := Aside0.mk H
                            clear H
                            go_wp2
                            go_roundg kj19
                            case measure => have := HJ5.out; have := HK2.out; have := HJ19.out; omega
                            case rel => exact ⟨(t330), (false), (wrap64 (x15_2 + 1)), (by first | rfl | (simp; done) | (simp [*]; done)), (by first | rfl | (simp; done) | (simp [*]; done)), (by first | rfl | (simp; done) | (simp [*]; done)), H', ⟨by have := HJ5.out; have := HK2.out; have := HJ19.out; omega⟩, ⟨by (with_reducible repeat (first | refine blk_drewN ?_ _ | refine blk_drew ?_ | refine blk_alloc ?_ _)); exact BK318.out⟩, ⟨by repeat (first | (with_reducible first | exact HB.out | apply below_alloc | apply pw_below_drewN | apply below_drew1 | refine below_set ?_ GE318.out) | exact HB.out)⟩⟩
                          · rw [if_neg c27] at H
                            have c27b0 : decide (x13_2 < t330) = false := decide_eq_false c27
                            clear c27
                            have H' := Aside0.mk H
                            clear H
                            go_wp2
                            go_roundg kj19
                            case measure => have := HJ5.out; have := HK2.out; have := HJ19.out; omega
                            case rel => exact ⟨(x13_2), (x14_2), (wrap64 (x15_2 + 1)), (by first | rfl | (simp; done) | (simp [*]; done)), (by first | rfl | (simp; done) | (simp [*]; done)), (by first | rfl | (simp; done) | (simp [*]; done)), H', ⟨by have := HJ5.out; have := HK2.out; have := HJ19.out; omega⟩, ⟨by (with_reducible repeat (first | refine blk_drewN ?_ _ | refine blk_drew ?_ | refine blk_alloc ?_ _)); exact BK318.out⟩, ⟨by repeat (first | (with_reducible first | exact HB.out | apply below_alloc | apply pw_below_drewN | apply below_drew1 | refine below_set ?_ GE318.out) | exact HB.out)⟩⟩
                        · rw [if_neg c26] at H
                          have c26b0 : decide (t330 ≤ (wrap64 ((ji15) + (Go.bits .and .i64 a2 16777215)))) = false := decide_eq_false c26
                          clear c26
                          have H' := Aside0.mk H
                          clear H
                          go_wp2
                          go_roundg kj19
                          case measure => have := HJ5.out; have := HK2.out; have := HJ19.out; omega
                          case rel => exact ⟨(x13_2), (x14_2), (wrap64 (x15_2 + 1)), (by first | rfl | (simp; done) | (simp [*]; done)), (by first | rfl | (simp; done) | (simp [*]; done)), (by first | rfl | (simp; done) | (simp [*]; done)), H', ⟨by have := HJ5.out; have := HK2.out; have := HJ19.out; omega⟩, ⟨by (with_reducible repeat (first | refine blk_drewN ?_ _ | refine blk_drew ?_ | refine blk_alloc ?_ _)); exact BK318.out⟩, ⟨by repeat (first | (with_reducible first | exact HB.out | apply below_alloc | apply pw_below_drewN | apply below_drew1 | refine below_set ?_ GE318.out) | exact HB.out)⟩⟩
                · rw [if_neg c19] at H
                  have c19b0 : (t331 == 0) = false := beq_eq_false_iff_ne.mpr c19
                  have c19b1 : (t331 != 0) = true := bne_iff_ne.mpr c19
                  obtain rfl := Option.some.inj H
                  go_wp2_with (first | ((with_reducible refine gate_dst (N := 60) rfl ?_); refine wpList_load_row rfl 27 _ rfl (gb318) rfl 27 #[.int .i64 a0_0, .bool a0_1, .string a0_2, .int .i64 a0_3, .bool a0_4, .string a0_5, .bool a0_6, .int .i64 a0_7, .int .i64 a0_8, .int .i64 a0_9, .int .i64 a0_10, .int .i64 a0_11, .int .i64 a0_12, .int .i64 a0_13, .int .i64 a0_14, .int .i64 a0_15, .int .i64 a0_16] (0, 0) _ (by (with_reducible repeat (first | refine blk_drewN ?_ _ | refine blk_drew ?_ | refine blk_alloc ?_ _)); exact BK318.out) Tryd.underlying27 rfl (by kernel_rfl) ?_) | ((with_reducible refine gate_callee (f := 14) rfl ?_); refine goesL_ (some 62) rfl rfl Tryd.func14 (by kernel_rfl) rfl #[.agg #[.int .i64 a0_0, .bool a0_1, .string a0_2, .int .i64 a0_3, .bool a0_4, .string a0_5, .bool a0_6, .int .i64 a0_7, .int .i64 a0_8, .int .i64 a0_9, .int .i64 a0_10, .int .i64 a0_11, .int .i64 a0_12, .int .i64 a0_13, .int .i64 a0_14, .int .i64 a0_15, .int .i64 a0_16], .int .i64 x15_2] rfl (by (try simp only [List.map_toArray, List.map_cons, List.map_nil]); first | done | rfl | (simp only [List.length_drop, List.length_take]; rfl)) ?_; (with_reducible refine (rule_Turns.calls k2 a0_0 a0_1 a0_2 a0_3 a0_4 a0_5 a0_6 a0_7 a0_8 a0_9 a0_10 a0_11 a0_12 a0_13 a0_14 a0_15 a0_16 x15_2 t329 t330 t331 _ ?side1 A18.out).mono ?_); (case side1 => exact GL.below HG.out (by repeat (first | (with_reducible first | exact HB.out | apply below_alloc | apply pw_below_drewN | apply below_drew1 | refine below_set ?_ GE318.out) | exact HB.out))); rintro e w28 ⟨rfl, hb⟩; refine ⟨_, rfl, ?_⟩; have n0_ := Aside0.mk (blk_below (g := gb318) (o := .cells #[.int .i64 a0_0, .bool a0_1, .string a0_2, .int .i64 a0_3, .bool a0_4, .string a0_5, .bool a0_6, .int .i64 a0_7, .int .i64 a0_8, .int .i64 a0_9, .int .i64 a0_10, .int .i64 a0_11, .int .i64 a0_12, .int .i64 a0_13, .int .i64 a0_14, .int .i64 a0_15, .int .i64 a0_16] 27 (0, 0)) (by (with_reducible repeat (first | refine blk_drewN ?_ _ | refine blk_drew ?_ | refine blk_alloc ?_ _)); exact BK318.out) hb); have n1_ := Aside0.mk (below_step (by repeat (first | (with_reducible first | exact HB.out | apply below_alloc | apply pw_below_drewN | apply below_drew1 | refine below_set ?_ GE318.out) | exact HB.out)) hb); clear BK318; clear HB; have BK318 := n0_; have HB := n1_; clear n0_ n1_; (try clear hb); (try clear hb2); (try clear hk); (try clear hi)))
                  go_ret
                  exact ⟨by first | rfl | (simp [errW_none, errW_some] <;> rfl) | (simp only [← hji15]; first | rfl | (simp [errW_none, errW_some] <;> rfl)) | (simp [*, errW_none, errW_some] <;> rfl), by repeat (first | (with_reducible first | exact HB.out | apply below_alloc | apply pw_below_drewN | apply below_drew1 | refine below_set ?_ GE318.out) | exact HB.out)⟩
              · rw [if_neg c17] at H
                have c17b0 : decide (x15_2 ≤ (wrap64 ((wrap64 (1800 + (Int.tmod (Go.bits .and .i64 a1 65535) 401))) + 2))) = false := decide_eq_false c17
                clear c17
                replace H := Option.bind_eq_some_iff.mp H
                obtain ⟨⟨t324, t325, t326, t327⟩, A290, H⟩ := H
                replace H : (if x14_2 = true then (if t319 = true then (if t327 = 0 then (some (t324 == a0_3 && (t325 == a0_4 && (t326.toList == a0_5.toList)))) else (some false)) else (some false)) else (if t319 = true then (if t327 = 0 then (some (t324 == a0_0 && (t325 == a0_1 && (t326.toList == a0_2.toList)))) else (some false)) else (some false))) = some r := H
                have A29 := Aside0.mk A290
                clear A290
                by_cases c30 : x14_2 = true
                · subst c30
                  have H1 : (if t319 = true then (if t327 = 0 then (some (t324 == a0_3 && (t325 == a0_4 && (t326.toList == a0_5.toList)))) else (some false)) else (some false)) = some r := by rw [if_pos rfl] at H; exact H
                  clear H
                  have H := H1
                  clear H1
                  by_cases c31 : t319 = true
                  · subst c31
                    have H1 : (if t327 = 0 then (some (t324 == a0_3 && (t325 == a0_4 && (t326.toList == a0_5.toList)))) else (some false)) = some r := by rw [if_pos rfl] at H; exact H
                    clear H
                    have H := H1
                    clear H1
                    by_cases c32 : t327 = 0
                    · rw [if_pos c32] at H
                      have c32b0 : (t327 == 0) = true := beq_iff_eq.mpr c32
                      have c32b1 : (t327 != 0) = false := bne_eq_false_iff_eq.mpr c32
                      clear c32
                      obtain rfl := Option.some.inj H
                      go_wp2_with (first | ((with_reducible refine gate_dst (N := 87) rfl ?_); refine wpList_load_row rfl 27 _ rfl (gb318) rfl 27 #[.int .i64 a0_0, .bool a0_1, .string a0_2, .int .i64 a0_3, .bool a0_4, .string a0_5, .bool a0_6, .int .i64 a0_7, .int .i64 a0_8, .int .i64 a0_9, .int .i64 a0_10, .int .i64 a0_11, .int .i64 a0_12, .int .i64 a0_13, .int .i64 a0_14, .int .i64 a0_15, .int .i64 a0_16] (0, 0) _ (by (with_reducible repeat (first | refine blk_drewN ?_ _ | refine blk_drew ?_ | refine blk_alloc ?_ _)); exact BK318.out) Tryd.underlying27 rfl (by kernel_rfl) ?_) | ((with_reducible refine gate_callee (f := 16) rfl ?_); refine goesL_ (some 89) rfl rfl Tryd.func16 (by kernel_rfl) rfl #[.agg #[.int .i64 a0_0, .bool a0_1, .string a0_2, .int .i64 a0_3, .bool a0_4, .string a0_5, .bool a0_6, .int .i64 a0_7, .int .i64 a0_8, .int .i64 a0_9, .int .i64 a0_10, .int .i64 a0_11, .int .i64 a0_12, .int .i64 a0_13, .int .i64 a0_14, .int .i64 a0_15, .int .i64 a0_16], .int .i64 (wrap64 ((ji15) + (Go.bits .and .i64 a2 16777215)))] rfl (by (try simp only [List.map_toArray, List.map_cons, List.map_nil]); first | done | (simp only [hji15]; rfl) | rfl | (simp only [List.length_drop, List.length_take]; rfl)) ?_; (with_reducible refine (rule_At.calls k2 a0_0 a0_1 a0_2 a0_3 a0_4 a0_5 a0_6 a0_7 a0_8 a0_9 a0_10 a0_11 a0_12 a0_13 a0_14 a0_15 a0_16 (wrap64 ((ji15) + (Go.bits .and .i64 a2 16777215))) t324 t325 t326 t327 _ ?side1 A29.out).mono ?_); (case side1 => exact GL.below HG.out (by repeat (first | (with_reducible first | exact HB.out | apply below_alloc | apply pw_below_drewN | apply below_drew1 | refine below_set ?_ GE318.out) | exact HB.out))); rintro e w33 ⟨rfl, hb⟩; refine ⟨_, rfl, ?_⟩; have n0_ := Aside0.mk (blk_below (g := gb318) (o := .cells #[.int .i64 a0_0, .bool a0_1, .string a0_2, .int .i64 a0_3, .bool a0_4, .string a0_5, .bool a0_6, .int .i64 a0_7, .int .i64 a0_8, .int .i64 a0_9, .int .i64 a0_10, .int .i64 a0_11, .int .i64 a0_12, .int .i64 a0_13, .int .i64 a0_14, .int .i64 a0_15, .int .i64 a0_16] 27 (0, 0)) (by (with_reducible repeat (first | refine blk_drewN ?_ _ | refine blk_drew ?_ | refine blk_alloc ?_ _)); exact BK318.out) hb); have n1_ := Aside0.mk (below_step (by repeat (first | (with_reducible first | exact HB.out | apply below_alloc | apply pw_below_drewN | apply below_drew1 | refine below_set ?_ GE318.out) | exact HB.out)) hb); clear BK318; clear HB; have BK318 := n0_; have HB := n1_; clear n0_ n1_; (try clear hb); (try clear hb2); (try clear hk); (try clear hi)) | ((with_reducible refine gate_dst (N := 19) rfl ?_); refine box_event ?hg (N := 19) ?hd (cs := #[.int .i64 0, .bool false, .string (⟨#[]⟩ : ByteArray)]) (t := 23) ?hr ?_; (case hd => rfl); (case hg => rfl); (case hr => first | (go_simp; done) | (go_simp; rfl)); intro gb328 hg w34 hbox hb; have n0_ := Aside0.mk (blk_below (g := gb318) (o := .cells #[.int .i64 a0_0, .bool a0_1, .string a0_2, .int .i64 a0_3, .bool a0_4, .string a0_5, .bool a0_6, .int .i64 a0_7, .int .i64 a0_8, .int .i64 a0_9, .int .i64 a0_10, .int .i64 a0_11, .int .i64 a0_12, .int .i64 a0_13, .int .i64 a0_14, .int .i64 a0_15, .int .i64 a0_16] 27 (0, 0)) (by (with_reducible repeat (first | refine blk_drewN ?_ _ | refine blk_drew ?_ | refine blk_alloc ?_ _)); exact BK318.out) hb); have n1_ := Aside0.mk (below_step (by repeat (first | (with_reducible first | exact HB.out | apply below_alloc | apply pw_below_drewN | apply below_drew1 | refine below_set ?_ GE318.out) | exact HB.out)) hb); have n2_ := Aside0.mk (hbox); have n3_ := Aside0.mk ((by rw [hg]; exact (below_size (by repeat (first | (with_reducible first | exact HB.out | apply below_alloc | apply pw_below_drewN | apply below_drew1 | refine below_set ?_ GE318.out) | exact HB.out))) : w.heap.size ≤ gb328)); have n4_ := Aside0.mk ((by rw [hg]; exact (below_size (by repeat (first | (with_reducible first | exact HB.out | apply below_alloc | apply pw_below_drewN | apply below_drew1 | refine below_set ?_ GE318.out) | exact HB.out))) : w.heap.size ≤ gb328)); have n5_ := Aside0.mk ((by rw [hg]; exact Nat.ne_of_lt (blk_lt (g := gb318) (o := .cells #[.int .i64 a0_0, .bool a0_1, .string a0_2, .int .i64 a0_3, .bool a0_4, .string a0_5, .bool a0_6, .int .i64 a0_7, .int .i64 a0_8, .int .i64 a0_9, .int .i64 a0_10, .int .i64 a0_11, .int .i64 a0_12, .int .i64 a0_13, .int .i64 a0_14, .int .i64 a0_15, .int .i64 a0_16] 27 (0, 0)) (by (with_reducible repeat (first | refine blk_drewN ?_ _ | refine blk_drew ?_ | refine blk_alloc ?_ _)); exact BK318.out)) : gb318 ≠ gb328)); have n6_ := Aside0.mk ((by rw [hg]; exact Nat.ne_of_gt (blk_lt (g := gb318) (o := .cells #[.int .i64 a0_0, .bool a0_1, .string a0_2, .int .i64 a0_3, .bool a0_4, .string a0_5, .bool a0_6, .int .i64 a0_7, .int .i64 a0_8, .int .i64 a0_9, .int .i64 a0_10, .int .i64 a0_11, .int .i64 a0_12, .int .i64 a0_13, .int .i64 a0_14, .int .i64 a0_15, .int .i64 a0_16] 27 (0, 0)) (by (with_reducible repeat (first | refine blk_drewN ?_ _ | refine blk_drew ?_ | refine blk_alloc ?_ _)); exact BK318.out)) : gb328 ≠ gb318)); clear BK318; clear HB; have BK318 := n0_; have HB := n1_; have BK328 := n2_; have GW328 := n3_; have GE328 := n4_; have NB318_328 := n5_; have NB328_318 := n6_; clear n0_ n1_ n2_ n3_ n4_ n5_ n6_; clear hb hbox hg; have hnb35 := NB328_318.out; have hnc35 := NB318_328.out; have hcz36_0 : w34.cell? ⟨gb328, 0, none⟩ = some (.int .i64 0) := (blk_cell BK328.out 0).trans rfl; have hcz36_1 : w34.cell? ⟨gb328, 1, none⟩ = some (.bool false) := (blk_cell BK328.out 1).trans rfl; have hcz36_2 : w34.cell? ⟨gb328, 2, none⟩ = some (.string (⟨#[]⟩ : ByteArray)) := (blk_cell BK328.out 2).trans rfl; have hfz36_0 := blk_frozen BK328.out 0; have hfz36_1 := blk_frozen BK328.out 1; have hfz36_2 := blk_frozen BK328.out 2; have hcz37_0 : w34.cell? ⟨gb318, 0, none⟩ = some (.int .i64 a0_0) := (blk_cell BK318.out 0).trans rfl; have hcz37_1 : w34.cell? ⟨gb318, 1, none⟩ = some (.bool a0_1) := (blk_cell BK318.out 1).trans rfl; have hcz37_2 : w34.cell? ⟨gb318, 2, none⟩ = some (.string a0_2) := (blk_cell BK318.out 2).trans rfl; have hcz37_3 : w34.cell? ⟨gb318, 3, none⟩ = some (.int .i64 a0_3) := (blk_cell BK318.out 3).trans rfl; have hcz37_4 : w34.cell? ⟨gb318, 4, none⟩ = some (.bool a0_4) := (blk_cell BK318.out 4).trans rfl; have hcz37_5 : w34.cell? ⟨gb318, 5, none⟩ = some (.string a0_5) := (blk_cell BK318.out 5).trans rfl; have hcz37_6 : w34.cell? ⟨gb318, 6, none⟩ = some (.bool a0_6) := (blk_cell BK318.out 6).trans rfl; have hcz37_7 : w34.cell? ⟨gb318, 7, none⟩ = some (.int .i64 a0_7) := (blk_cell BK318.out 7).trans rfl; have hcz37_8 : w34.cell? ⟨gb318, 8, none⟩ = some (.int .i64 a0_8) := (blk_cell BK318.out 8).trans rfl; have hcz37_9 : w34.cell? ⟨gb318, 9, none⟩ = some (.int .i64 a0_9) := (blk_cell BK318.out 9).trans rfl; have hcz37_10 : w34.cell? ⟨gb318, 10, none⟩ = some (.int .i64 a0_10) := (blk_cell BK318.out 10).trans rfl; have hcz37_11 : w34.cell? ⟨gb318, 11, none⟩ = some (.int .i64 a0_11) := (blk_cell BK318.out 11).trans rfl; have hcz37_12 : w34.cell? ⟨gb318, 12, none⟩ = some (.int .i64 a0_12) := (blk_cell BK318.out 12).trans rfl; have hcz37_13 : w34.cell? ⟨gb318, 13, none⟩ = some (.int .i64 a0_13) := (blk_cell BK318.out 13).trans rfl; have hcz37_14 : w34.cell? ⟨gb318, 14, none⟩ = some (.int .i64 a0_14) := (blk_cell BK318.out 14).trans rfl; have hcz37_15 : w34.cell? ⟨gb318, 15, none⟩ = some (.int .i64 a0_15) := (blk_cell BK318.out 15).trans rfl; have hcz37_16 : w34.cell? ⟨gb318, 16, none⟩ = some (.int .i64 a0_16) := (blk_cell BK318.out 16).trans rfl; have hfz37_0 := blk_frozen BK318.out 0; have hfz37_1 := blk_frozen BK318.out 1; have hfz37_2 := blk_frozen BK318.out 2; have hfz37_3 := blk_frozen BK318.out 3; have hfz37_4 := blk_frozen BK318.out 4; have hfz37_5 := blk_frozen BK318.out 5; have hfz37_6 := blk_frozen BK318.out 6; have hfz37_7 := blk_frozen BK318.out 7; have hfz37_8 := blk_frozen BK318.out 8; have hfz37_9 := blk_frozen BK318.out 9; have hfz37_10 := blk_frozen BK318.out 10; have hfz37_11 := blk_frozen BK318.out 11; have hfz37_12 := blk_frozen BK318.out 12; have hfz37_13 := blk_frozen BK318.out 13; have hfz37_14 := blk_frozen BK318.out 14; have hfz37_15 := blk_frozen BK318.out 15; have hfz37_16 := blk_frozen BK318.out 16))
                      go_ret
                      exact ⟨by first | rfl | (simp [errW_none, errW_some] <;> rfl) | (simp only [← hji15]; first | rfl | (simp [errW_none, errW_some] <;> rfl)) | (simp [*, errW_none, errW_some] <;> rfl), by repeat (first | (with_reducible first | exact HB.out | apply below_alloc | apply pw_below_drewN | apply below_drew1 | refine below_set ?_ GE318.out | refine below_set ?_ GE328.out) | exact HB.out)⟩
                    · rw [if_neg c32] at H
                      have c32b0 : (t327 == 0) = false := beq_eq_false_iff_ne.mpr c32
                      have c32b1 : (t327 != 0) = true := bne_iff_ne.mpr c32
                      obtain rfl := Option.some.inj H
                      go_wp2_with (first | ((with_reducible refine gate_dst (N := 87) rfl ?_); refine wpList_load_row rfl 27 _ rfl (gb318) rfl 27 #[.int .i64 a0_0, .bool a0_1, .string a0_2, .int .i64 a0_3, .bool a0_4, .string a0_5, .bool a0_6, .int .i64 a0_7, .int .i64 a0_8, .int .i64 a0_9, .int .i64 a0_10, .int .i64 a0_11, .int .i64 a0_12, .int .i64 a0_13, .int .i64 a0_14, .int .i64 a0_15, .int .i64 a0_16] (0, 0) _ (by (with_reducible repeat (first | refine blk_drewN ?_ _ | refine blk_drew ?_ | refine blk_alloc ?_ _)); exact BK318.out) Tryd.underlying27 rfl (by kernel_rfl) ?_) | ((with_reducible refine gate_callee (f := 16) rfl ?_); refine goesL_ (some 89) rfl rfl Tryd.func16 (by kernel_rfl) rfl #[.agg #[.int .i64 a0_0, .bool a0_1, .string a0_2, .int .i64 a0_3, .bool a0_4, .string a0_5, .bool a0_6, .int .i64 a0_7, .int .i64 a0_8, .int .i64 a0_9, .int .i64 a0_10, .int .i64 a0_11, .int .i64 a0_12, .int .i64 a0_13, .int .i64 a0_14, .int .i64 a0_15, .int .i64 a0_16], .int .i64 (wrap64 ((ji15) + (Go.bits .and .i64 a2 16777215)))] rfl (by (try simp only [List.map_toArray, List.map_cons, List.map_nil]); first | done | (simp only [hji15]; rfl) | rfl | (simp only [List.length_drop, List.length_take]; rfl)) ?_; (with_reducible refine (rule_At.calls k2 a0_0 a0_1 a0_2 a0_3 a0_4 a0_5 a0_6 a0_7 a0_8 a0_9 a0_10 a0_11 a0_12 a0_13 a0_14 a0_15 a0_16 (wrap64 ((ji15) + (Go.bits .and .i64 a2 16777215))) t324 t325 t326 t327 _ ?side1 A29.out).mono ?_); (case side1 => exact GL.below HG.out (by repeat (first | (with_reducible first | exact HB.out | apply below_alloc | apply pw_below_drewN | apply below_drew1 | refine below_set ?_ GE318.out) | exact HB.out))); rintro e w38 ⟨rfl, hb⟩; refine ⟨_, rfl, ?_⟩; have n0_ := Aside0.mk (blk_below (g := gb318) (o := .cells #[.int .i64 a0_0, .bool a0_1, .string a0_2, .int .i64 a0_3, .bool a0_4, .string a0_5, .bool a0_6, .int .i64 a0_7, .int .i64 a0_8, .int .i64 a0_9, .int .i64 a0_10, .int .i64 a0_11, .int .i64 a0_12, .int .i64 a0_13, .int .i64 a0_14, .int .i64 a0_15, .int .i64 a0_16] 27 (0, 0)) (by (with_reducible repeat (first | refine blk_drewN ?_ _ | refine blk_drew ?_ | refine blk_alloc ?_ _)); exact BK318.out) hb); have n1_ := Aside0.mk (below_step (by repeat (first | (with_reducible first | exact HB.out | apply below_alloc | apply pw_below_drewN | apply below_drew1 | refine below_set ?_ GE318.out) | exact HB.out)) hb); clear BK318; clear HB; have BK318 := n0_; have HB := n1_; clear n0_ n1_; (try clear hb); (try clear hb2); (try clear hk); (try clear hi)) | ((with_reducible refine gate_dst (N := 19) rfl ?_); refine box_event ?hg (N := 19) ?hd (cs := #[.int .i64 0, .bool false, .string (⟨#[]⟩ : ByteArray)]) (t := 23) ?hr ?_; (case hd => rfl); (case hg => rfl); (case hr => first | (go_simp; done) | (go_simp; rfl)); intro gb328 hg w39 hbox hb; have n0_ := Aside0.mk (blk_below (g := gb318) (o := .cells #[.int .i64 a0_0, .bool a0_1, .string a0_2, .int .i64 a0_3, .bool a0_4, .string a0_5, .bool a0_6, .int .i64 a0_7, .int .i64 a0_8, .int .i64 a0_9, .int .i64 a0_10, .int .i64 a0_11, .int .i64 a0_12, .int .i64 a0_13, .int .i64 a0_14, .int .i64 a0_15, .int .i64 a0_16] 27 (0, 0)) (by (with_reducible repeat (first | refine blk_drewN ?_ _ | refine blk_drew ?_ | refine blk_alloc ?_ _)); exact BK318.out) hb); have n1_ := Aside0.mk (below_step (by repeat (first | (with_reducible first | exact HB.out | apply below_alloc | apply pw_below_drewN | apply below_drew1 | refine below_set ?_ GE318.out) | exact HB.out)) hb); have n2_ := Aside0.mk (hbox); have n3_ := Aside0.mk ((by rw [hg]; exact (below_size (by repeat (first | (with_reducible first | exact HB.out | apply below_alloc | apply pw_below_drewN | apply below_drew1 | refine below_set ?_ GE318.out) | exact HB.out))) : w.heap.size ≤ gb328)); have n4_ := Aside0.mk ((by rw [hg]; exact (below_size (by repeat (first | (with_reducible first | exact HB.out | apply below_alloc | apply pw_below_drewN | apply below_drew1 | refine below_set ?_ GE318.out) | exact HB.out))) : w.heap.size ≤ gb328)); have n5_ := Aside0.mk ((by rw [hg]; exact Nat.ne_of_lt (blk_lt (g := gb318) (o := .cells #[.int .i64 a0_0, .bool a0_1, .string a0_2, .int .i64 a0_3, .bool a0_4, .string a0_5, .bool a0_6, .int .i64 a0_7, .int .i64 a0_8, .int .i64 a0_9, .int .i64 a0_10, .int .i64 a0_11, .int .i64 a0_12, .int .i64 a0_13, .int .i64 a0_14, .int .i64 a0_15, .int .i64 a0_16] 27 (0, 0)) (by (with_reducible repeat (first | refine blk_drewN ?_ _ | refine blk_drew ?_ | refine blk_alloc ?_ _)); exact BK318.out)) : gb318 ≠ gb328)); have n6_ := Aside0.mk ((by rw [hg]; exact Nat.ne_of_gt (blk_lt (g := gb318) (o := .cells #[.int .i64 a0_0, .bool a0_1, .string a0_2, .int .i64 a0_3, .bool a0_4, .string a0_5, .bool a0_6, .int .i64 a0_7, .int .i64 a0_8, .int .i64 a0_9, .int .i64 a0_10, .int .i64 a0_11, .int .i64 a0_12, .int .i64 a0_13, .int .i64 a0_14, .int .i64 a0_15, .int .i64 a0_16] 27 (0, 0)) (by (with_reducible repeat (first | refine blk_drewN ?_ _ | refine blk_drew ?_ | refine blk_alloc ?_ _)); exact BK318.out)) : gb328 ≠ gb318)); clear BK318; clear HB; have BK318 := n0_; have HB := n1_; have BK328 := n2_; have GW328 := n3_; have GE328 := n4_; have NB318_328 := n5_; have NB328_318 := n6_; clear n0_ n1_ n2_ n3_ n4_ n5_ n6_; clear hb hbox hg; have hnb40 := NB328_318.out; have hnc40 := NB318_328.out; have hcz41_0 : w39.cell? ⟨gb328, 0, none⟩ = some (.int .i64 0) := (blk_cell BK328.out 0).trans rfl; have hcz41_1 : w39.cell? ⟨gb328, 1, none⟩ = some (.bool false) := (blk_cell BK328.out 1).trans rfl; have hcz41_2 : w39.cell? ⟨gb328, 2, none⟩ = some (.string (⟨#[]⟩ : ByteArray)) := (blk_cell BK328.out 2).trans rfl; have hfz41_0 := blk_frozen BK328.out 0; have hfz41_1 := blk_frozen BK328.out 1; have hfz41_2 := blk_frozen BK328.out 2))
                      go_ret
                      exact ⟨by first | rfl | (simp [errW_none, errW_some] <;> rfl) | (simp only [← hji15]; first | rfl | (simp [errW_none, errW_some] <;> rfl)) | (simp [*, errW_none, errW_some] <;> rfl), by repeat (first | (with_reducible first | exact HB.out | apply below_alloc | apply pw_below_drewN | apply below_drew1 | refine below_set ?_ GE318.out | refine below_set ?_ GE328.out) | exact HB.out)⟩
                  · replace c31 := Bool.eq_false_iff.mpr c31
                    subst c31
                    have H1 : (some false) = some r := by rw [if_neg (show ¬ (false = true) by decide)] at H; exact H
                    clear H
                    have H := H1
                    clear H1
                    obtain rfl := Option.some.inj H
                    go_wp2_with (first | ((with_reducible refine gate_dst (N := 87) rfl ?_); refine wpList_load_row rfl 27 _ rfl (gb318) rfl 27 #[.int .i64 a0_0, .bool a0_1, .string a0_2, .int .i64 a0_3, .bool a0_4, .string a0_5, .bool a0_6, .int .i64 a0_7, .int .i64 a0_8, .int .i64 a0_9, .int .i64 a0_10, .int .i64 a0_11, .int .i64 a0_12, .int .i64 a0_13, .int .i64 a0_14, .int .i64 a0_15, .int .i64 a0_16] (0, 0) _ (by (with_reducible repeat (first | refine blk_drewN ?_ _ | refine blk_drew ?_ | refine blk_alloc ?_ _)); exact BK318.out) Tryd.underlying27 rfl (by kernel_rfl) ?_) | ((with_reducible refine gate_callee (f := 16) rfl ?_); refine goesL_ (some 89) rfl rfl Tryd.func16 (by kernel_rfl) rfl #[.agg #[.int .i64 a0_0, .bool a0_1, .string a0_2, .int .i64 a0_3, .bool a0_4, .string a0_5, .bool a0_6, .int .i64 a0_7, .int .i64 a0_8, .int .i64 a0_9, .int .i64 a0_10, .int .i64 a0_11, .int .i64 a0_12, .int .i64 a0_13, .int .i64 a0_14, .int .i64 a0_15, .int .i64 a0_16], .int .i64 (wrap64 ((ji15) + (Go.bits .and .i64 a2 16777215)))] rfl (by (try simp only [List.map_toArray, List.map_cons, List.map_nil]); first | done | (simp only [hji15]; rfl) | rfl | (simp only [List.length_drop, List.length_take]; rfl)) ?_; (with_reducible refine (rule_At.calls k2 a0_0 a0_1 a0_2 a0_3 a0_4 a0_5 a0_6 a0_7 a0_8 a0_9 a0_10 a0_11 a0_12 a0_13 a0_14 a0_15 a0_16 (wrap64 ((ji15) + (Go.bits .and .i64 a2 16777215))) t324 t325 t326 t327 _ ?side1 A29.out).mono ?_); (case side1 => exact GL.below HG.out (by repeat (first | (with_reducible first | exact HB.out | apply below_alloc | apply pw_below_drewN | apply below_drew1 | refine below_set ?_ GE318.out) | exact HB.out))); rintro e w42 ⟨rfl, hb⟩; refine ⟨_, rfl, ?_⟩; have n0_ := Aside0.mk (blk_below (g := gb318) (o := .cells #[.int .i64 a0_0, .bool a0_1, .string a0_2, .int .i64 a0_3, .bool a0_4, .string a0_5, .bool a0_6, .int .i64 a0_7, .int .i64 a0_8, .int .i64 a0_9, .int .i64 a0_10, .int .i64 a0_11, .int .i64 a0_12, .int .i64 a0_13, .int .i64 a0_14, .int .i64 a0_15, .int .i64 a0_16] 27 (0, 0)) (by (with_reducible repeat (first | refine blk_drewN ?_ _ | refine blk_drew ?_ | refine blk_alloc ?_ _)); exact BK318.out) hb); have n1_ := Aside0.mk (below_step (by repeat (first | (with_reducible first | exact HB.out | apply below_alloc | apply pw_below_drewN | apply below_drew1 | refine below_set ?_ GE318.out) | exact HB.out)) hb); clear BK318; clear HB; have BK318 := n0_; have HB := n1_; clear n0_ n1_; (try clear hb); (try clear hb2); (try clear hk); (try clear hi)) | ((with_reducible refine gate_dst (N := 19) rfl ?_); refine box_event ?hg (N := 19) ?hd (cs := #[.int .i64 0, .bool false, .string (⟨#[]⟩ : ByteArray)]) (t := 23) ?hr ?_; (case hd => rfl); (case hg => rfl); (case hr => first | (go_simp; done) | (go_simp; rfl)); intro gb328 hg w43 hbox hb; have n0_ := Aside0.mk (blk_below (g := gb318) (o := .cells #[.int .i64 a0_0, .bool a0_1, .string a0_2, .int .i64 a0_3, .bool a0_4, .string a0_5, .bool a0_6, .int .i64 a0_7, .int .i64 a0_8, .int .i64 a0_9, .int .i64 a0_10, .int .i64 a0_11, .int .i64 a0_12, .int .i64 a0_13, .int .i64 a0_14, .int .i64 a0_15, .int .i64 a0_16] 27 (0, 0)) (by (with_reducible repeat (first | refine blk_drewN ?_ _ | refine blk_drew ?_ | refine blk_alloc ?_ _)); exact BK318.out) hb); have n1_ := Aside0.mk (below_step (by repeat (first | (with_reducible first | exact HB.out | apply below_alloc | apply pw_below_drewN | apply below_drew1 | refine below_set ?_ GE318.out) | exact HB.out)) hb); have n2_ := Aside0.mk (hbox); have n3_ := Aside0.mk ((by rw [hg]; exact (below_size (by repeat (first | (with_reducible first | exact HB.out | apply below_alloc | apply pw_below_drewN | apply below_drew1 | refine below_set ?_ GE318.out) | exact HB.out))) : w.heap.size ≤ gb328)); have n4_ := Aside0.mk ((by rw [hg]; exact (below_size (by repeat (first | (with_reducible first | exact HB.out | apply below_alloc | apply pw_below_drewN | apply below_drew1 | refine below_set ?_ GE318.out) | exact HB.out))) : w.heap.size ≤ gb328)); have n5_ := Aside0.mk ((by rw [hg]; exact Nat.ne_of_lt (blk_lt (g := gb318) (o := .cells #[.int .i64 a0_0, .bool a0_1, .string a0_2, .int .i64 a0_3, .bool a0_4, .string a0_5, .bool a0_6, .int .i64 a0_7, .int .i64 a0_8, .int .i64 a0_9, .int .i64 a0_10, .int .i64 a0_11, .int .i64 a0_12, .int .i64 a0_13, .int .i64 a0_14, .int .i64 a0_15, .int .i64 a0_16] 27 (0, 0)) (by (with_reducible repeat (first | refine blk_drewN ?_ _ | refine blk_drew ?_ | refine blk_alloc ?_ _)); exact BK318.out)) : gb318 ≠ gb328)); have n6_ := Aside0.mk ((by rw [hg]; exact Nat.ne_of_gt (blk_lt (g := gb318) (o := .cells #[.int .i64 a0_0, .bool a0_1, .string a0_2, .int .i64 a0_3, .bool a0_4, .string a0_5, .bool a0_6, .int .i64 a0_7, .int .i64 a0_8, .int .i64 a0_9, .int .i64 a0_10, .int .i64 a0_11, .int .i64 a0_12, .int .i64 a0_13, .int .i64 a0_14, .int .i64 a0_15, .int .i64 a0_16] 27 (0, 0)) (by (with_reducible repeat (first | refine blk_drewN ?_ _ | refine blk_drew ?_ | refine blk_alloc ?_ _)); exact BK318.out)) : gb328 ≠ gb318)); clear BK318; clear HB; have BK318 := n0_; have HB := n1_; have BK328 := n2_; have GW328 := n3_; have GE328 := n4_; have NB318_328 := n5_; have NB328_318 := n6_; clear n0_ n1_ n2_ n3_ n4_ n5_ n6_; clear hb hbox hg; have hnb44 := NB328_318.out; have hnc44 := NB318_328.out; have hcz45_0 : w43.cell? ⟨gb328, 0, none⟩ = some (.int .i64 0) := (blk_cell BK328.out 0).trans rfl; have hcz45_1 : w43.cell? ⟨gb328, 1, none⟩ = some (.bool false) := (blk_cell BK328.out 1).trans rfl; have hcz45_2 : w43.cell? ⟨gb328, 2, none⟩ = some (.string (⟨#[]⟩ : ByteArray)) := (blk_cell BK328.out 2).trans rfl; have hfz45_0 := blk_frozen BK328.out 0; have hfz45_1 := blk_frozen BK328.out 1; have hfz45_2 := blk_frozen BK328.out 2))
                    go_ret
                    exact ⟨by first | rfl | (simp [errW_none, errW_some] <;> rfl) | (simp only [← hji15]; first | rfl | (simp [errW_none, errW_some] <;> rfl)) | (simp [*, errW_none, errW_some] <;> rfl), by repeat (first | (with_reducible first | exact HB.out | apply below_alloc | apply pw_below_drewN | apply below_drew1 | refine below_set ?_ GE318.out | refine below_set ?_ GE328.out) | exact HB.out)⟩
                · replace c30 := Bool.eq_false_iff.mpr c30
                  subst c30
                  have H1 : (if t319 = true then (if t327 = 0 then (some (t324 == a0_0 && (t325 == a0_1 && (t326.toList == a0_2.toList)))) else (some false)) else (some false)) = some r := by rw [if_neg (show ¬ (false = true) by decide)] at H; exact H
                  clear H
                  have H := H1
                  clear H1
                  by_cases c46 : t319 = true
                  · subst c46
                    have H1 : (if t327 = 0 then (some (t324 == a0_0 && (t325 == a0_1 && (t326.toList == a0_2.toList)))) else (some false)) = some r := by rw [if_pos rfl] at H; exact H
                    clear H
                    have H := H1
                    clear H1
                    by_cases c47 : t327 = 0
                    · rw [if_pos c47] at H
                      have c47b0 : (t327 == 0) = true := beq_iff_eq.mpr c47
                      have c47b1 : (t327 != 0) = false := bne_eq_false_iff_eq.mpr c47
                      clear c47
                      obtain rfl := Option.some.inj H
                      go_wp2_with (first | ((with_reducible refine gate_dst (N := 87) rfl ?_); refine wpList_load_row rfl 27 _ rfl (gb318) rfl 27 #[.int .i64 a0_0, .bool a0_1, .string a0_2, .int .i64 a0_3, .bool a0_4, .string a0_5, .bool a0_6, .int .i64 a0_7, .int .i64 a0_8, .int .i64 a0_9, .int .i64 a0_10, .int .i64 a0_11, .int .i64 a0_12, .int .i64 a0_13, .int .i64 a0_14, .int .i64 a0_15, .int .i64 a0_16] (0, 0) _ (by (with_reducible repeat (first | refine blk_drewN ?_ _ | refine blk_drew ?_ | refine blk_alloc ?_ _)); exact BK318.out) Tryd.underlying27 rfl (by kernel_rfl) ?_) | ((with_reducible refine gate_callee (f := 16) rfl ?_); refine goesL_ (some 89) rfl rfl Tryd.func16 (by kernel_rfl) rfl #[.agg #[.int .i64 a0_0, .bool a0_1, .string a0_2, .int .i64 a0_3, .bool a0_4, .string a0_5, .bool a0_6, .int .i64 a0_7, .int .i64 a0_8, .int .i64 a0_9, .int .i64 a0_10, .int .i64 a0_11, .int .i64 a0_12, .int .i64 a0_13, .int .i64 a0_14, .int .i64 a0_15, .int .i64 a0_16], .int .i64 (wrap64 ((ji15) + (Go.bits .and .i64 a2 16777215)))] rfl (by (try simp only [List.map_toArray, List.map_cons, List.map_nil]); first | done | (simp only [hji15]; rfl) | rfl | (simp only [List.length_drop, List.length_take]; rfl)) ?_; (with_reducible refine (rule_At.calls k2 a0_0 a0_1 a0_2 a0_3 a0_4 a0_5 a0_6 a0_7 a0_8 a0_9 a0_10 a0_11 a0_12 a0_13 a0_14 a0_15 a0_16 (wrap64 ((ji15) + (Go.bits .and .i64 a2 16777215))) t324 t325 t326 t327 _ ?side1 A29.out).mono ?_); (case side1 => exact GL.below HG.out (by repeat (first | (with_reducible first | exact HB.out | apply below_alloc | apply pw_below_drewN | apply below_drew1 | refine below_set ?_ GE318.out) | exact HB.out))); rintro e w48 ⟨rfl, hb⟩; refine ⟨_, rfl, ?_⟩; have n0_ := Aside0.mk (blk_below (g := gb318) (o := .cells #[.int .i64 a0_0, .bool a0_1, .string a0_2, .int .i64 a0_3, .bool a0_4, .string a0_5, .bool a0_6, .int .i64 a0_7, .int .i64 a0_8, .int .i64 a0_9, .int .i64 a0_10, .int .i64 a0_11, .int .i64 a0_12, .int .i64 a0_13, .int .i64 a0_14, .int .i64 a0_15, .int .i64 a0_16] 27 (0, 0)) (by (with_reducible repeat (first | refine blk_drewN ?_ _ | refine blk_drew ?_ | refine blk_alloc ?_ _)); exact BK318.out) hb); have n1_ := Aside0.mk (below_step (by repeat (first | (with_reducible first | exact HB.out | apply below_alloc | apply pw_below_drewN | apply below_drew1 | refine below_set ?_ GE318.out) | exact HB.out)) hb); clear BK318; clear HB; have BK318 := n0_; have HB := n1_; clear n0_ n1_; (try clear hb); (try clear hb2); (try clear hk); (try clear hi)) | ((with_reducible refine gate_dst (N := 19) rfl ?_); refine box_event ?hg (N := 19) ?hd (cs := #[.int .i64 0, .bool false, .string (⟨#[]⟩ : ByteArray)]) (t := 23) ?hr ?_; (case hd => rfl); (case hg => rfl); (case hr => first | (go_simp; done) | (go_simp; rfl)); intro gb328 hg w49 hbox hb; have n0_ := Aside0.mk (blk_below (g := gb318) (o := .cells #[.int .i64 a0_0, .bool a0_1, .string a0_2, .int .i64 a0_3, .bool a0_4, .string a0_5, .bool a0_6, .int .i64 a0_7, .int .i64 a0_8, .int .i64 a0_9, .int .i64 a0_10, .int .i64 a0_11, .int .i64 a0_12, .int .i64 a0_13, .int .i64 a0_14, .int .i64 a0_15, .int .i64 a0_16] 27 (0, 0)) (by (with_reducible repeat (first | refine blk_drewN ?_ _ | refine blk_drew ?_ | refine blk_alloc ?_ _)); exact BK318.out) hb); have n1_ := Aside0.mk (below_step (by repeat (first | (with_reducible first | exact HB.out | apply below_alloc | apply pw_below_drewN | apply below_drew1 | refine below_set ?_ GE318.out) | exact HB.out)) hb); have n2_ := Aside0.mk (hbox); have n3_ := Aside0.mk ((by rw [hg]; exact (below_size (by repeat (first | (with_reducible first | exact HB.out | apply below_alloc | apply pw_below_drewN | apply below_drew1 | refine below_set ?_ GE318.out) | exact HB.out))) : w.heap.size ≤ gb328)); have n4_ := Aside0.mk ((by rw [hg]; exact (below_size (by repeat (first | (with_reducible first | exact HB.out | apply below_alloc | apply pw_below_drewN | apply below_drew1 | refine below_set ?_ GE318.out) | exact HB.out))) : w.heap.size ≤ gb328)); have n5_ := Aside0.mk ((by rw [hg]; exact Nat.ne_of_lt (blk_lt (g := gb318) (o := .cells #[.int .i64 a0_0, .bool a0_1, .string a0_2, .int .i64 a0_3, .bool a0_4, .string a0_5, .bool a0_6, .int .i64 a0_7, .int .i64 a0_8, .int .i64 a0_9, .int .i64 a0_10, .int .i64 a0_11, .int .i64 a0_12, .int .i64 a0_13, .int .i64 a0_14, .int .i64 a0_15, .int .i64 a0_16] 27 (0, 0)) (by (with_reducible repeat (first | refine blk_drewN ?_ _ | refine blk_drew ?_ | refine blk_alloc ?_ _)); exact BK318.out)) : gb318 ≠ gb328)); have n6_ := Aside0.mk ((by rw [hg]; exact Nat.ne_of_gt (blk_lt (g := gb318) (o := .cells #[.int .i64 a0_0, .bool a0_1, .string a0_2, .int .i64 a0_3, .bool a0_4, .string a0_5, .bool a0_6, .int .i64 a0_7, .int .i64 a0_8, .int .i64 a0_9, .int .i64 a0_10, .int .i64 a0_11, .int .i64 a0_12, .int .i64 a0_13, .int .i64 a0_14, .int .i64 a0_15, .int .i64 a0_16] 27 (0, 0)) (by (with_reducible repeat (first | refine blk_drewN ?_ _ | refine blk_drew ?_ | refine blk_alloc ?_ _)); exact BK318.out)) : gb328 ≠ gb318)); clear BK318; clear HB; have BK318 := n0_; have HB := n1_; have BK328 := n2_; have GW328 := n3_; have GE328 := n4_; have NB318_328 := n5_; have NB328_318 := n6_; clear n0_ n1_ n2_ n3_ n4_ n5_ n6_; clear hb hbox hg; have hnb50 := NB328_318.out; have hnc50 := NB318_328.out; have hcz51_0 : w49.cell? ⟨gb328, 0, none⟩ = some (.int .i64 0) := (blk_cell BK328.out 0).trans rfl; have hcz51_1 : w49.cell? ⟨gb328, 1, none⟩ = some (.bool false) := (blk_cell BK328.out 1).trans rfl; have hcz51_2 : w49.cell? ⟨gb328, 2, none⟩ = some (.string (⟨#[]⟩ : ByteArray)) := (blk_cell BK328.out 2).trans rfl; have hfz51_0 := blk_frozen BK328.out 0; have hfz51_1 := blk_frozen BK328.out 1; have hfz51_2 := blk_frozen BK328.out 2; have hcz52_0 : w49.cell? ⟨gb318, 0, none⟩ = some (.int .i64 a0_0) := (blk_cell BK318.out 0).trans rfl; have hcz52_1 : w49.cell? ⟨gb318, 1, none⟩ = some (.bool a0_1) := (blk_cell BK318.out 1).trans rfl; have hcz52_2 : w49.cell? ⟨gb318, 2, none⟩ = some (.string a0_2) := (blk_cell BK318.out 2).trans rfl; have hcz52_3 : w49.cell? ⟨gb318, 3, none⟩ = some (.int .i64 a0_3) := (blk_cell BK318.out 3).trans rfl; have hcz52_4 : w49.cell? ⟨gb318, 4, none⟩ = some (.bool a0_4) := (blk_cell BK318.out 4).trans rfl; have hcz52_5 : w49.cell? ⟨gb318, 5, none⟩ = some (.string a0_5) := (blk_cell BK318.out 5).trans rfl; have hcz52_6 : w49.cell? ⟨gb318, 6, none⟩ = some (.bool a0_6) := (blk_cell BK318.out 6).trans rfl; have hcz52_7 : w49.cell? ⟨gb318, 7, none⟩ = some (.int .i64 a0_7) := (blk_cell BK318.out 7).trans rfl; have hcz52_8 : w49.cell? ⟨gb318, 8, none⟩ = some (.int .i64 a0_8) := (blk_cell BK318.out 8).trans rfl; have hcz52_9 : w49.cell? ⟨gb318, 9, none⟩ = some (.int .i64 a0_9) := (blk_cell BK318.out 9).trans rfl; have hcz52_10 : w49.cell? ⟨gb318, 10, none⟩ = some (.int .i64 a0_10) := (blk_cell BK318.out 10).trans rfl; have hcz52_11 : w49.cell? ⟨gb318, 11, none⟩ = some (.int .i64 a0_11) := (blk_cell BK318.out 11).trans rfl; have hcz52_12 : w49.cell? ⟨gb318, 12, none⟩ = some (.int .i64 a0_12) := (blk_cell BK318.out 12).trans rfl; have hcz52_13 : w49.cell? ⟨gb318, 13, none⟩ = some (.int .i64 a0_13) := (blk_cell BK318.out 13).trans rfl; have hcz52_14 : w49.cell? ⟨gb318, 14, none⟩ = some (.int .i64 a0_14) := (blk_cell BK318.out 14).trans rfl; have hcz52_15 : w49.cell? ⟨gb318, 15, none⟩ = some (.int .i64 a0_15) := (blk_cell BK318.out 15).trans rfl; have hcz52_16 : w49.cell? ⟨gb318, 16, none⟩ = some (.int .i64 a0_16) := (blk_cell BK318.out 16).trans rfl; have hfz52_0 := blk_frozen BK318.out 0; have hfz52_1 := blk_frozen BK318.out 1; have hfz52_2 := blk_frozen BK318.out 2; have hfz52_3 := blk_frozen BK318.out 3; have hfz52_4 := blk_frozen BK318.out 4; have hfz52_5 := blk_frozen BK318.out 5; have hfz52_6 := blk_frozen BK318.out 6; have hfz52_7 := blk_frozen BK318.out 7; have hfz52_8 := blk_frozen BK318.out 8; have hfz52_9 := blk_frozen BK318.out 9; have hfz52_10 := blk_frozen BK318.out 10; have hfz52_11 := blk_frozen BK318.out 11; have hfz52_12 := blk_frozen BK318.out 12; have hfz52_13 := blk_frozen BK318.out 13; have hfz52_14 := blk_frozen BK318.out 14; have hfz52_15 := blk_frozen BK318.out 15; have hfz52_16 := blk_frozen BK318.out 16))
                      go_ret
                      exact ⟨by first | rfl | (simp [errW_none, errW_some] <;> rfl) | (simp only [← hji15]; first | rfl | (simp [errW_none, errW_some] <;> rfl)) | (simp [*, errW_none, errW_some] <;> rfl), by repeat (first | (with_reducible first | exact HB.out | apply below_alloc | apply pw_below_drewN | apply below_drew1 | refine below_set ?_ GE318.out | refine below_set ?_ GE328.out) | exact HB.out)⟩
                    · rw [if_neg c47] at H
                      have c47b0 : (t327 == 0) = false := beq_eq_false_iff_ne.mpr c47
                      have c47b1 : (t327 != 0) = true := bne_iff_ne.mpr c47
                      obtain rfl := Option.some.inj H
                      go_wp2_with (first | ((with_reducible refine gate_dst (N := 87) rfl ?_); refine wpList_load_row rfl 27 _ rfl (gb318) rfl 27 #[.int .i64 a0_0, .bool a0_1, .string a0_2, .int .i64 a0_3, .bool a0_4, .string a0_5, .bool a0_6, .int .i64 a0_7, .int .i64 a0_8, .int .i64 a0_9, .int .i64 a0_10, .int .i64 a0_11, .int .i64 a0_12, .int .i64 a0_13, .int .i64 a0_14, .int .i64 a0_15, .int .i64 a0_16] (0, 0) _ (by (with_reducible repeat (first | refine blk_drewN ?_ _ | refine blk_drew ?_ | refine blk_alloc ?_ _)); exact BK318.out) Tryd.underlying27 rfl (by kernel_rfl) ?_) | ((with_reducible refine gate_callee (f := 16) rfl ?_); refine goesL_ (some 89) rfl rfl Tryd.func16 (by kernel_rfl) rfl #[.agg #[.int .i64 a0_0, .bool a0_1, .string a0_2, .int .i64 a0_3, .bool a0_4, .string a0_5, .bool a0_6, .int .i64 a0_7, .int .i64 a0_8, .int .i64 a0_9, .int .i64 a0_10, .int .i64 a0_11, .int .i64 a0_12, .int .i64 a0_13, .int .i64 a0_14, .int .i64 a0_15, .int .i64 a0_16], .int .i64 (wrap64 ((ji15) + (Go.bits .and .i64 a2 16777215)))] rfl (by (try simp only [List.map_toArray, List.map_cons, List.map_nil]); first | done | (simp only [hji15]; rfl) | rfl | (simp only [List.length_drop, List.length_take]; rfl)) ?_; (with_reducible refine (rule_At.calls k2 a0_0 a0_1 a0_2 a0_3 a0_4 a0_5 a0_6 a0_7 a0_8 a0_9 a0_10 a0_11 a0_12 a0_13 a0_14 a0_15 a0_16 (wrap64 ((ji15) + (Go.bits .and .i64 a2 16777215))) t324 t325 t326 t327 _ ?side1 A29.out).mono ?_); (case side1 => exact GL.below HG.out (by repeat (first | (with_reducible first | exact HB.out | apply below_alloc | apply pw_below_drewN | apply below_drew1 | refine below_set ?_ GE318.out) | exact HB.out))); rintro e w53 ⟨rfl, hb⟩; refine ⟨_, rfl, ?_⟩; have n0_ := Aside0.mk (blk_below (g := gb318) (o := .cells #[.int .i64 a0_0, .bool a0_1, .string a0_2, .int .i64 a0_3, .bool a0_4, .string a0_5, .bool a0_6, .int .i64 a0_7, .int .i64 a0_8, .int .i64 a0_9, .int .i64 a0_10, .int .i64 a0_11, .int .i64 a0_12, .int .i64 a0_13, .int .i64 a0_14, .int .i64 a0_15, .int .i64 a0_16] 27 (0, 0)) (by (with_reducible repeat (first | refine blk_drewN ?_ _ | refine blk_drew ?_ | refine blk_alloc ?_ _)); exact BK318.out) hb); have n1_ := Aside0.mk (below_step (by repeat (first | (with_reducible first | exact HB.out | apply below_alloc | apply pw_below_drewN | apply below_drew1 | refine below_set ?_ GE318.out) | exact HB.out)) hb); clear BK318; clear HB; have BK318 := n0_; have HB := n1_; clear n0_ n1_; (try clear hb); (try clear hb2); (try clear hk); (try clear hi)) | ((with_reducible refine gate_dst (N := 19) rfl ?_); refine box_event ?hg (N := 19) ?hd (cs := #[.int .i64 0, .bool false, .string (⟨#[]⟩ : ByteArray)]) (t := 23) ?hr ?_; (case hd => rfl); (case hg => rfl); (case hr => first | (go_simp; done) | (go_simp; rfl)); intro gb328 hg w54 hbox hb; have n0_ := Aside0.mk (blk_below (g := gb318) (o := .cells #[.int .i64 a0_0, .bool a0_1, .string a0_2, .int .i64 a0_3, .bool a0_4, .string a0_5, .bool a0_6, .int .i64 a0_7, .int .i64 a0_8, .int .i64 a0_9, .int .i64 a0_10, .int .i64 a0_11, .int .i64 a0_12, .int .i64 a0_13, .int .i64 a0_14, .int .i64 a0_15, .int .i64 a0_16] 27 (0, 0)) (by (with_reducible repeat (first | refine blk_drewN ?_ _ | refine blk_drew ?_ | refine blk_alloc ?_ _)); exact BK318.out) hb); have n1_ := Aside0.mk (below_step (by repeat (first | (with_reducible first | exact HB.out | apply below_alloc | apply pw_below_drewN | apply below_drew1 | refine below_set ?_ GE318.out) | exact HB.out)) hb); have n2_ := Aside0.mk (hbox); have n3_ := Aside0.mk ((by rw [hg]; exact (below_size (by repeat (first | (with_reducible first | exact HB.out | apply below_alloc | apply pw_below_drewN | apply below_drew1 | refine below_set ?_ GE318.out) | exact HB.out))) : w.heap.size ≤ gb328)); have n4_ := Aside0.mk ((by rw [hg]; exact (below_size (by repeat (first | (with_reducible first | exact HB.out | apply below_alloc | apply pw_below_drewN | apply below_drew1 | refine below_set ?_ GE318.out) | exact HB.out))) : w.heap.size ≤ gb328)); have n5_ := Aside0.mk ((by rw [hg]; exact Nat.ne_of_lt (blk_lt (g := gb318) (o := .cells #[.int .i64 a0_0, .bool a0_1, .string a0_2, .int .i64 a0_3, .bool a0_4, .string a0_5, .bool a0_6, .int .i64 a0_7, .int .i64 a0_8, .int .i64 a0_9, .int .i64 a0_10, .int .i64 a0_11, .int .i64 a0_12, .int .i64 a0_13, .int .i64 a0_14, .int .i64 a0_15, .int .i64 a0_16] 27 (0, 0)) (by (with_reducible repeat (first | refine blk_drewN ?_ _ | refine blk_drew ?_ | refine blk_alloc ?_ _)); exact BK318.out)) : gb318 ≠ gb328)); have n6_ := Aside0.mk ((by rw [hg]; exact Nat.ne_of_gt (blk_lt (g := gb318) (o := .cells #[.int .i64 a0_0, .bool a0_1, .string a0_2, .int .i64 a0_3, .bool a0_4, .string a0_5, .bool a0_6, .int .i64 a0_7, .int .i64 a0_8, .int .i64 a0_9, .int .i64 a0_10, .int .i64 a0_11, .int .i64 a0_12, .int .i64 a0_13, .int .i64 a0_14, .int .i64 a0_15, .int .i64 a0_16] 27 (0, 0)) (by (with_reducible repeat (first | refine blk_drewN ?_ _ | refine blk_drew ?_ | refine blk_alloc ?_ _)); exact BK318.out)) : gb328 ≠ gb318)); clear BK318; clear HB; have BK318 := n0_; have HB := n1_; have BK328 := n2_; have GW328 := n3_; have GE328 := n4_; have NB318_328 := n5_; have NB328_318 := n6_; clear n0_ n1_ n2_ n3_ n4_ n5_ n6_; clear hb hbox hg; have hnb55 := NB328_318.out; have hnc55 := NB318_328.out; have hcz56_0 : w54.cell? ⟨gb328, 0, none⟩ = some (.int .i64 0) := (blk_cell BK328.out 0).trans rfl; have hcz56_1 : w54.cell? ⟨gb328, 1, none⟩ = some (.bool false) := (blk_cell BK328.out 1).trans rfl; have hcz56_2 : w54.cell? ⟨gb328, 2, none⟩ = some (.string (⟨#[]⟩ : ByteArray)) := (blk_cell BK328.out 2).trans rfl; have hfz56_0 := blk_frozen BK328.out 0; have hfz56_1 := blk_frozen BK328.out 1; have hfz56_2 := blk_frozen BK328.out 2))
                      go_ret
                      exact ⟨by first | rfl | (simp [errW_none, errW_some] <;> rfl) | (simp only [← hji15]; first | rfl | (simp [errW_none, errW_some] <;> rfl)) | (simp [*, errW_none, errW_some] <;> rfl), by repeat (first | (with_reducible first | exact HB.out | apply below_alloc | apply pw_below_drewN | apply below_drew1 | refine below_set ?_ GE318.out | refine below_set ?_ GE328.out) | exact HB.out)⟩
                  · replace c46 := Bool.eq_false_iff.mpr c46
                    subst c46
                    have H1 : (some false) = some r := by rw [if_neg (show ¬ (false = true) by decide)] at H; exact H
                    clear H
                    have H := H1
                    clear H1
                    obtain rfl := Option.some.inj H
                    go_wp2_with (first | ((with_reducible refine gate_dst (N := 87) rfl ?_); refine wpList_load_row rfl 27 _ rfl (gb318) rfl 27 #[.int .i64 a0_0, .bool a0_1, .string a0_2, .int .i64 a0_3, .bool a0_4, .string a0_5, .bool a0_6, .int .i64 a0_7, .int .i64 a0_8, .int .i64 a0_9, .int .i64 a0_10, .int .i64 a0_11, .int .i64 a0_12, .int .i64 a0_13, .int .i64 a0_14, .int .i64 a0_15, .int .i64 a0_16] (0, 0) _ (by (with_reducible repeat (first | refine blk_drewN ?_ _ | refine blk_drew ?_ | refine blk_alloc ?_ _)); exact BK318.out) Tryd.underlying27 rfl (by kernel_rfl) ?_) | ((with_reducible refine gate_callee (f := 16) rfl ?_); refine goesL_ (some 89) rfl rfl Tryd.func16 (by kernel_rfl) rfl #[.agg #[.int .i64 a0_0, .bool a0_1, .string a0_2, .int .i64 a0_3, .bool a0_4, .string a0_5, .bool a0_6, .int .i64 a0_7, .int .i64 a0_8, .int .i64 a0_9, .int .i64 a0_10, .int .i64 a0_11, .int .i64 a0_12, .int .i64 a0_13, .int .i64 a0_14, .int .i64 a0_15, .int .i64 a0_16], .int .i64 (wrap64 ((ji15) + (Go.bits .and .i64 a2 16777215)))] rfl (by (try simp only [List.map_toArray, List.map_cons, List.map_nil]); first | done | (simp only [hji15]; rfl) | rfl | (simp only [List.length_drop, List.length_take]; rfl)) ?_; (with_reducible refine (rule_At.calls k2 a0_0 a0_1 a0_2 a0_3 a0_4 a0_5 a0_6 a0_7 a0_8 a0_9 a0_10 a0_11 a0_12 a0_13 a0_14 a0_15 a0_16 (wrap64 ((ji15) + (Go.bits .and .i64 a2 16777215))) t324 t325 t326 t327 _ ?side1 A29.out).mono ?_); (case side1 => exact GL.below HG.out (by repeat (first | (with_reducible first | exact HB.out | apply below_alloc | apply pw_below_drewN | apply below_drew1 | refine below_set ?_ GE318.out) | exact HB.out))); rintro e w57 ⟨rfl, hb⟩; refine ⟨_, rfl, ?_⟩; have n0_ := Aside0.mk (blk_below (g := gb318) (o := .cells #[.int .i64 a0_0, .bool a0_1, .string a0_2, .int .i64 a0_3, .bool a0_4, .string a0_5, .bool a0_6, .int .i64 a0_7, .int .i64 a0_8, .int .i64 a0_9, .int .i64 a0_10, .int .i64 a0_11, .int .i64 a0_12, .int .i64 a0_13, .int .i64 a0_14, .int .i64 a0_15, .int .i64 a0_16] 27 (0, 0)) (by (with_reducible repeat (first | refine blk_drewN ?_ _ | refine blk_drew ?_ | refine blk_alloc ?_ _)); exact BK318.out) hb); have n1_ := Aside0.mk (below_step (by repeat (first | (with_reducible first | exact HB.out | apply below_alloc | apply pw_below_drewN | apply below_drew1 | refine below_set ?_ GE318.out) | exact HB.out)) hb); clear BK318; clear HB; have BK318 := n0_; have HB := n1_; clear n0_ n1_; (try clear hb); (try clear hb2); (try clear hk); (try clear hi)) | ((with_reducible refine gate_dst (N := 19) rfl ?_); refine box_event ?hg (N := 19) ?hd (cs := #[.int .i64 0, .bool false, .string (⟨#[]⟩ : ByteArray)]) (t := 23) ?hr ?_; (case hd => rfl); (case hg => rfl); (case hr => first | (go_simp; done) | (go_simp; rfl)); intro gb328 hg w58 hbox hb; have n0_ := Aside0.mk (blk_below (g := gb318) (o := .cells #[.int .i64 a0_0, .bool a0_1, .string a0_2, .int .i64 a0_3, .bool a0_4, .string a0_5, .bool a0_6, .int .i64 a0_7, .int .i64 a0_8, .int .i64 a0_9, .int .i64 a0_10, .int .i64 a0_11, .int .i64 a0_12, .int .i64 a0_13, .int .i64 a0_14, .int .i64 a0_15, .int .i64 a0_16] 27 (0, 0)) (by (with_reducible repeat (first | refine blk_drewN ?_ _ | refine blk_drew ?_ | refine blk_alloc ?_ _)); exact BK318.out) hb); have n1_ := Aside0.mk (below_step (by repeat (first | (with_reducible first | exact HB.out | apply below_alloc | apply pw_below_drewN | apply below_drew1 | refine below_set ?_ GE318.out) | exact HB.out)) hb); have n2_ := Aside0.mk (hbox); have n3_ := Aside0.mk ((by rw [hg]; exact (below_size (by repeat (first | (with_reducible first | exact HB.out | apply below_alloc | apply pw_below_drewN | apply below_drew1 | refine below_set ?_ GE318.out) | exact HB.out))) : w.heap.size ≤ gb328)); have n4_ := Aside0.mk ((by rw [hg]; exact (below_size (by repeat (first | (with_reducible first | exact HB.out | apply below_alloc | apply pw_below_drewN | apply below_drew1 | refine below_set ?_ GE318.out) | exact HB.out))) : w.heap.size ≤ gb328)); have n5_ := Aside0.mk ((by rw [hg]; exact Nat.ne_of_lt (blk_lt (g := gb318) (o := .cells #[.int .i64 a0_0, .bool a0_1, .string a0_2, .int .i64 a0_3, .bool a0_4, .string a0_5, .bool a0_6, .int .i64 a0_7, .int .i64 a0_8, .int .i64 a0_9, .int .i64 a0_10, .int .i64 a0_11, .int .i64 a0_12, .int .i64 a0_13, .int .i64 a0_14, .int .i64 a0_15, .int .i64 a0_16] 27 (0, 0)) (by (with_reducible repeat (first | refine blk_drewN ?_ _ | refine blk_drew ?_ | refine blk_alloc ?_ _)); exact BK318.out)) : gb318 ≠ gb328)); have n6_ := Aside0.mk ((by rw [hg]; exact Nat.ne_of_gt (blk_lt (g := gb318) (o := .cells #[.int .i64 a0_0, .bool a0_1, .string a0_2, .int .i64 a0_3, .bool a0_4, .string a0_5, .bool a0_6, .int .i64 a0_7, .int .i64 a0_8, .int .i64 a0_9, .int .i64 a0_10, .int .i64 a0_11, .int .i64 a0_12, .int .i64 a0_13, .int .i64 a0_14, .int .i64 a0_15, .int .i64 a0_16] 27 (0, 0)) (by (with_reducible repeat (first | refine blk_drewN ?_ _ | refine blk_drew ?_ | refine blk_alloc ?_ _)); exact BK318.out)) : gb328 ≠ gb318)); clear BK318; clear HB; have BK318 := n0_; have HB := n1_; have BK328 := n2_; have GW328 := n3_; have GE328 := n4_; have NB318_328 := n5_; have NB328_318 := n6_; clear n0_ n1_ n2_ n3_ n4_ n5_ n6_; clear hb hbox hg; have hnb59 := NB328_318.out; have hnc59 := NB318_328.out; have hcz60_0 : w58.cell? ⟨gb328, 0, none⟩ = some (.int .i64 0) := (blk_cell BK328.out 0).trans rfl; have hcz60_1 : w58.cell? ⟨gb328, 1, none⟩ = some (.bool false) := (blk_cell BK328.out 1).trans rfl; have hcz60_2 : w58.cell? ⟨gb328, 2, none⟩ = some (.string (⟨#[]⟩ : ByteArray)) := (blk_cell BK328.out 2).trans rfl; have hfz60_0 := blk_frozen BK328.out 0; have hfz60_1 := blk_frozen BK328.out 1; have hfz60_2 := blk_frozen BK328.out 2))
                    go_ret
                    exact ⟨by first | rfl | (simp [errW_none, errW_some] <;> rfl) | (simp only [← hji15]; first | rfl | (simp [errW_none, errW_some] <;> rfl)) | (simp [*, errW_none, errW_some] <;> rfl), by repeat (first | (with_reducible first | exact HB.out | apply below_alloc | apply pw_below_drewN | apply below_drew1 | refine below_set ?_ GE318.out | refine below_set ?_ GE328.out) | exact HB.out)⟩
        · rw [if_neg c14] at H
          have c14b0 : (t323 == 0) = false := beq_eq_false_iff_ne.mpr c14
          have c14b1 : (t323 != 0) = true := bne_iff_ne.mpr c14
          obtain rfl := Option.some.inj H
          go_wp2_with (first | ((with_reducible refine gate_dst (N := 37) rfl ?_); refine wpList_load_row rfl 27 _ rfl (gb318) rfl 27 #[.int .i64 a0_0, .bool a0_1, .string a0_2, .int .i64 a0_3, .bool a0_4, .string a0_5, .bool a0_6, .int .i64 a0_7, .int .i64 a0_8, .int .i64 a0_9, .int .i64 a0_10, .int .i64 a0_11, .int .i64 a0_12, .int .i64 a0_13, .int .i64 a0_14, .int .i64 a0_15, .int .i64 a0_16] (0, 0) _ (by (with_reducible repeat (first | refine blk_drewN ?_ _ | refine blk_drew ?_ | refine blk_alloc ?_ _)); exact BK318.out) Tryd.underlying27 rfl (by kernel_rfl) ?_) | ((with_reducible refine gate_callee (f := 14) rfl ?_); refine goesL_ (some 39) rfl rfl Tryd.func14 (by kernel_rfl) rfl #[.agg #[.int .i64 a0_0, .bool a0_1, .string a0_2, .int .i64 a0_3, .bool a0_4, .string a0_5, .bool a0_6, .int .i64 a0_7, .int .i64 a0_8, .int .i64 a0_9, .int .i64 a0_10, .int .i64 a0_11, .int .i64 a0_12, .int .i64 a0_13, .int .i64 a0_14, .int .i64 a0_15, .int .i64 a0_16], .int .i64 (wrap64 (1800 + (Int.tmod (Go.bits .and .i64 a1 65535) 401)))] rfl (by (try simp only [List.map_toArray, List.map_cons, List.map_nil]); first | done | rfl | (simp only [List.length_drop, List.length_take]; rfl)) ?_; (with_reducible refine (rule_Turns.calls kj5 a0_0 a0_1 a0_2 a0_3 a0_4 a0_5 a0_6 a0_7 a0_8 a0_9 a0_10 a0_11 a0_12 a0_13 a0_14 a0_15 a0_16 (wrap64 (1800 + (Int.tmod (Go.bits .and .i64 a1 65535) 401))) t321 t322 t323 _ ?side1 A13.out).mono ?_); (case side1 => exact GL.below HG.out (by repeat (first | (with_reducible first | exact HB.out | apply below_alloc | apply pw_below_drewN | apply below_drew1 | refine below_set ?_ GE318.out) | exact HB.out))); rintro e w61 ⟨rfl, hb⟩; refine ⟨_, rfl, ?_⟩; have n0_ := Aside0.mk (blk_below (g := gb318) (o := .cells #[.int .i64 a0_0, .bool a0_1, .string a0_2, .int .i64 a0_3, .bool a0_4, .string a0_5, .bool a0_6, .int .i64 a0_7, .int .i64 a0_8, .int .i64 a0_9, .int .i64 a0_10, .int .i64 a0_11, .int .i64 a0_12, .int .i64 a0_13, .int .i64 a0_14, .int .i64 a0_15, .int .i64 a0_16] 27 (0, 0)) (by (with_reducible repeat (first | refine blk_drewN ?_ _ | refine blk_drew ?_ | refine blk_alloc ?_ _)); exact BK318.out) hb); have n1_ := Aside0.mk (below_step (by repeat (first | (with_reducible first | exact HB.out | apply below_alloc | apply pw_below_drewN | apply below_drew1 | refine below_set ?_ GE318.out) | exact HB.out)) hb); clear BK318; clear HB; have BK318 := n0_; have HB := n1_; clear n0_ n1_; (try clear hb); (try clear hb2); (try clear hk); (try clear hi)))
          go_ret
          exact ⟨by first | rfl | (simp [errW_none, errW_some] <;> rfl) | (simp [*, errW_none, errW_some] <;> rfl), by repeat (first | (with_reducible first | exact HB.out | apply below_alloc | apply pw_below_drewN | apply below_drew1 | refine below_set ?_ GE318.out) | exact HB.out)⟩

end Go.Proofs.YtgbehcahdgamoaaDoor.Fn

namespace Go.Proofs.YtgbehcahdgamoaaDoor.Fn
open Go.RowKit Go.Proofs.YtgbehcahdgamoaaDoorW.PrintWords Go.Proofs.YtgbehcahdgamoaaDoorW.PrintLast Go.Proofs.YtgbehcahdgamoaaDoorW.PrintMore

/-- A year's two turns, taken into account. -/
def stepW (t last : Int) (dst : Bool) (c d : Int) : Int × Bool :=
  if c ≤ t ∧ c ≥ last then (if d ≤ t ∧ d > c then (d, false) else (c, true)) else (if d ≤ t ∧ d > last then (d, false) else (last, dst))

theorem whole_round (k : Nat) (Y t last : Int) (dst : Bool) (y : Int) (head : Bool) (s0 : Int) (s1 : Bool) (s2 : ByteArray) (d0 : Int) (d1 : Bool) (d2 : ByteArray) (bo : Bool) (a0 : Int) (a1 : Int) (a2 : Int) (a3 : Int) (a4 : Int) (e0 : Int) (e1 : Int) (e2 : Int) (e3 : Int) (e4 : Int) (hY : IsI64 (Y + 2)) (hyI : IsI64 (y + 1)) (hy : y ≤ Y + 2) (ht : turnsB s0 s1 s2 d0 d1 d2 bo a0 a1 a2 a3 a4 e0 e1 e2 e3 e4 y = true) :
    longcaselaw09_RuleWhole.l0 (k + 6) Y head t last dst y s0 s1 s2 d0 d1 d2 bo a0 a1 a2 a3 a4 e0 e1 e2 e3 e4 =
      longcaselaw09_RuleWhole.l0 (k + 4) Y head t (stepW t last dst (startN y s0 a0 a1 a2 a3 a4) (startN y d0 e0 e1 e2 e3 e4)).1 (stepW t last dst (startN y s0 a0 a1 a2 a3 a4) (startN y d0 e0 e1 e2 e3 e4)).2 (y + 1) s0 s1 s2 d0 d1 d2 bo a0 a1 a2 a3 a4 e0 e1 e2 e3 e4 := by
  rw [longcaselaw09_RuleWhole.l0, w64 hY, if_pos hy, turns_eq (k + 1), if_pos ht]
  simp only [Option.bind_some, if_true]
  generalize startN y s0 a0 a1 a2 a3 a4 = c
  generalize startN y d0 e0 e1 e2 e3 e4 = d
  unfold stepW
  by_cases h1 : c ≤ t
  · rw [if_pos h1]
    by_cases h2 : c ≥ last
    · have : decide (c ≥ last) = true := by simpa using h2
      rw [this, if_pos ⟨h1, h2⟩, longcaselaw09_RuleWhole.j2, if_pos rfl, w64 hyI]
      by_cases h3 : d ≤ t
      · rw [if_pos h3]
        by_cases h4 : d > c
        · rw [if_pos h4, if_pos ⟨h3, h4⟩]
        · rw [if_neg h4, if_neg (fun e => h4 e.2)]
      · rw [if_neg h3, if_neg (fun e => h3 e.1)]
    · have : decide (c ≥ last) = false := by simpa using h2
      rw [this, if_neg (fun e => h2 e.2), longcaselaw09_RuleWhole.j2, if_neg (by decide), w64 hyI]
      by_cases h3 : d ≤ t
      · rw [if_pos h3]
        by_cases h4 : d > last
        · rw [if_pos h4, if_pos ⟨h3, h4⟩]
        · rw [if_neg h4, if_neg (fun e => h4 e.2)]
      · rw [if_neg h3, if_neg (fun e => h3 e.1)]
  · rw [if_neg h1, if_neg (fun e => h1 e.1), longcaselaw09_RuleWhole.j2, if_neg (by decide), w64 hyI]
    by_cases h3 : d ≤ t
    · rw [if_pos h3]
      by_cases h4 : d > last
      · rw [if_pos h4, if_pos ⟨h3, h4⟩]
      · rw [if_neg h4, if_neg (fun e => h4 e.2)]
    · rw [if_neg h3, if_neg (fun e => h3 e.1)]

/-- What has been found among some turns: the last one that is not behind t; of a start and an end at one moment the start. -/
def InvW (t : Int) (P : Int × Bool → Prop) (last : Int) (dst : Bool) : Prop :=
  (∀ x, P x → x.1 ≤ t → x.1 ≤ last) ∧ ((last = -4611686018427387904 ∧ dst = false ∧ ∀ x, P x → t < x.1) ∨ (P (last, dst) ∧ last ≤ t)) ∧ (P (last, true) → last ≤ t → dst = true)
theorem InvW.step {t : Int} {P : Int × Bool → Prop} {last : Int} {dst : Bool} (h : InvW t P last dst) (c d : Int) (hc : -4611686018427387904 < c) (hd : -4611686018427387904 < d) :
    InvW t (fun x => P x ∨ x = (c, true) ∨ x = (d, false)) (stepW t last dst c d).1 (stepW t last dst c d).2 := by
  obtain ⟨h1, h2, h3⟩ := h
  unfold stepW
  by_cases a : c ≤ t ∧ c ≥ last
  · rw [if_pos a]
    by_cases b : d ≤ t ∧ d > c
    · rw [if_pos b]
      refine ⟨?_, .inr ⟨.inr (.inr rfl), b.1⟩, ?_⟩
      · rintro x (hx | rfl | rfl) hxt
        · have := h1 x hx hxt; simp only; omega
        · simp only; omega
        · exact Int.le_refl _
      · rintro (hx | e | e) _
        · have := h1 _ hx b.1; simp only at this; omega
        · have := congrArg Prod.fst e; simp only at this; omega
        · cases e
    · rw [if_neg b]
      refine ⟨?_, .inr ⟨.inr (.inl rfl), a.1⟩, fun _ _ => rfl⟩
      rintro x (hx | rfl | rfl) hxt
      · have := h1 x hx hxt; simp only; omega
      · exact Int.le_refl _
      · simp only at hxt ⊢; omega
  · rw [if_neg a]
    by_cases b : d ≤ t ∧ d > last
    · rw [if_pos b]
      refine ⟨?_, .inr ⟨.inr (.inr rfl), b.1⟩, ?_⟩
      · rintro x (hx | rfl | rfl) hxt
        · have := h1 x hx hxt; simp only; omega
        · simp only at hxt ⊢; omega
        · exact Int.le_refl _
      · rintro (hx | e | e) _
        · have := h1 _ hx b.1; simp only at this; omega
        · have := congrArg Prod.fst e; simp only at this; omega
        · cases e
    · rw [if_neg b]
      refine ⟨?_, ?_, ?_⟩
      · rintro x (hx | rfl | rfl) hxt
        · exact h1 x hx hxt
        · simp only at hxt ⊢; omega
        · simp only at hxt ⊢; omega
      · rcases h2 with ⟨g1, g2, g3⟩ | ⟨g1, g2⟩
        · refine .inl ⟨g1, g2, ?_⟩
          rintro x (hx | rfl | rfl)
          · exact g3 x hx
          · simp only; omega
          · simp only; omega
        · exact .inr ⟨.inl g1, g2⟩
      · rintro (hx | e | e) hl
        · exact h3 hx hl
        · have := congrArg Prod.fst e; simp only at this; omega
        · cases e

theorem whole_core (s0 : Int) (s1 : Bool) (s2 : ByteArray) (d0 : Int) (d1 : Bool) (d2 : ByteArray) (bo : Bool) (a0 : Int) (a1 : Int) (a2 : Int) (a3 : Int) (a4 : Int) (e0 : Int) (e1 : Int) (e2 : Int) (e3 : Int) (e4 : Int) (hr : rightB s0 s1 s2 d0 d1 d2 bo a0 a1 a2 a3 a4 e0 e1 e2 e3 e4 true = true) (hb : bo = true) (Y m t : Int) (hY : 1800 ≤ Y ∧ Y ≤ 2200) (hm : 0 ≤ m ∧ m ≤ 16777215)
    (ht : t = mn (startN Y s0 a0 a1 a2 a3 a4) (startN Y d0 e0 e1 e2 e3 e4) + m) (last : Int) (dst : Bool)
    (hI : InvW t (fun z => ∃ i, Y - 1 ≤ i ∧ i ≤ Y + 2 ∧ z ∈ rowT (turnsN s0 s1 s2 d0 d1 d2 bo a0 a1 a2 a3 a4 e0 e1 e2 e3 e4 i)) last dst) : dstT t (sortT (yearRows s0 s1 s2 d0 d1 d2 bo a0 a1 a2 a3 a4 e0 e1 e2 e3 e4 (dY (t / 86400)))) = dst := by
  obtain ⟨h1, h2, h3⟩ := hI
  have hmay : ∀ i, 1700 ≤ i → i ≤ 2300 → turnsB s0 s1 s2 d0 d1 d2 bo a0 a1 a2 a3 a4 e0 e1 e2 e3 e4 i = true := fun i a b => turnsB_two s0 s1 s2 d0 d1 d2 bo a0 a1 a2 a3 a4 e0 e1 e2 e3 e4 hr hb i (by unfold mayB; simp; omega)
  have hrow : ∀ i, 1700 ≤ i → i ≤ 2300 → rowT (turnsN s0 s1 s2 d0 d1 d2 bo a0 a1 a2 a3 a4 e0 e1 e2 e3 e4 i) = [(startN i d0 e0 e1 e2 e3 e4, false), (startN i s0 a0 a1 a2 a3 a4, true)] := fun i a b => by rw [rowT_turns, if_pos (hmay i a b)]
  -- the first of the year's two turns
  obtain ⟨u, hu, hu1⟩ : ∃ u, u ∈ rowT (turnsN s0 s1 s2 d0 d1 d2 bo a0 a1 a2 a3 a4 e0 e1 e2 e3 e4 Y) ∧ t = u.1 + m := by
    rw [hrow Y (by omega) (by omega)]
    unfold mn at ht
    split at ht
    · exact ⟨_, List.mem_cons_self .., ht⟩
    · exact ⟨_, List.mem_cons_of_mem _ (List.mem_cons_self ..), ht⟩
  have hR := turn_range s0 s1 s2 d0 d1 d2 bo a0 a1 a2 a3 a4 e0 e1 e2 e3 e4 hr hb
  have hur := hR Y u hu
  have hs := sec_year t
  have z1 := secY_step (Y - 2)
  have z2 := secY_step (Y - 1)
  have z3 := secY_step Y
  have z4 := secY_step (Y + 1)
  have z5 := secY_step (Y + 2)
  simp only [show Y - 2 + 1 = Y - 1 by omega, show Y - 1 + 1 = Y by omega, show Y + 1 + 1 = Y + 2 by omega, show Y + 2 + 1 = Y + 3 by omega] at z1 z2 z3 z4 z5
  generalize dY (t / 86400) = Z at hs ⊢
  have hZ : Z = Y - 1 ∨ Z = Y ∨ Z = Y + 1 := by
    have g1 : secY (Y - 1) ≤ t := by omega
    have g2 : t < secY (Y + 2) := by omega
    have c1 : Y - 1 ≤ Z := by
      rcases Int.lt_or_le Z (Y - 1) with g | g
      · have := year_mono (show Z + 1 ≤ Y - 1 by omega); unfold secY at *; omega
      · exact g
    have c2 : Z ≤ Y + 1 := by
      rcases Int.lt_or_le (Y + 1) Z with g | g
      · have := year_mono (show Y + 2 ≤ Z by omega); unfold secY at *; omega
      · exact g
    omega
  -- a turn between the two, of one row's years, is of the other row's years
  have tr : ∀ z, u.1 ≤ z.1 → z.1 ≤ t → ((∃ i, Y - 1 ≤ i ∧ i ≤ Y + 2 ∧ z ∈ rowT (turnsN s0 s1 s2 d0 d1 d2 bo a0 a1 a2 a3 a4 e0 e1 e2 e3 e4 i)) ↔ (∃ i, Z - 1 ≤ i ∧ i ≤ Z + 1 ∧ z ∈ rowT (turnsN s0 s1 s2 d0 d1 d2 bo a0 a1 a2 a3 a4 e0 e1 e2 e3 e4 i))) := by
    intro z hz1 hz2
    constructor
    · rintro ⟨i, i1, i2, hz⟩
      have hzr := hR i z hz
      refine ⟨i, ?_, ?_, hz⟩
      · rcases hZ with e | e | e
        · omega
        · omega
        · rcases (show i = Y - 1 ∨ Y ≤ i by omega) with g | g
          · rw [g] at hzr; rw [e] at hs; omega
          · omega
      · rcases hZ with e | e | e
        · rw [e, show Y - 1 + 1 = Y by omega] at hs
          rcases (show i = Y + 1 ∨ i = Y + 2 ∨ i ≤ Y by omega) with g | g | g
          · rw [g] at hzr; omega
          · rw [g] at hzr; omega
          · omega
        · rw [e] at hs
          rcases (show i = Y + 2 ∨ i ≤ Y + 1 by omega) with g | g
          · rw [g] at hzr; omega
          · omega
        · omega
    · rintro ⟨i, i1, i2, hz⟩
      have hzr := hR i z hz
      refine ⟨i, ?_, ?_, hz⟩
      · rcases hZ with e | e | e
        · rcases (show i = Y - 2 ∨ Y - 1 ≤ i by omega) with g | g
          · rw [g] at hzr; rw [e] at hs; omega
          · omega
        · omega
        · omega
      · omega
  have huZ : ∃ i, Z - 1 ≤ i ∧ i ≤ Z + 1 ∧ u ∈ rowT (turnsN s0 s1 s2 d0 d1 d2 bo a0 a1 a2 a3 a4 e0 e1 e2 e3 e4 i) := (tr u (Int.le_refl _) (by omega)).1 ⟨Y, by omega, by omega, hu⟩
  obtain ⟨x, hx, hxt, hd, hmax⟩ := dst_some t (yearRows s0 s1 s2 d0 d1 d2 bo a0 a1 a2 a3 a4 e0 e1 e2 e3 e4 Z) ⟨u, (mem_yearRows s0 s1 s2 d0 d1 d2 bo a0 a1 a2 a3 a4 e0 e1 e2 e3 e4 Z u).2 huZ, by omega⟩
  rw [hd]
  have hux : u.1 ≤ x.1 := by
    have := hmax u ((mem_yearRows s0 s1 s2 d0 d1 d2 bo a0 a1 a2 a3 a4 e0 e1 e2 e3 e4 Z u).2 huZ) (by omega)
    omega
  have hxL := (tr x hux hxt).2 ((mem_yearRows s0 s1 s2 d0 d1 d2 bo a0 a1 a2 a3 a4 e0 e1 e2 e3 e4 Z x).1 hx)
  have hul : u.1 ≤ last := h1 u ⟨Y, by omega, by omega, hu⟩ (by omega)
  have hxl := h1 x hxL hxt
  rcases h2 with ⟨_, _, g⟩ | ⟨hl, hlt⟩
  · have := g u ⟨Y, by omega, by omega, hu⟩; omega
  · have hlZ := (mem_yearRows s0 s1 s2 d0 d1 d2 bo a0 a1 a2 a3 a4 e0 e1 e2 e3 e4 Z (last, dst)).2 ((tr (last, dst) hul hlt).1 hl)
    have h4 := hmax (last, dst) hlZ hlt
    have e : x.1 = last := by simp only at h4; omega
    have h5 : ¬ (x.2 = false ∧ dst = true) := by
      rcases h4 with h4 | h4
      · simp only at h4; omega
      · exact h4.2
    cases hx2 : x.2
    · cases dst
      · rfl
      · exact absurd ⟨hx2, rfl⟩ h5
    · have hxe : x = (last, true) := by rw [← e, ← hx2]
      rw [hxe] at hxL
      exact (h3 hxL hlt).symm

theorem RuleWhole_pure (s0 : Int) (s1 : Bool) (s2 : ByteArray) (d0 : Int) (d1 : Bool) (d2 : ByteArray) (bo : Bool) (a0 : Int) (a1 : Int) (a2 : Int) (a3 : Int) (a4 : Int) (e0 : Int) (e1 : Int) (e2 : Int) (e3 : Int) (e4 : Int) (y m : Int) : longcaselaw09_RuleWhole.f 31 s0 s1 s2 d0 d1 d2 bo a0 a1 a2 a3 a4 e0 e1 e2 e3 e4 y m = some true := by
  unfold longcaselaw09_RuleWhole.f longcaselaw09_shown.f
  simp only [Option.bind_some]
  rw [refRight_eq 8]
  simp only [Option.bind_some]
  cases hr : rightB s0 s1 s2 d0 d1 d2 bo a0 a1 a2 a3 a4 e0 e1 e2 e3 e4 true
  · rw [if_neg (by decide), longcaselaw09_RuleWhole.j0, if_pos rfl]
  · rw [if_pos rfl]
    cases hb : bo
    · rw [longcaselaw09_RuleWhole.j0, if_pos (by decide)]
    · subst hb
      rw [longcaselaw09_RuleWhole.j0, if_neg (by decide), i64_and65535, i64_and24]
      have hY0 : 0 ≤ Int.tmod (y % 65536) 401 ∧ Int.tmod (y % 65536) 401 ≤ 400 := by
        rw [Int.tmod_eq_emod_of_nonneg (by omega)]; omega
      generalize Int.tmod (y % 65536) 401 = q at hY0
      have hm0 : 0 ≤ m % 16777216 ∧ m % 16777216 ≤ 16777215 := by omega
      generalize m % 16777216 = p at hm0
      rw [w64 (a := 1800 + q) ⟨by omega, by omega⟩]
      obtain ⟨Y, hYq⟩ : ∃ Y, Y = 1800 + q := ⟨_, rfl⟩
      rw [← hYq]
      have hY : 1800 ≤ Y ∧ Y ≤ 2200 := by omega
      have hmay : ∀ i, 1700 ≤ i → i ≤ 2300 → turnsB s0 s1 s2 d0 d1 d2 true a0 a1 a2 a3 a4 e0 e1 e2 e3 e4 i = true := fun i a b => turnsB_two _ _ _ _ _ _ _ _ _ _ _ _ _ _ _ _ _ hr rfl i (by unfold mayB; simp; omega)
      rw [turns_eq 26, if_pos (hmay Y (by omega) (by omega))]
      simp only [Option.bind_some, if_true]
      have hR := turn_range s0 s1 s2 d0 d1 d2 true a0 a1 a2 a3 a4 e0 e1 e2 e3 e4 hr rfl
      have hrow : ∀ i, 1700 ≤ i → i ≤ 2300 → rowT (turnsN s0 s1 s2 d0 d1 d2 true a0 a1 a2 a3 a4 e0 e1 e2 e3 e4 i) = [(startN i d0 e0 e1 e2 e3 e4, false), (startN i s0 a0 a1 a2 a3 a4, true)] := fun i a b => by rw [rowT_turns, if_pos (hmay i a b)]
      have hsm : ∀ i, 1700 ≤ i → i ≤ 2300 → -100000000000000 ≤ secY i ∧ secY i ≤ 100000000000000 := by
        intro i a b
        have h1 := year_mono (show 0 ≤ i by omega)
        have h2 := year_mono (show i ≤ 4000 by omega)
        rw [show daysN 0 1 1 = -719528 by decide] at h1
        rw [show daysN 4000 1 1 = 741442 by decide] at h2
        unfold secY
        omega
      have hst : ∀ i, 1700 ≤ i → i ≤ 2300 → (-200000000000000 ≤ startN i s0 a0 a1 a2 a3 a4 ∧ startN i s0 a0 a1 a2 a3 a4 ≤ 200000000000000) ∧ (-200000000000000 ≤ startN i d0 e0 e1 e2 e3 e4 ∧ startN i d0 e0 e1 e2 e3 e4 ≤ 200000000000000) := by
        intro i a b
        have g1 := hR i (startN i d0 e0 e1 e2 e3 e4, false) (by rw [hrow i a b]; exact List.mem_cons_self ..)
        have g2 := hR i (startN i s0 a0 a1 a2 a3 a4, true) (by rw [hrow i a b]; exact List.mem_cons_of_mem _ (List.mem_cons_self ..))
        have g3 := hsm i a b
        simp only at g1 g2
        omega
      have hmn : -200000000000000 ≤ mn (startN Y s0 a0 a1 a2 a3 a4) (startN Y d0 e0 e1 e2 e3 e4) ∧ mn (startN Y s0 a0 a1 a2 a3 a4) (startN Y d0 e0 e1 e2 e3 e4) ≤ 200000000000000 := by
        have := hst Y (by omega) (by omega)
        unfold mn
        split <;> omega
      rw [w64 (a := mn (startN Y s0 a0 a1 a2 a3 a4) (startN Y d0 e0 e1 e2 e3 e4) + p) ⟨by omega, by omega⟩, w64 (a := Y - 1) ⟨by omega, by omega⟩]
      obtain ⟨t, ht⟩ : ∃ t, t = mn (startN Y s0 a0 a1 a2 a3 a4) (startN Y d0 e0 e1 e2 e3 e4) + p := ⟨_, rfl⟩
      rw [← ht]
      rw [show (30 : Nat) = 24 + 6 from rfl, whole_round 24 Y t _ _ (Y - 1) true _ _ _ _ _ _ _ _ _ _ _ _ _ _ _ _ _ ⟨by omega, by omega⟩ ⟨by omega, by omega⟩ (by omega) (hmay (Y - 1) (by omega) (by omega))]
      rw [show Y - 1 + 1 = Y by omega, show 24 + 4 = 22 + 6 from rfl, whole_round 22 Y t _ _ Y true _ _ _ _ _ _ _ _ _ _ _ _ _ _ _ _ _ ⟨by omega, by omega⟩ ⟨by omega, by omega⟩ (by omega) (hmay Y (by omega) (by omega))]
      rw [show 22 + 4 = 20 + 6 from rfl, whole_round 20 Y t _ _ (Y + 1) true _ _ _ _ _ _ _ _ _ _ _ _ _ _ _ _ _ ⟨by omega, by omega⟩ ⟨by omega, by omega⟩ (by omega) (hmay (Y + 1) (by omega) (by omega))]
      rw [show Y + 1 + 1 = Y + 2 by omega, show 20 + 4 = 18 + 6 from rfl, whole_round 18 Y t _ _ (Y + 2) true _ _ _ _ _ _ _ _ _ _ _ _ _ _ _ _ _ ⟨by omega, by omega⟩ ⟨by omega, by omega⟩ (by omega) (hmay (Y + 2) (by omega) (by omega))]
      have i0 : InvW t (fun _ => False) (-4611686018427387904) false := ⟨fun _ h => h.elim, .inl ⟨rfl, rfl, fun _ h => h.elim⟩, fun h => h.elim⟩
      have b1 := hst (Y - 1) (by omega) (by omega)
      have b2 := hst Y (by omega) (by omega)
      have b3 := hst (Y + 1) (by omega) (by omega)
      have b4 := hst (Y + 2) (by omega) (by omega)
      have i1 := i0.step (startN (Y - 1) s0 a0 a1 a2 a3 a4) (startN (Y - 1) d0 e0 e1 e2 e3 e4) (by omega) (by omega)
      have i2 := i1.step (startN Y s0 a0 a1 a2 a3 a4) (startN Y d0 e0 e1 e2 e3 e4) (by omega) (by omega)
      have i3 := i2.step (startN (Y + 1) s0 a0 a1 a2 a3 a4) (startN (Y + 1) d0 e0 e1 e2 e3 e4) (by omega) (by omega)
      have i4 := i3.step (startN (Y + 2) s0 a0 a1 a2 a3 a4) (startN (Y + 2) d0 e0 e1 e2 e3 e4) (by omega) (by omega)
      generalize (stepW t (stepW t (stepW t (stepW t _ _ _ _).1 _ _ _).1 _ _ _).1 _ _ _).1 = last at i4 ⊢
      generalize (stepW t (stepW t (stepW t (stepW t _ _ _ _).1 _ _ _).1 _ _ _).1 _ _ _).2 = dst at i4 ⊢
      have hI : InvW t (fun z => ∃ i, Y - 1 ≤ i ∧ i ≤ Y + 2 ∧ z ∈ rowT (turnsN s0 s1 s2 d0 d1 d2 true a0 a1 a2 a3 a4 e0 e1 e2 e3 e4 i)) last dst := by
        have hP : (fun z => ∃ i, Y - 1 ≤ i ∧ i ≤ Y + 2 ∧ z ∈ rowT (turnsN s0 s1 s2 d0 d1 d2 true a0 a1 a2 a3 a4 e0 e1 e2 e3 e4 i)) = (fun x : Int × Bool => ((((False ∨ x = (startN (Y - 1) s0 a0 a1 a2 a3 a4, true) ∨ x = (startN (Y - 1) d0 e0 e1 e2 e3 e4, false)) ∨ x = (startN Y s0 a0 a1 a2 a3 a4, true) ∨ x = (startN Y d0 e0 e1 e2 e3 e4, false)) ∨ x = (startN (Y + 1) s0 a0 a1 a2 a3 a4, true) ∨ x = (startN (Y + 1) d0 e0 e1 e2 e3 e4, false)) ∨ x = (startN (Y + 2) s0 a0 a1 a2 a3 a4, true) ∨ x = (startN (Y + 2) d0 e0 e1 e2 e3 e4, false))) := by
          funext x
          apply propext
          constructor
          · rintro ⟨i, g1, g2, g⟩
            rw [hrow i (by omega) (by omega)] at g
            simp only [List.mem_cons, List.not_mem_nil, or_false] at g
            rcases (show i = Y - 1 ∨ i = Y ∨ i = Y + 1 ∨ i = Y + 2 by omega) with rfl | rfl | rfl | rfl
            · exact .inl (.inl (.inl (.inr g.symm)))
            · exact .inl (.inl (.inr g.symm))
            · exact .inl (.inr g.symm)
            · exact .inr g.symm
          · rintro (((h | h) | h) | h)
            · rcases h with h | h
              · exact h.elim
              · exact ⟨Y - 1, by omega, by omega, by rw [hrow _ (by omega) (by omega)]; simp only [List.mem_cons, List.not_mem_nil, or_false]; exact h.symm⟩
            · exact ⟨Y, by omega, by omega, by rw [hrow _ (by omega) (by omega)]; simp only [List.mem_cons, List.not_mem_nil, or_false]; exact h.symm⟩
            · exact ⟨Y + 1, by omega, by omega, by rw [hrow _ (by omega) (by omega)]; simp only [List.mem_cons, List.not_mem_nil, or_false]; exact h.symm⟩
            · exact ⟨Y + 2, by omega, by omega, by rw [hrow _ (by omega) (by omega)]; simp only [List.mem_cons, List.not_mem_nil, or_false]; exact h.symm⟩
        rw [hP]
        exact i4
      have hcore := whole_core s0 s1 s2 d0 d1 d2 true a0 a1 a2 a3 a4 e0 e1 e2 e3 e4 hr rfl Y p t hY hm0 ht last dst hI
      have hmayt : mayB (dY (t / 86400)) = true := by rw [may_iff]; omega
      rw [show 18 + 4 = 21 + 1 from rfl, longcaselaw09_RuleWhole.l0, w64 (a := Y + 2) ⟨by omega, by omega⟩, if_neg (by omega), at_eq 17 _ _ _ _ _ _ _ _ _ _ _ _ _ _ _ _ _ t ⟨by omega, by omega⟩, hr, if_neg (by decide), if_neg (by decide), if_pos hmayt, hcore]
      simp only [Option.bind_some]
      cases dst <;> simp

theorem RuleWhole_walk (s0 : Int) (s1 : Bool) (s2 : ByteArray) (d0 : Int) (d1 : Bool) (d2 : ByteArray) (bo : Bool) (a0 : Int) (a1 : Int) (a2 : Int) (a3 : Int) (a4 : Int) (e0 : Int) (e1 : Int) (e2 : Int) (e3 : Int) (e4 : Int) (y m : Int) (w : World) (hG : GL w) :
    Calls Tryd.prog 8 #[.agg #[.int .i64 s0, .bool s1, .string s2, .int .i64 d0, .bool d1, .string d2, .bool bo, .int .i64 a0, .int .i64 a1, .int .i64 a2, .int .i64 a3, .int .i64 a4, .int .i64 e0, .int .i64 e1, .int .i64 e2, .int .i64 e3, .int .i64 e4], .int .i64 y, .int .i64 m] w fun e w' => e = .returned (.bool true) ∧ Below w.heap.size w w' :=
  longcaselaw09_RuleWhole.calls 31 s0 s1 s2 d0 d1 d2 bo a0 a1 a2 a3 a4 e0 e1 e2 e3 e4 y m true w hG (RuleWhole_pure s0 s1 s2 d0 d1 d2 bo a0 a1 a2 a3 a4 e0 e1 e2 e3 e4 y m)
end Go.Proofs.YtgbehcahdgamoaaDoor.Fn
