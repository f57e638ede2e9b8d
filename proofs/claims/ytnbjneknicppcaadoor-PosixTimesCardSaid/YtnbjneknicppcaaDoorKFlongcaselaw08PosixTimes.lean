/- A function's contract, walked, and what it computes, as a plain function. -/
import Derived.Test.YtnbjneknicppcaaDoorK2
import Derived.Test.YtnbjneknicppcaaDoorK5
import Derived.Test.YtnbjneknicppcaaDoorK3
namespace Go.Proofs.YtnbjneknicppcaaDoor.Fn
open Go.RowKit Go.Proofs.YtnbjneknicppcaaDoorW.PrintWords Go.Proofs.YtnbjneknicppcaaDoorW.PrintLast Go.Proofs.YtnbjneknicppcaaDoorW.PrintMore
attribute [local go_sem] max2_int min2_int max_two min_two max_three min_three max_four min_four   -- for this text's walks alone
set_option linter.unusedVariables false
set_option linter.unusedSimpArgs false

attribute [local go_sem high] eqA27
/-! ### longcaselaw08_PosixTimes: function 10 -/
mutual
def longcaselaw08_PosixTimes.j0 : Nat → Int → Bool → Bool → Int → Bool → ByteArray → Int → Bool → ByteArray → Bool → Int → Int → Int → Int → Int → Int → Int → Int → Int → Int → Option (Bool)
  | 0, _, _, _, _, _, _, _, _, _, _, _, _, _, _, _, _, _, _, _, _ => none
  | k + 1, x0, x3, x6, x302000, x302001, x302002, x302003, x302004, x302005, x302006, x302007, x302008, x302009, x302010, x302011, x302012, x302013, x302014, x302015, x302016 => if x0 ≥ 0 then (longcaselaw08_PosixTimes.j1 k x3 x6 (decide (x0 ≤ 89999)) x302000 x302001 x302002 x302003 x302004 x302005 x302006 x302007 x302008 x302009 x302010 x302011 x302012 x302013 x302014 x302015 x302016) else (longcaselaw08_PosixTimes.j1 k x3 x6 false x302000 x302001 x302002 x302003 x302004 x302005 x302006 x302007 x302008 x302009 x302010 x302011 x302012 x302013 x302014 x302015 x302016)
def longcaselaw08_PosixTimes.j1 : Nat → Bool → Bool → Bool → Int → Bool → ByteArray → Int → Bool → ByteArray → Bool → Int → Int → Int → Int → Int → Int → Int → Int → Int → Int → Option (Bool)
  | 0, _, _, _, _, _, _, _, _, _, _, _, _, _, _, _, _, _, _, _, _ => none
  | k + 1, x3, x6, x7, x302000, x302001, x302002, x302003, x302004, x302005, x302006, x302007, x302008, x302009, x302010, x302011, x302012, x302013, x302014, x302015, x302016 => (posix_Print.f x302000 x302001 x302002 x302003 x302004 x302005 x302006 x302007 x302008 x302009 x302010 x302011 x302012 x302013 x302014 x302015 x302016 true).bind fun bt302 => ((posix_Parse.f bt302.1 true).bind fun bt304 => ((posix_Parse.f bt302.1 false).bind fun bt323 => ((posix_Right.f k x302000 x302001 x302002 x302003 x302004 x302005 x302006 x302007 x302008 x302009 x302010 x302011 x302012 x302013 x302014 x302015 x302016 true).bind fun t342 => (if (t342 != x6) = true then (longcaselaw08_PosixTimes.j2 k x3 x6 x7 bt302.1 bt304.2.2.2.2.2.2.2.2.2.2.2.2.2.2.2.2.2 bt323.2.2.2.2.2.2.2.2.2.2.2.2.2.2.2.2.2 true x302000 x302001 x302002 x302003 x302004 x302005 x302006 x302007 x302008 x302009 x302010 x302011 x302012 x302013 x302014 x302015 x302016 bt304.1 bt304.2.1 bt304.2.2.1 bt304.2.2.2.1 bt304.2.2.2.2.1 bt304.2.2.2.2.2.1 bt304.2.2.2.2.2.2.1 bt304.2.2.2.2.2.2.2.1 bt304.2.2.2.2.2.2.2.2.1 bt304.2.2.2.2.2.2.2.2.2.1 bt304.2.2.2.2.2.2.2.2.2.2.1 bt304.2.2.2.2.2.2.2.2.2.2.2.1 bt304.2.2.2.2.2.2.2.2.2.2.2.2.1 bt304.2.2.2.2.2.2.2.2.2.2.2.2.2.1 bt304.2.2.2.2.2.2.2.2.2.2.2.2.2.2.1 bt304.2.2.2.2.2.2.2.2.2.2.2.2.2.2.2.1 bt304.2.2.2.2.2.2.2.2.2.2.2.2.2.2.2.2.1) else ((posix_Right.f k x302000 x302001 x302002 x302003 x302004 x302005 x302006 x302007 x302008 x302009 x302010 x302011 x302012 x302013 x302014 x302015 x302016 false).bind fun t343 => (if (t343 != x7) = true then (longcaselaw08_PosixTimes.j2 k x3 x6 x7 bt302.1 bt304.2.2.2.2.2.2.2.2.2.2.2.2.2.2.2.2.2 bt323.2.2.2.2.2.2.2.2.2.2.2.2.2.2.2.2.2 true x302000 x302001 x302002 x302003 x302004 x302005 x302006 x302007 x302008 x302009 x302010 x302011 x302012 x302013 x302014 x302015 x302016 bt304.1 bt304.2.1 bt304.2.2.1 bt304.2.2.2.1 bt304.2.2.2.2.1 bt304.2.2.2.2.2.1 bt304.2.2.2.2.2.2.1 bt304.2.2.2.2.2.2.2.1 bt304.2.2.2.2.2.2.2.2.1 bt304.2.2.2.2.2.2.2.2.2.1 bt304.2.2.2.2.2.2.2.2.2.2.1 bt304.2.2.2.2.2.2.2.2.2.2.2.1 bt304.2.2.2.2.2.2.2.2.2.2.2.2.1 bt304.2.2.2.2.2.2.2.2.2.2.2.2.2.1 bt304.2.2.2.2.2.2.2.2.2.2.2.2.2.2.1 bt304.2.2.2.2.2.2.2.2.2.2.2.2.2.2.2.1 bt304.2.2.2.2.2.2.2.2.2.2.2.2.2.2.2.2.1) else (longcaselaw08_PosixTimes.j2 k x3 x6 x7 bt302.1 bt304.2.2.2.2.2.2.2.2.2.2.2.2.2.2.2.2.2 bt323.2.2.2.2.2.2.2.2.2.2.2.2.2.2.2.2.2 ((bt302.2 == 0) != x6) x302000 x302001 x302002 x302003 x302004 x302005 x302006 x302007 x302008 x302009 x302010 x302011 x302012 x302013 x302014 x302015 x302016 bt304.1 bt304.2.1 bt304.2.2.1 bt304.2.2.2.1 bt304.2.2.2.2.1 bt304.2.2.2.2.2.1 bt304.2.2.2.2.2.2.1 bt304.2.2.2.2.2.2.2.1 bt304.2.2.2.2.2.2.2.2.1 bt304.2.2.2.2.2.2.2.2.2.1 bt304.2.2.2.2.2.2.2.2.2.2.1 bt304.2.2.2.2.2.2.2.2.2.2.2.1 bt304.2.2.2.2.2.2.2.2.2.2.2.2.1 bt304.2.2.2.2.2.2.2.2.2.2.2.2.2.1 bt304.2.2.2.2.2.2.2.2.2.2.2.2.2.2.1 bt304.2.2.2.2.2.2.2.2.2.2.2.2.2.2.2.1 bt304.2.2.2.2.2.2.2.2.2.2.2.2.2.2.2.2.1)))))))
def longcaselaw08_PosixTimes.j2 : Nat → Bool → Bool → Bool → ByteArray → Int → Int → Bool → Int → Bool → ByteArray → Int → Bool → ByteArray → Bool → Int → Int → Int → Int → Int → Int → Int → Int → Int → Int → Int → Bool → ByteArray → Int → Bool → ByteArray → Bool → Int → Int → Int → Int → Int → Int → Int → Int → Int → Int → Option (Bool)
  | 0, _, _, _, _, _, _, _, _, _, _, _, _, _, _, _, _, _, _, _, _, _, _, _, _, _, _, _, _, _, _, _, _, _, _, _, _, _, _, _, _, _ => none
  | k + 1, x3, x6, x7, x8, x11, x13, x64, x302000, x302001, x302002, x302003, x302004, x302005, x302006, x302007, x302008, x302009, x302010, x302011, x302012, x302013, x302014, x302015, x302016, x323000, x323001, x323002, x323003, x323004, x323005, x323006, x323007, x323008, x323009, x323010, x323011, x323012, x323013, x323014, x323015, x323016 => if x64 = true then (some false) else (if x6 = true then (if x3 = true then (if x11 = 0 then (if ((x323000 == x302000 && (x323001 == x302001 && (x323002.toList == x302002.toList))) && ((x323003 == x302003 && (x323004 == x302004 && (x323005.toList == x302005.toList))) && (x323006 == x302006 && ((x323007 == x302007 && (x323008 == x302008 && (x323009 == x302009 && (x323010 == x302010 && (x323011 == x302011))))) && ((x323012 == x302012 && (x323013 == x302013 && (x323014 == x302014 && (x323015 == x302015 && (x323016 == x302016)))))))))) = true then (some ((x13 == 0) == x7)) else (some false)) else (some false)) else (some false)) else (if x3 = true then (some (x8.toList == ([] : List UInt8))) else (some false)))
end
def longcaselaw08_PosixTimes.f (k : Nat) (a0 : Int) : Option (Bool) := (longcaselaw08_shown.f).bind fun t299 => (if a0 ≥ (-604799) then (longcaselaw08_PosixTimes.j0 k a0 t299 (decide (a0 ≤ 604799)) 0 false (⟨#[65, 65, 65]⟩ : ByteArray) 0 true (⟨#[66, 66, 66]⟩ : ByteArray) true 2 5 0 0 a0 2 5 0 0 a0) else (longcaselaw08_PosixTimes.j0 k a0 t299 false 0 false (⟨#[65, 65, 65]⟩ : ByteArray) 0 true (⟨#[66, 66, 66]⟩ : ByteArray) true 2 5 0 0 a0 2 5 0 0 a0))
theorem longcaselaw08_PosixTimes.mono_l : ∀ k, (∀ y0 y1 y2 y3 y4 y5 y6 y7 y8 y9 y10 y11 y12 y13 y14 y15 y16 y17 y18 y19, LeO (longcaselaw08_PosixTimes.j0 k y0 y1 y2 y3 y4 y5 y6 y7 y8 y9 y10 y11 y12 y13 y14 y15 y16 y17 y18 y19) (longcaselaw08_PosixTimes.j0 (k + 1) y0 y1 y2 y3 y4 y5 y6 y7 y8 y9 y10 y11 y12 y13 y14 y15 y16 y17 y18 y19)) ∧ (∀ y0 y1 y2 y3 y4 y5 y6 y7 y8 y9 y10 y11 y12 y13 y14 y15 y16 y17 y18 y19, LeO (longcaselaw08_PosixTimes.j1 k y0 y1 y2 y3 y4 y5 y6 y7 y8 y9 y10 y11 y12 y13 y14 y15 y16 y17 y18 y19) (longcaselaw08_PosixTimes.j1 (k + 1) y0 y1 y2 y3 y4 y5 y6 y7 y8 y9 y10 y11 y12 y13 y14 y15 y16 y17 y18 y19)) ∧ (∀ y0 y1 y2 y3 y4 y5 y6 y7 y8 y9 y10 y11 y12 y13 y14 y15 y16 y17 y18 y19 y20 y21 y22 y23 y24 y25 y26 y27 y28 y29 y30 y31 y32 y33 y34 y35 y36 y37 y38 y39 y40, LeO (longcaselaw08_PosixTimes.j2 k y0 y1 y2 y3 y4 y5 y6 y7 y8 y9 y10 y11 y12 y13 y14 y15 y16 y17 y18 y19 y20 y21 y22 y23 y24 y25 y26 y27 y28 y29 y30 y31 y32 y33 y34 y35 y36 y37 y38 y39 y40) (longcaselaw08_PosixTimes.j2 (k + 1) y0 y1 y2 y3 y4 y5 y6 y7 y8 y9 y10 y11 y12 y13 y14 y15 y16 y17 y18 y19 y20 y21 y22 y23 y24 y25 y26 y27 y28 y29 y30 y31 y32 y33 y34 y35 y36 y37 y38 y39 y40))
  | 0 => ⟨fun _ _ _ _ _ _ _ _ _ _ _ _ _ _ _ _ _ _ _ _ r h => by simp [longcaselaw08_PosixTimes.j0] at h, fun _ _ _ _ _ _ _ _ _ _ _ _ _ _ _ _ _ _ _ _ r h => by simp [longcaselaw08_PosixTimes.j1] at h, fun _ _ _ _ _ _ _ _ _ _ _ _ _ _ _ _ _ _ _ _ _ _ _ _ _ _ _ _ _ _ _ _ _ _ _ _ _ _ _ _ _ r h => by simp [longcaselaw08_PosixTimes.j2] at h⟩
  | k + 1 => by
    obtain ⟨ih0, ih1, ih2⟩ := longcaselaw08_PosixTimes.mono_l k
    refine ⟨?_, ?_, ?_⟩
    · intro y0 y1 y2 y3 y4 y5 y6 y7 y8 y9 y10 y11 y12 y13 y14 y15 y16 y17 y18 y19
      unfold longcaselaw08_PosixTimes.j0
      repeat' first
      | (with_reducible exact ih0 _ _ _ _ _ _ _ _ _ _ _ _ _ _ _ _ _ _ _ _)
      | (with_reducible exact ih1 _ _ _ _ _ _ _ _ _ _ _ _ _ _ _ _ _ _ _ _)
      | (with_reducible exact ih2 _ _ _ _ _ _ _ _ _ _ _ _ _ _ _ _ _ _ _ _ _ _ _ _ _ _ _ _ _ _ _ _ _ _ _ _ _ _ _ _ _)
      | (with_reducible exact posix_Right.mono _ _ _ _ _ _ _ _ _ _ _ _ _ _ _ _ _ _ _)
      | (with_reducible exact LeO.refl _)
      | (with_reducible exact LeO.none _)
      | (with_reducible refine LeO.ite ?_ ?_)
      | (with_reducible refine LeO.bind ?_ (fun _ => ?_))
      | exact ih0 _ _ _ _ _ _ _ _ _ _ _ _ _ _ _ _ _ _ _ _
      | exact ih1 _ _ _ _ _ _ _ _ _ _ _ _ _ _ _ _ _ _ _ _
      | exact ih2 _ _ _ _ _ _ _ _ _ _ _ _ _ _ _ _ _ _ _ _ _ _ _ _ _ _ _ _ _ _ _ _ _ _ _ _ _ _ _ _ _
      | exact posix_Right.mono _ _ _ _ _ _ _ _ _ _ _ _ _ _ _ _ _ _ _
      | exact LeO.none _
      | refine LeO.ite ?_ ?_
      | refine LeO.bind ?_ (fun _ => ?_)
    · intro y0 y1 y2 y3 y4 y5 y6 y7 y8 y9 y10 y11 y12 y13 y14 y15 y16 y17 y18 y19
      unfold longcaselaw08_PosixTimes.j1
      repeat' first
      | (with_reducible exact ih0 _ _ _ _ _ _ _ _ _ _ _ _ _ _ _ _ _ _ _ _)
      | (with_reducible exact ih1 _ _ _ _ _ _ _ _ _ _ _ _ _ _ _ _ _ _ _ _)
      | (with_reducible exact ih2 _ _ _ _ _ _ _ _ _ _ _ _ _ _ _ _ _ _ _ _ _ _ _ _ _ _ _ _ _ _ _ _ _ _ _ _ _ _ _ _ _)
      | (with_reducible exact posix_Right.mono _ _ _ _ _ _ _ _ _ _ _ _ _ _ _ _ _ _ _)
      | (with_reducible exact LeO.refl _)
      | (with_reducible exact LeO.none _)
      | (with_reducible refine LeO.ite ?_ ?_)
      | (with_reducible refine LeO.bind ?_ (fun _ => ?_))
      | exact ih0 _ _ _ _ _ _ _ _ _ _ _ _ _ _ _ _ _ _ _ _
      | exact ih1 _ _ _ _ _ _ _ _ _ _ _ _ _ _ _ _ _ _ _ _
      | exact ih2 _ _ _ _ _ _ _ _ _ _ _ _ _ _ _ _ _ _ _ _ _ _ _ _ _ _ _ _ _ _ _ _ _ _ _ _ _ _ _ _ _
      | exact posix_Right.mono _ _ _ _ _ _ _ _ _ _ _ _ _ _ _ _ _ _ _
      | exact LeO.none _
      | refine LeO.ite ?_ ?_
      | refine LeO.bind ?_ (fun _ => ?_)
    · intro y0 y1 y2 y3 y4 y5 y6 y7 y8 y9 y10 y11 y12 y13 y14 y15 y16 y17 y18 y19 y20 y21 y22 y23 y24 y25 y26 y27 y28 y29 y30 y31 y32 y33 y34 y35 y36 y37 y38 y39 y40
      unfold longcaselaw08_PosixTimes.j2
      repeat' first
      | (with_reducible exact ih0 _ _ _ _ _ _ _ _ _ _ _ _ _ _ _ _ _ _ _ _)
      | (with_reducible exact ih1 _ _ _ _ _ _ _ _ _ _ _ _ _ _ _ _ _ _ _ _)
      | (with_reducible exact ih2 _ _ _ _ _ _ _ _ _ _ _ _ _ _ _ _ _ _ _ _ _ _ _ _ _ _ _ _ _ _ _ _ _ _ _ _ _ _ _ _ _)
      | (with_reducible exact posix_Right.mono _ _ _ _ _ _ _ _ _ _ _ _ _ _ _ _ _ _ _)
      | (with_reducible exact LeO.refl _)
      | (with_reducible exact LeO.none _)
      | (with_reducible refine LeO.ite ?_ ?_)
      | (with_reducible refine LeO.bind ?_ (fun _ => ?_))
      | exact ih0 _ _ _ _ _ _ _ _ _ _ _ _ _ _ _ _ _ _ _ _
      | exact ih1 _ _ _ _ _ _ _ _ _ _ _ _ _ _ _ _ _ _ _ _
      | exact ih2 _ _ _ _ _ _ _ _ _ _ _ _ _ _ _ _ _ _ _ _ _ _ _ _ _ _ _ _ _ _ _ _ _ _ _ _ _ _ _ _ _
      | exact posix_Right.mono _ _ _ _ _ _ _ _ _ _ _ _ _ _ _ _ _ _ _
      | exact LeO.none _
      | refine LeO.ite ?_ ?_
      | refine LeO.bind ?_ (fun _ => ?_)
theorem longcaselaw08_PosixTimes.mono : ∀ a0 k, LeO (longcaselaw08_PosixTimes.f k a0) (longcaselaw08_PosixTimes.f (k + 1) a0) := by
  intro a0 k
  obtain ⟨ih0, ih1, ih2⟩ := longcaselaw08_PosixTimes.mono_l k
  unfold longcaselaw08_PosixTimes.f
  repeat' first
      | (with_reducible exact ih0 _ _ _ _ _ _ _ _ _ _ _ _ _ _ _ _ _ _ _ _)
      | (with_reducible exact ih1 _ _ _ _ _ _ _ _ _ _ _ _ _ _ _ _ _ _ _ _)
      | (with_reducible exact ih2 _ _ _ _ _ _ _ _ _ _ _ _ _ _ _ _ _ _ _ _ _ _ _ _ _ _ _ _ _ _ _ _ _ _ _ _ _ _ _ _ _)
      | (with_reducible exact posix_Right.mono _ _ _ _ _ _ _ _ _ _ _ _ _ _ _ _ _ _ _)
      | (with_reducible exact LeO.refl _)
      | (with_reducible exact LeO.none _)
      | (with_reducible refine LeO.ite ?_ ?_)
      | (with_reducible refine LeO.bind ?_ (fun _ => ?_))
      | exact ih0 _ _ _ _ _ _ _ _ _ _ _ _ _ _ _ _ _ _ _ _
      | exact ih1 _ _ _ _ _ _ _ _ _ _ _ _ _ _ _ _ _ _ _ _
      | exact ih2 _ _ _ _ _ _ _ _ _ _ _ _ _ _ _ _ _ _ _ _ _ _ _ _ _ _ _ _ _ _ _ _ _ _ _ _ _ _ _ _ _
      | exact posix_Right.mono _ _ _ _ _ _ _ _ _ _ _ _ _ _ _ _ _ _ _
      | exact LeO.none _
      | refine LeO.ite ?_ ?_
      | refine LeO.bind ?_ (fun _ => ?_)
set_option maxHeartbeats 8000000 in
set_option maxRecDepth 100000 in
theorem longcaselaw08_PosixTimes.calls (k : Nat) (a0 : Int) (r : Bool) (w : World) (hG : GL w) (h : longcaselaw08_PosixTimes.f k a0 = some r) :
    Calls Tryd.prog 10 #[.int .i64 a0] w fun e w' => e = .returned (.bool r) ∧ Below w.heap.size w w' := by
  have hu25 := Tryd.underlying25
  have hu23 := Tryd.underlying23
  have hu27 := Tryd.underlying27
  have HG := Aside0.mk hG
  clear hG
  have HB := Aside0.mk (Below.refl w.heap.size w)
  have H : ((longcaselaw08_shown.f).bind fun t299 => (if a0 ≥ (-604799) then (longcaselaw08_PosixTimes.j0 k a0 t299 (decide (a0 ≤ 604799)) 0 false (⟨#[65, 65, 65]⟩ : ByteArray) 0 true (⟨#[66, 66, 66]⟩ : ByteArray) true 2 5 0 0 a0 2 5 0 0 a0) else (longcaselaw08_PosixTimes.j0 k a0 t299 false 0 false (⟨#[65, 65, 65]⟩ : ByteArray) 0 true (⟨#[66, 66, 66]⟩ : ByteArray) true 2 5 0 0 a0 2 5 0 0 a0))) = some r := h
  clear h
  replace H := Option.bind_eq_some_iff.mp H
  obtain ⟨t299, A20, H⟩ := H
  replace H : (if a0 ≥ (-604799) then (longcaselaw08_PosixTimes.j0 k a0 t299 (decide (a0 ≤ 604799)) 0 false (⟨#[65, 65, 65]⟩ : ByteArray) 0 true (⟨#[66, 66, 66]⟩ : ByteArray) true 2 5 0 0 a0 2 5 0 0 a0) else (longcaselaw08_PosixTimes.j0 k a0 t299 false 0 false (⟨#[65, 65, 65]⟩ : ByteArray) 0 true (⟨#[66, 66, 66]⟩ : ByteArray) true 2 5 0 0 a0 2 5 0 0 a0)) = some r := H
  have A2 := Aside0.mk A20
  clear A20
  have HC3 := Aside0.mk H
  clear H
  go_enter Tryd.func10, Tryd.ntmps10
  go_upto_region 4 with (first | ((with_reducible refine gate_callee (f := 13) rfl ?_); refine goesL_ (some 14) rfl rfl Tryd.func13 (by kernel_rfl) rfl #[] rfl (by (try simp only [List.map_toArray, List.map_cons, List.map_nil]); first | done | rfl | (simp only [List.length_drop, List.length_take]; rfl)) ?_; (with_reducible refine (longcaselaw08_shown.calls  t299 _ ?side1 A2.out).mono ?_); (case side1 => exact GL.below HG.out (by repeat (first | (with_reducible first | exact HB.out | apply below_alloc | apply pw_below_drewN | apply below_drew1) | exact HB.out))); rintro e w4 ⟨rfl, hb⟩; refine ⟨_, rfl, ?_⟩; have n0_ := Aside0.mk (below_step (by repeat (first | (with_reducible first | exact HB.out | apply below_alloc | apply pw_below_drewN | apply below_drew1) | exact HB.out)) hb); clear HB; have HB := n0_; clear n0_; (try clear hb); (try clear hb2); (try clear hk); (try clear hi)) | ((with_reducible refine gate_dst (N := 4) rfl ?_); refine box_event ?hg (N := 4) ?hd (cs := #[.int .i64 0, .int .i64 0, .int .i64 0, .int .i64 0, .int .i64 0]) (t := 25) ?hr ?_; (case hd => rfl); (case hg => rfl); (case hr => first | (go_simp; done) | (go_simp; rfl)); intro gb300 hg w5 hbox hb; have n0_ := Aside0.mk (below_step (by repeat (first | (with_reducible first | exact HB.out | apply below_alloc | apply pw_below_drewN | apply below_drew1) | exact HB.out)) hb); have n1_ := Aside0.mk (hbox); have n2_ := Aside0.mk ((by rw [hg]; exact (below_size (by repeat (first | (with_reducible first | exact HB.out | apply below_alloc | apply pw_below_drewN | apply below_drew1) | exact HB.out))) : w.heap.size ≤ gb300)); have n3_ := Aside0.mk ((by rw [hg]; exact (below_size (by repeat (first | (with_reducible first | exact HB.out | apply below_alloc | apply pw_below_drewN | apply below_drew1) | exact HB.out))) : w.heap.size ≤ gb300)); clear HB; have HB := n0_; have BK300 := n1_; have GW300 := n2_; have GE300 := n3_; clear n0_ n1_ n2_ n3_; clear hb hbox hg; have hcz6_0 : w5.cell? ⟨gb300, 0, none⟩ = some (.int .i64 0) := (blk_cell BK300.out 0).trans rfl; have hcz6_1 : w5.cell? ⟨gb300, 1, none⟩ = some (.int .i64 0) := (blk_cell BK300.out 1).trans rfl; have hcz6_2 : w5.cell? ⟨gb300, 2, none⟩ = some (.int .i64 0) := (blk_cell BK300.out 2).trans rfl; have hcz6_3 : w5.cell? ⟨gb300, 3, none⟩ = some (.int .i64 0) := (blk_cell BK300.out 3).trans rfl; have hcz6_4 : w5.cell? ⟨gb300, 4, none⟩ = some (.int .i64 0) := (blk_cell BK300.out 4).trans rfl; have hfz6_0 := blk_frozen BK300.out 0; have hfz6_1 := blk_frozen BK300.out 1; have hfz6_2 := blk_frozen BK300.out 2; have hfz6_3 := blk_frozen BK300.out 3; have hfz6_4 := blk_frozen BK300.out 4) | ((with_reducible refine gate_store (t := 25) (p := 4) rfl ?_); refine wpList_store_row rfl 25 _ _ rfl (gb300) #[.int .i64 2, .int .i64 5, .int .i64 0, .int .i64 0, .int .i64 a0] rfl rfl 25 #[.int .i64 0, .int .i64 0, .int .i64 0, .int .i64 0, .int .i64 0] (by (with_reducible repeat (first | refine blk_drewN ?_ _ | refine blk_drew ?_ | refine blk_alloc ?_ _)); exact BK300.out) (by kernel_rfl) rfl (by simp [Value.oneCell']) ?_; obtain ⟨w7, hw⟩ : ∃ w_, w_ = World.setRow w5 gb300 #[.int .i64 2, .int .i64 5, .int .i64 0, .int .i64 0, .int .i64 a0] := ⟨_, rfl⟩; rw [← hw]; have n0_ : Aside0 (w7.heap[gb300]? = some (.cells #[.int .i64 2, .int .i64 5, .int .i64 0, .int .i64 0, .int .i64 a0] 25 (0, 0))) := ⟨(by rw [hw]; exact (setRow_heap w5 gb300 #[.int .i64 0, .int .i64 0, .int .i64 0, .int .i64 0, .int .i64 0] _ 25 (0, 0) (by (with_reducible repeat (first | refine blk_drewN ?_ _ | refine blk_drew ?_ | refine blk_alloc ?_ _)); exact BK300.out)))⟩; have n1_ : Aside0 (Below w.heap.size w w7) := ⟨(by rw [hw]; exact (Below.trans (show Below w.heap.size w w5 from by repeat (first | (with_reducible first | exact HB.out | apply below_alloc | apply pw_below_drewN | apply below_drew1 | refine below_set ?_ GE300.out) | exact HB.out)) ⟨rfl, rfl, rfl, (by rw [size_setRow]; exact Nat.le_refl _), fun k_ hk_ => setRow_other _ _ _ _ (Nat.ne_of_lt (Nat.lt_of_lt_of_le hk_ GE300.out))⟩))⟩; clear hw; clear BK300; clear HB; have BK300 := n0_; have HB := n1_; clear n0_ n1_) | ((with_reducible refine gate_dst (N := 19) rfl ?_); refine wpList_load_row rfl 25 _ rfl (gb300) rfl 25 #[.int .i64 2, .int .i64 5, .int .i64 0, .int .i64 0, .int .i64 a0] (0, 0) _ (by (with_reducible repeat (first | refine blk_drewN ?_ _ | refine blk_drew ?_ | refine blk_alloc ?_ _)); exact BK300.out) Tryd.underlying25 rfl (by kernel_rfl) ?_) | ((with_reducible refine gate_dst (N := 20) rfl ?_); refine wpList_load_row rfl 25 _ rfl (gb300) rfl 25 #[.int .i64 2, .int .i64 5, .int .i64 0, .int .i64 0, .int .i64 a0] (0, 0) _ (by (with_reducible repeat (first | refine blk_drewN ?_ _ | refine blk_drew ?_ | refine blk_alloc ?_ _)); exact BK300.out) Tryd.underlying25 rfl (by kernel_rfl) ?_) | ((with_reducible refine gate_dst (N := 5) rfl ?_); refine box_event ?hg (N := 5) ?hd (cs := #[.int .i64 0, .bool false, .string (⟨#[]⟩ : ByteArray), .int .i64 0, .bool false, .string (⟨#[]⟩ : ByteArray), .bool false, .int .i64 0, .int .i64 0, .int .i64 0, .int .i64 0, .int .i64 0, .int .i64 0, .int .i64 0, .int .i64 0, .int .i64 0, .int .i64 0]) (t := 27) ?hr ?_; (case hd => rfl); (case hg => rfl); (case hr => first | (go_simp; done) | (go_simp; rfl)); intro gb301 hg w8 hbox hb; have n0_ := Aside0.mk (blk_below (g := gb300) (o := .cells #[.int .i64 2, .int .i64 5, .int .i64 0, .int .i64 0, .int .i64 a0] 25 (0, 0)) (by (with_reducible repeat (first | refine blk_drewN ?_ _ | refine blk_drew ?_ | refine blk_alloc ?_ _)); exact BK300.out) hb); have n1_ := Aside0.mk (below_step (by repeat (first | (with_reducible first | exact HB.out | apply below_alloc | apply pw_below_drewN | apply below_drew1 | refine below_set ?_ GE300.out) | exact HB.out)) hb); have n2_ := Aside0.mk (hbox); have n3_ := Aside0.mk ((by rw [hg]; exact (below_size (by repeat (first | (with_reducible first | exact HB.out | apply below_alloc | apply pw_below_drewN | apply below_drew1 | refine below_set ?_ GE300.out) | exact HB.out))) : w.heap.size ≤ gb301)); have n4_ := Aside0.mk ((by rw [hg]; exact (below_size (by repeat (first | (with_reducible first | exact HB.out | apply below_alloc | apply pw_below_drewN | apply below_drew1 | refine below_set ?_ GE300.out) | exact HB.out))) : w.heap.size ≤ gb301)); have n5_ := Aside0.mk ((by rw [hg]; exact Nat.ne_of_lt (blk_lt (g := gb300) (o := .cells #[.int .i64 2, .int .i64 5, .int .i64 0, .int .i64 0, .int .i64 a0] 25 (0, 0)) (by (with_reducible repeat (first | refine blk_drewN ?_ _ | refine blk_drew ?_ | refine blk_alloc ?_ _)); exact BK300.out)) : gb300 ≠ gb301)); have n6_ := Aside0.mk ((by rw [hg]; exact Nat.ne_of_gt (blk_lt (g := gb300) (o := .cells #[.int .i64 2, .int .i64 5, .int .i64 0, .int .i64 0, .int .i64 a0] 25 (0, 0)) (by (with_reducible repeat (first | refine blk_drewN ?_ _ | refine blk_drew ?_ | refine blk_alloc ?_ _)); exact BK300.out)) : gb301 ≠ gb300)); clear BK300; clear HB; have BK300 := n0_; have HB := n1_; have BK301 := n2_; have GW301 := n3_; have GE301 := n4_; have NB300_301 := n5_; have NB301_300 := n6_; clear n0_ n1_ n2_ n3_ n4_ n5_ n6_; clear hb hbox hg; have hnb9 := NB301_300.out; have hnc9 := NB300_301.out; have hcz10_0 : w8.cell? ⟨gb301, 0, none⟩ = some (.int .i64 0) := (blk_cell BK301.out 0).trans rfl; have hcz10_1 : w8.cell? ⟨gb301, 1, none⟩ = some (.bool false) := (blk_cell BK301.out 1).trans rfl; have hcz10_2 : w8.cell? ⟨gb301, 2, none⟩ = some (.string (⟨#[]⟩ : ByteArray)) := (blk_cell BK301.out 2).trans rfl; have hcz10_3 : w8.cell? ⟨gb301, 3, none⟩ = some (.int .i64 0) := (blk_cell BK301.out 3).trans rfl; have hcz10_4 : w8.cell? ⟨gb301, 4, none⟩ = some (.bool false) := (blk_cell BK301.out 4).trans rfl; have hcz10_5 : w8.cell? ⟨gb301, 5, none⟩ = some (.string (⟨#[]⟩ : ByteArray)) := (blk_cell BK301.out 5).trans rfl; have hcz10_6 : w8.cell? ⟨gb301, 6, none⟩ = some (.bool false) := (blk_cell BK301.out 6).trans rfl; have hcz10_7 : w8.cell? ⟨gb301, 7, none⟩ = some (.int .i64 0) := (blk_cell BK301.out 7).trans rfl; have hcz10_8 : w8.cell? ⟨gb301, 8, none⟩ = some (.int .i64 0) := (blk_cell BK301.out 8).trans rfl; have hcz10_9 : w8.cell? ⟨gb301, 9, none⟩ = some (.int .i64 0) := (blk_cell BK301.out 9).trans rfl; have hcz10_10 : w8.cell? ⟨gb301, 10, none⟩ = some (.int .i64 0) := (blk_cell BK301.out 10).trans rfl; have hcz10_11 : w8.cell? ⟨gb301, 11, none⟩ = some (.int .i64 0) := (blk_cell BK301.out 11).trans rfl; have hcz10_12 : w8.cell? ⟨gb301, 12, none⟩ = some (.int .i64 0) := (blk_cell BK301.out 12).trans rfl; have hcz10_13 : w8.cell? ⟨gb301, 13, none⟩ = some (.int .i64 0) := (blk_cell BK301.out 13).trans rfl; have hcz10_14 : w8.cell? ⟨gb301, 14, none⟩ = some (.int .i64 0) := (blk_cell BK301.out 14).trans rfl; have hcz10_15 : w8.cell? ⟨gb301, 15, none⟩ = some (.int .i64 0) := (blk_cell BK301.out 15).trans rfl; have hcz10_16 : w8.cell? ⟨gb301, 16, none⟩ = some (.int .i64 0) := (blk_cell BK301.out 16).trans rfl; have hfz10_0 := blk_frozen BK301.out 0; have hfz10_1 := blk_frozen BK301.out 1; have hfz10_2 := blk_frozen BK301.out 2; have hfz10_3 := blk_frozen BK301.out 3; have hfz10_4 := blk_frozen BK301.out 4; have hfz10_5 := blk_frozen BK301.out 5; have hfz10_6 := blk_frozen BK301.out 6; have hfz10_7 := blk_frozen BK301.out 7; have hfz10_8 := blk_frozen BK301.out 8; have hfz10_9 := blk_frozen BK301.out 9; have hfz10_10 := blk_frozen BK301.out 10; have hfz10_11 := blk_frozen BK301.out 11; have hfz10_12 := blk_frozen BK301.out 12; have hfz10_13 := blk_frozen BK301.out 13; have hfz10_14 := blk_frozen BK301.out 14; have hfz10_15 := blk_frozen BK301.out 15; have hfz10_16 := blk_frozen BK301.out 16) | ((with_reducible refine gate_store (t := 27) (p := 5) rfl ?_); refine wpList_store_row rfl 27 _ _ rfl (gb301) #[.int .i64 0, .bool false, .string (⟨#[65, 65, 65]⟩ : ByteArray), .int .i64 0, .bool true, .string (⟨#[66, 66, 66]⟩ : ByteArray), .bool true, .int .i64 2, .int .i64 5, .int .i64 0, .int .i64 0, .int .i64 a0, .int .i64 2, .int .i64 5, .int .i64 0, .int .i64 0, .int .i64 a0] rfl rfl 27 #[.int .i64 0, .bool false, .string (⟨#[]⟩ : ByteArray), .int .i64 0, .bool false, .string (⟨#[]⟩ : ByteArray), .bool false, .int .i64 0, .int .i64 0, .int .i64 0, .int .i64 0, .int .i64 0, .int .i64 0, .int .i64 0, .int .i64 0, .int .i64 0, .int .i64 0] (by (with_reducible repeat (first | refine blk_drewN ?_ _ | refine blk_drew ?_ | refine blk_alloc ?_ _)); exact BK301.out) (by kernel_rfl) rfl (by simp [Value.oneCell']) ?_; obtain ⟨w11, hw⟩ : ∃ w_, w_ = World.setRow w8 gb301 #[.int .i64 0, .bool false, .string (⟨#[65, 65, 65]⟩ : ByteArray), .int .i64 0, .bool true, .string (⟨#[66, 66, 66]⟩ : ByteArray), .bool true, .int .i64 2, .int .i64 5, .int .i64 0, .int .i64 0, .int .i64 a0, .int .i64 2, .int .i64 5, .int .i64 0, .int .i64 0, .int .i64 a0] := ⟨_, rfl⟩; rw [← hw]; have n0_ : Aside0 (w11.heap[gb300]? = some (.cells #[.int .i64 2, .int .i64 5, .int .i64 0, .int .i64 0, .int .i64 a0] 25 (0, 0))) := ⟨(by rw [hw]; exact ((setRow_other w8 _ _ _ NB300_301.out).trans (show w8.heap[gb300]? = some (.cells #[.int .i64 2, .int .i64 5, .int .i64 0, .int .i64 0, .int .i64 a0] 25 (0, 0)) from by (with_reducible repeat (first | refine blk_drewN ?_ _ | refine blk_drew ?_ | refine blk_alloc ?_ _)); exact BK300.out)))⟩; have n1_ : Aside0 (w11.heap[gb301]? = some (.cells #[.int .i64 0, .bool false, .string (⟨#[65, 65, 65]⟩ : ByteArray), .int .i64 0, .bool true, .string (⟨#[66, 66, 66]⟩ : ByteArray), .bool true, .int .i64 2, .int .i64 5, .int .i64 0, .int .i64 0, .int .i64 a0, .int .i64 2, .int .i64 5, .int .i64 0, .int .i64 0, .int .i64 a0] 27 (0, 0))) := ⟨(by rw [hw]; exact (setRow_heap w8 gb301 #[.int .i64 0, .bool false, .string (⟨#[]⟩ : ByteArray), .int .i64 0, .bool false, .string (⟨#[]⟩ : ByteArray), .bool false, .int .i64 0, .int .i64 0, .int .i64 0, .int .i64 0, .int .i64 0, .int .i64 0, .int .i64 0, .int .i64 0, .int .i64 0, .int .i64 0] _ 27 (0, 0) (by (with_reducible repeat (first | refine blk_drewN ?_ _ | refine blk_drew ?_ | refine blk_alloc ?_ _)); exact BK301.out)))⟩; have n2_ : Aside0 (Below w.heap.size w w11) := ⟨(by rw [hw]; exact (Below.trans (show Below w.heap.size w w8 from by repeat (first | (with_reducible first | exact HB.out | apply below_alloc | apply pw_below_drewN | apply below_drew1 | refine below_set ?_ GE300.out | refine below_set ?_ GE301.out) | exact HB.out)) ⟨rfl, rfl, rfl, (by rw [size_setRow]; exact Nat.le_refl _), fun k_ hk_ => setRow_other _ _ _ _ (Nat.ne_of_lt (Nat.lt_of_lt_of_le hk_ GE301.out))⟩))⟩; clear hw; clear BK300; clear BK301; clear HB; have BK300 := n0_; have BK301 := n1_; have HB := n2_; clear n0_ n1_ n2_))
  (try simp only [Act.put, List.setIfInBounds_toArray, List.set_cons_zero, List.set_cons_succ])
  go_cut [6] (fun v6 wc => ∃ (kq : Nat) (x6_2 : Bool), v6 = .bool x6_2 ∧ Aside0 (longcaselaw08_PosixTimes.j0 kq a0 t299 x6_2 0 false (⟨#[65, 65, 65]⟩ : ByteArray) 0 true (⟨#[66, 66, 66]⟩ : ByteArray) true 2 5 0 0 a0 2 5 0 0 a0 = some r) ∧ Aside0 (kq ≤ k) ∧ Aside0 (wc.heap[gb300]? = some (.cells #[.int .i64 2, .int .i64 5, .int .i64 0, .int .i64 0, .int .i64 a0] 25 (0, 0))) ∧ Aside0 (wc.heap[gb301]? = some (.cells #[.int .i64 0, .bool false, .string (⟨#[65, 65, 65]⟩ : ByteArray), .int .i64 0, .bool true, .string (⟨#[66, 66, 66]⟩ : ByteArray), .bool true, .int .i64 2, .int .i64 5, .int .i64 0, .int .i64 0, .int .i64 a0, .int .i64 2, .int .i64 5, .int .i64 0, .int .i64 0, .int .i64 a0] 27 (0, 0))) ∧ Aside0 (Below w.heap.size w wc))
  case first =>
    have H := HC3.out
    clear HC3
    by_cases c12 : a0 ≥ (-604799)
    · rw [if_pos c12] at H
      have c12b0 : decide ((-604799) ≤ a0) = true := decide_eq_true c12
      clear c12
      (first | rw [c12b0] | (simp only [i64_w, i32_w]; rw [c12b0]) | skip)
      have H' := Aside0.mk H
      clear H
      go_wp2
      go_meet
      case rel => exact ⟨_, (decide (a0 ≤ 604799)), (by first | rfl | (simp; done) | (simp [*]; done)), H', ⟨by first | omega | exact Nat.le_refl _⟩, ⟨by (with_reducible repeat (first | refine blk_drewN ?_ _ | refine blk_drew ?_ | refine blk_alloc ?_ _)); exact BK300.out⟩, ⟨by (with_reducible repeat (first | refine blk_drewN ?_ _ | refine blk_drew ?_ | refine blk_alloc ?_ _)); exact BK301.out⟩, ⟨by repeat (first | (with_reducible first | exact HB.out | apply below_alloc | apply pw_below_drewN | apply below_drew1 | refine below_set ?_ GE300.out | refine below_set ?_ GE301.out) | exact HB.out)⟩⟩
    · rw [if_neg c12] at H
      have c12b0 : decide ((-604799) ≤ a0) = false := decide_eq_false c12
      clear c12
      (first | rw [c12b0] | (simp only [i64_w, i32_w]; rw [c12b0]) | skip)
      have H' := Aside0.mk H
      clear H
      go_wp2
      go_meet
      case rel => exact ⟨_, (false), (by first | rfl | (simp; done) | (simp [*]; done)), H', ⟨by first | omega | exact Nat.le_refl _⟩, ⟨by (with_reducible repeat (first | refine blk_drewN ?_ _ | refine blk_drew ?_ | refine blk_alloc ?_ _)); exact BK300.out⟩, ⟨by (with_reducible repeat (first | refine blk_drewN ?_ _ | refine blk_drew ?_ | refine blk_alloc ?_ _)); exact BK301.out⟩, ⟨by repeat (first | (with_reducible first | exact HB.out | apply below_alloc | apply pw_below_drewN | apply below_drew1 | refine below_set ?_ GE300.out | refine below_set ?_ GE301.out) | exact HB.out)⟩⟩
  case rest =>
    clear HC3
    try clear c1
    try clear p2
    try clear c9
    try clear c10
    try clear c12
    try clear c12b0
    try clear hcz10_0
    try clear hcz10_1
    try clear hcz10_10
    try clear hcz10_11
    try clear hcz10_12
    try clear hcz10_13
    try clear hcz10_14
    try clear hcz10_15
    try clear hcz10_16
    try clear hcz10_2
    try clear hcz10_3
    try clear hcz10_4
    try clear hcz10_5
    try clear hcz10_6
    try clear hcz10_7
    try clear hcz10_8
    try clear hcz10_9
    try clear hcz6_0
    try clear hcz6_1
    try clear hcz6_2
    try clear hcz6_3
    try clear hcz6_4
    try clear hfz10_0
    try clear hfz10_1
    try clear hfz10_10
    try clear hfz10_11
    try clear hfz10_12
    try clear hfz10_13
    try clear hfz10_14
    try clear hfz10_15
    try clear hfz10_16
    try clear hfz10_2
    try clear hfz10_3
    try clear hfz10_4
    try clear hfz10_5
    try clear hfz10_6
    try clear hfz10_7
    try clear hfz10_8
    try clear hfz10_9
    try clear hfz6_0
    try clear hfz6_1
    try clear hfz6_2
    try clear hfz6_3
    try clear hfz6_4
    obtain ⟨kq, x6_2, rfl, HA, HJ2, BK300, BK301, HB⟩ := hcut
    cases kq with
    | zero => exact absurd HA.out (by simp [longcaselaw08_PosixTimes.j0])
    | succ kj2 =>
      have H := HA.out
      clear HA
      simp only [longcaselaw08_PosixTimes.j0] at H
      have HC13 := Aside0.mk H
      clear H
      go_upto_region 5 with (fail)
      go_cut [7] (fun v7 wc => ∃ (kq : Nat) (x7_12 : Bool), v7 = .bool x7_12 ∧ Aside0 (longcaselaw08_PosixTimes.j1 kq t299 x6_2 x7_12 0 false (⟨#[65, 65, 65]⟩ : ByteArray) 0 true (⟨#[66, 66, 66]⟩ : ByteArray) true 2 5 0 0 a0 2 5 0 0 a0 = some r) ∧ Aside0 (kq ≤ kj2) ∧ Aside0 (wc.heap[gb300]? = some (.cells #[.int .i64 2, .int .i64 5, .int .i64 0, .int .i64 0, .int .i64 a0] 25 (0, 0))) ∧ Aside0 (wc.heap[gb301]? = some (.cells #[.int .i64 0, .bool false, .string (⟨#[65, 65, 65]⟩ : ByteArray), .int .i64 0, .bool true, .string (⟨#[66, 66, 66]⟩ : ByteArray), .bool true, .int .i64 2, .int .i64 5, .int .i64 0, .int .i64 0, .int .i64 a0, .int .i64 2, .int .i64 5, .int .i64 0, .int .i64 0, .int .i64 a0] 27 (0, 0))) ∧ Aside0 (Below w.heap.size w wc))
      case first =>
        have H := HC13.out
        clear HC13
        by_cases c14 : a0 ≥ 0
        · rw [if_pos c14] at H
          have c14b0 : decide (0 ≤ a0) = true := decide_eq_true c14
          clear c14
          (first | rw [c14b0] | (simp only [i64_w, i32_w]; rw [c14b0]) | skip)
          have H' := Aside0.mk H
          clear H
          go_wp2
          go_meet
          case rel => exact ⟨_, (decide (a0 ≤ 89999)), (by first | rfl | (simp; done) | (simp [*]; done)), H', ⟨by have := HJ2.out; first | omega | exact Nat.le_refl _⟩, ⟨by (with_reducible repeat (first | refine blk_drewN ?_ _ | refine blk_drew ?_ | refine blk_alloc ?_ _)); exact BK300.out⟩, ⟨by (with_reducible repeat (first | refine blk_drewN ?_ _ | refine blk_drew ?_ | refine blk_alloc ?_ _)); exact BK301.out⟩, ⟨by repeat (first | (with_reducible first | exact HB.out | apply below_alloc | apply pw_below_drewN | apply below_drew1 | refine below_set ?_ GE300.out | refine below_set ?_ GE301.out) | exact HB.out)⟩⟩
        · rw [if_neg c14] at H
          have c14b0 : decide (0 ≤ a0) = false := decide_eq_false c14
          clear c14
          (first | rw [c14b0] | (simp only [i64_w, i32_w]; rw [c14b0]) | skip)
          have H' := Aside0.mk H
          clear H
          go_wp2
          go_meet
          case rel => exact ⟨_, (false), (by first | rfl | (simp; done) | (simp [*]; done)), H', ⟨by have := HJ2.out; first | omega | exact Nat.le_refl _⟩, ⟨by (with_reducible repeat (first | refine blk_drewN ?_ _ | refine blk_drew ?_ | refine blk_alloc ?_ _)); exact BK300.out⟩, ⟨by (with_reducible repeat (first | refine blk_drewN ?_ _ | refine blk_drew ?_ | refine blk_alloc ?_ _)); exact BK301.out⟩, ⟨by repeat (first | (with_reducible first | exact HB.out | apply below_alloc | apply pw_below_drewN | apply below_drew1 | refine below_set ?_ GE300.out | refine below_set ?_ GE301.out) | exact HB.out)⟩⟩
      case rest =>
        clear HC13
        try clear c1
        try clear p2
        try clear c9
        try clear c10
        try clear c12
        try clear c12b0
        try clear c13
        try clear c14
        try clear c14b0
        try clear hcz10_0
        try clear hcz10_1
        try clear hcz10_10
        try clear hcz10_11
        try clear hcz10_12
        try clear hcz10_13
        try clear hcz10_14
        try clear hcz10_15
        try clear hcz10_16
        try clear hcz10_2
        try clear hcz10_3
        try clear hcz10_4
        try clear hcz10_5
        try clear hcz10_6
        try clear hcz10_7
        try clear hcz10_8
        try clear hcz10_9
        try clear hcz6_0
        try clear hcz6_1
        try clear hcz6_2
        try clear hcz6_3
        try clear hcz6_4
        try clear hfz10_0
        try clear hfz10_1
        try clear hfz10_10
        try clear hfz10_11
        try clear hfz10_12
        try clear hfz10_13
        try clear hfz10_14
        try clear hfz10_15
        try clear hfz10_16
        try clear hfz10_2
        try clear hfz10_3
        try clear hfz10_4
        try clear hfz10_5
        try clear hfz10_6
        try clear hfz10_7
        try clear hfz10_8
        try clear hfz10_9
        try clear hfz6_0
        try clear hfz6_1
        try clear hfz6_2
        try clear hfz6_3
        try clear hfz6_4
        try clear p2
        obtain ⟨kq, x7_12, rfl, HA, HJ12, BK300, BK301, HB⟩ := hcut
        cases kq with
        | zero => exact absurd HA.out (by simp [longcaselaw08_PosixTimes.j1])
        | succ kj12 =>
          have H := HA.out
          clear HA
          simp only [longcaselaw08_PosixTimes.j1] at H
          replace H := Option.bind_eq_some_iff.mp H
          obtain ⟨⟨t302, t303⟩, A150, H⟩ := H
          replace H : ((posix_Parse.f t302 true).bind fun bt304 => ((posix_Parse.f t302 false).bind fun bt323 => ((posix_Right.f kj12 0 false (⟨#[65, 65, 65]⟩ : ByteArray) 0 true (⟨#[66, 66, 66]⟩ : ByteArray) true 2 5 0 0 a0 2 5 0 0 a0 true).bind fun t342 => (if (t342 != x6_2) = true then (longcaselaw08_PosixTimes.j2 kj12 t299 x6_2 x7_12 t302 bt304.2.2.2.2.2.2.2.2.2.2.2.2.2.2.2.2.2 bt323.2.2.2.2.2.2.2.2.2.2.2.2.2.2.2.2.2 true 0 false (⟨#[65, 65, 65]⟩ : ByteArray) 0 true (⟨#[66, 66, 66]⟩ : ByteArray) true 2 5 0 0 a0 2 5 0 0 a0 bt304.1 bt304.2.1 bt304.2.2.1 bt304.2.2.2.1 bt304.2.2.2.2.1 bt304.2.2.2.2.2.1 bt304.2.2.2.2.2.2.1 bt304.2.2.2.2.2.2.2.1 bt304.2.2.2.2.2.2.2.2.1 bt304.2.2.2.2.2.2.2.2.2.1 bt304.2.2.2.2.2.2.2.2.2.2.1 bt304.2.2.2.2.2.2.2.2.2.2.2.1 bt304.2.2.2.2.2.2.2.2.2.2.2.2.1 bt304.2.2.2.2.2.2.2.2.2.2.2.2.2.1 bt304.2.2.2.2.2.2.2.2.2.2.2.2.2.2.1 bt304.2.2.2.2.2.2.2.2.2.2.2.2.2.2.2.1 bt304.2.2.2.2.2.2.2.2.2.2.2.2.2.2.2.2.1) else ((posix_Right.f kj12 0 false (⟨#[65, 65, 65]⟩ : ByteArray) 0 true (⟨#[66, 66, 66]⟩ : ByteArray) true 2 5 0 0 a0 2 5 0 0 a0 false).bind fun t343 => (if (t343 != x7_12) = true then (longcaselaw08_PosixTimes.j2 kj12 t299 x6_2 x7_12 t302 bt304.2.2.2.2.2.2.2.2.2.2.2.2.2.2.2.2.2 bt323.2.2.2.2.2.2.2.2.2.2.2.2.2.2.2.2.2 true 0 false (⟨#[65, 65, 65]⟩ : ByteArray) 0 true (⟨#[66, 66, 66]⟩ : ByteArray) true 2 5 0 0 a0 2 5 0 0 a0 bt304.1 bt304.2.1 bt304.2.2.1 bt304.2.2.2.1 bt304.2.2.2.2.1 bt304.2.2.2.2.2.1 bt304.2.2.2.2.2.2.1 bt304.2.2.2.2.2.2.2.1 bt304.2.2.2.2.2.2.2.2.1 bt304.2.2.2.2.2.2.2.2.2.1 bt304.2.2.2.2.2.2.2.2.2.2.1 bt304.2.2.2.2.2.2.2.2.2.2.2.1 bt304.2.2.2.2.2.2.2.2.2.2.2.2.1 bt304.2.2.2.2.2.2.2.2.2.2.2.2.2.1 bt304.2.2.2.2.2.2.2.2.2.2.2.2.2.2.1 bt304.2.2.2.2.2.2.2.2.2.2.2.2.2.2.2.1 bt304.2.2.2.2.2.2.2.2.2.2.2.2.2.2.2.2.1) else (longcaselaw08_PosixTimes.j2 kj12 t299 x6_2 x7_12 t302 bt304.2.2.2.2.2.2.2.2.2.2.2.2.2.2.2.2.2 bt323.2.2.2.2.2.2.2.2.2.2.2.2.2.2.2.2.2 ((t303 == 0) != x6_2) 0 false (⟨#[65, 65, 65]⟩ : ByteArray) 0 true (⟨#[66, 66, 66]⟩ : ByteArray) true 2 5 0 0 a0 2 5 0 0 a0 bt304.1 bt304.2.1 bt304.2.2.1 bt304.2.2.2.1 bt304.2.2.2.2.1 bt304.2.2.2.2.2.1 bt304.2.2.2.2.2.2.1 bt304.2.2.2.2.2.2.2.1 bt304.2.2.2.2.2.2.2.2.1 bt304.2.2.2.2.2.2.2.2.2.1 bt304.2.2.2.2.2.2.2.2.2.2.1 bt304.2.2.2.2.2.2.2.2.2.2.2.1 bt304.2.2.2.2.2.2.2.2.2.2.2.2.1 bt304.2.2.2.2.2.2.2.2.2.2.2.2.2.1 bt304.2.2.2.2.2.2.2.2.2.2.2.2.2.2.1 bt304.2.2.2.2.2.2.2.2.2.2.2.2.2.2.2.1 bt304.2.2.2.2.2.2.2.2.2.2.2.2.2.2.2.2.1))))))) = some r := H
          have A15 := Aside0.mk A150
          clear A150
          replace H := Option.bind_eq_some_iff.mp H
          obtain ⟨⟨t304, t305, t306, t307, t308, t309, t310, t311, t312, t313, t314, t315, t316, t317, t318, t319, t320, t321⟩, A160, H⟩ := H
          replace H : ((posix_Parse.f t302 false).bind fun bt323 => ((posix_Right.f kj12 0 false (⟨#[65, 65, 65]⟩ : ByteArray) 0 true (⟨#[66, 66, 66]⟩ : ByteArray) true 2 5 0 0 a0 2 5 0 0 a0 true).bind fun t342 => (if (t342 != x6_2) = true then (longcaselaw08_PosixTimes.j2 kj12 t299 x6_2 x7_12 t302 t321 bt323.2.2.2.2.2.2.2.2.2.2.2.2.2.2.2.2.2 true 0 false (⟨#[65, 65, 65]⟩ : ByteArray) 0 true (⟨#[66, 66, 66]⟩ : ByteArray) true 2 5 0 0 a0 2 5 0 0 a0 t304 t305 t306 t307 t308 t309 t310 t311 t312 t313 t314 t315 t316 t317 t318 t319 t320) else ((posix_Right.f kj12 0 false (⟨#[65, 65, 65]⟩ : ByteArray) 0 true (⟨#[66, 66, 66]⟩ : ByteArray) true 2 5 0 0 a0 2 5 0 0 a0 false).bind fun t343 => (if (t343 != x7_12) = true then (longcaselaw08_PosixTimes.j2 kj12 t299 x6_2 x7_12 t302 t321 bt323.2.2.2.2.2.2.2.2.2.2.2.2.2.2.2.2.2 true 0 false (⟨#[65, 65, 65]⟩ : ByteArray) 0 true (⟨#[66, 66, 66]⟩ : ByteArray) true 2 5 0 0 a0 2 5 0 0 a0 t304 t305 t306 t307 t308 t309 t310 t311 t312 t313 t314 t315 t316 t317 t318 t319 t320) else (longcaselaw08_PosixTimes.j2 kj12 t299 x6_2 x7_12 t302 t321 bt323.2.2.2.2.2.2.2.2.2.2.2.2.2.2.2.2.2 ((t303 == 0) != x6_2) 0 false (⟨#[65, 65, 65]⟩ : ByteArray) 0 true (⟨#[66, 66, 66]⟩ : ByteArray) true 2 5 0 0 a0 2 5 0 0 a0 t304 t305 t306 t307 t308 t309 t310 t311 t312 t313 t314 t315 t316 t317 t318 t319 t320)))))) = some r := H
          have A16 := Aside0.mk A160
          clear A160
          replace H := Option.bind_eq_some_iff.mp H
          obtain ⟨⟨t323, t324, t325, t326, t327, t328, t329, t330, t331, t332, t333, t334, t335, t336, t337, t338, t339, t340⟩, A170, H⟩ := H
          replace H : ((posix_Right.f kj12 0 false (⟨#[65, 65, 65]⟩ : ByteArray) 0 true (⟨#[66, 66, 66]⟩ : ByteArray) true 2 5 0 0 a0 2 5 0 0 a0 true).bind fun t342 => (if (t342 != x6_2) = true then (longcaselaw08_PosixTimes.j2 kj12 t299 x6_2 x7_12 t302 t321 t340 true 0 false (⟨#[65, 65, 65]⟩ : ByteArray) 0 true (⟨#[66, 66, 66]⟩ : ByteArray) true 2 5 0 0 a0 2 5 0 0 a0 t304 t305 t306 t307 t308 t309 t310 t311 t312 t313 t314 t315 t316 t317 t318 t319 t320) else ((posix_Right.f kj12 0 false (⟨#[65, 65, 65]⟩ : ByteArray) 0 true (⟨#[66, 66, 66]⟩ : ByteArray) true 2 5 0 0 a0 2 5 0 0 a0 false).bind fun t343 => (if (t343 != x7_12) = true then (longcaselaw08_PosixTimes.j2 kj12 t299 x6_2 x7_12 t302 t321 t340 true 0 false (⟨#[65, 65, 65]⟩ : ByteArray) 0 true (⟨#[66, 66, 66]⟩ : ByteArray) true 2 5 0 0 a0 2 5 0 0 a0 t304 t305 t306 t307 t308 t309 t310 t311 t312 t313 t314 t315 t316 t317 t318 t319 t320) else (longcaselaw08_PosixTimes.j2 kj12 t299 x6_2 x7_12 t302 t321 t340 ((t303 == 0) != x6_2) 0 false (⟨#[65, 65, 65]⟩ : ByteArray) 0 true (⟨#[66, 66, 66]⟩ : ByteArray) true 2 5 0 0 a0 2 5 0 0 a0 t304 t305 t306 t307 t308 t309 t310 t311 t312 t313 t314 t315 t316 t317 t318 t319 t320))))) = some r := H
          have A17 := Aside0.mk A170
          clear A170
          have HC18 := Aside0.mk H
          clear H
          go_upto_region 9 with (first | ((with_reducible refine gate_dst (N := 35) rfl ?_); refine wpList_load_row rfl 27 _ rfl (gb301) rfl 27 #[.int .i64 0, .bool false, .string (⟨#[65, 65, 65]⟩ : ByteArray), .int .i64 0, .bool true, .string (⟨#[66, 66, 66]⟩ : ByteArray), .bool true, .int .i64 2, .int .i64 5, .int .i64 0, .int .i64 0, .int .i64 a0, .int .i64 2, .int .i64 5, .int .i64 0, .int .i64 0, .int .i64 a0] (0, 0) _ (by (with_reducible repeat (first | refine blk_drewN ?_ _ | refine blk_drew ?_ | refine blk_alloc ?_ _)); exact BK301.out) Tryd.underlying27 rfl (by kernel_rfl) ?_) | ((with_reducible refine gate_callee (f := 15) rfl ?_); refine goesL_ (some 36) rfl rfl Tryd.func15 (by kernel_rfl) rfl #[.agg #[.int .i64 0, .bool false, .string (⟨#[65, 65, 65]⟩ : ByteArray), .int .i64 0, .bool true, .string (⟨#[66, 66, 66]⟩ : ByteArray), .bool true, .int .i64 2, .int .i64 5, .int .i64 0, .int .i64 0, .int .i64 a0, .int .i64 2, .int .i64 5, .int .i64 0, .int .i64 0, .int .i64 a0], .bool true] rfl (by (try simp only [List.map_toArray, List.map_cons, List.map_nil]); first | done | rfl | (simp only [List.length_drop, List.length_take]; rfl)) ?_; (with_reducible refine (posix_Print.calls 0 false (⟨#[65, 65, 65]⟩ : ByteArray) 0 true (⟨#[66, 66, 66]⟩ : ByteArray) true 2 5 0 0 a0 2 5 0 0 a0 true t302 t303 _ ?side1 A15.out).mono ?_); (case side1 => exact GL.below HG.out (by repeat (first | (with_reducible first | exact HB.out | apply below_alloc | apply pw_below_drewN | apply below_drew1 | refine below_set ?_ GE300.out | refine below_set ?_ GE301.out) | exact HB.out))); rintro e w19 ⟨rfl, hb⟩; refine ⟨_, rfl, ?_⟩; have n0_ := Aside0.mk (blk_below (g := gb300) (o := .cells #[.int .i64 2, .int .i64 5, .int .i64 0, .int .i64 0, .int .i64 a0] 25 (0, 0)) (by (with_reducible repeat (first | refine blk_drewN ?_ _ | refine blk_drew ?_ | refine blk_alloc ?_ _)); exact BK300.out) hb); have n1_ := Aside0.mk (blk_below (g := gb301) (o := .cells #[.int .i64 0, .bool false, .string (⟨#[65, 65, 65]⟩ : ByteArray), .int .i64 0, .bool true, .string (⟨#[66, 66, 66]⟩ : ByteArray), .bool true, .int .i64 2, .int .i64 5, .int .i64 0, .int .i64 0, .int .i64 a0, .int .i64 2, .int .i64 5, .int .i64 0, .int .i64 0, .int .i64 a0] 27 (0, 0)) (by (with_reducible repeat (first | refine blk_drewN ?_ _ | refine blk_drew ?_ | refine blk_alloc ?_ _)); exact BK301.out) hb); have n2_ := Aside0.mk (below_step (by repeat (first | (with_reducible first | exact HB.out | apply below_alloc | apply pw_below_drewN | apply below_drew1 | refine below_set ?_ GE300.out | refine below_set ?_ GE301.out) | exact HB.out)) hb); clear BK300; clear BK301; clear HB; have BK300 := n0_; have BK301 := n1_; have HB := n2_; clear n0_ n1_ n2_; (try clear hb); (try clear hb2); (try clear hk); (try clear hi)) | ((with_reducible refine gate_callee (f := 18) rfl ?_); refine goesL_ (some 41) rfl rfl Tryd.func18 (by kernel_rfl) rfl #[.string t302, .bool true] rfl (by (try simp only [List.map_toArray, List.map_cons, List.map_nil]); first | done | rfl | (simp only [List.length_drop, List.length_take]; rfl)) ?_; (with_reducible refine (posix_Parse.calls t302 true t304 t305 t306 t307 t308 t309 t310 t311 t312 t313 t314 t315 t316 t317 t318 t319 t320 t321 _ ?side1 A16.out).mono ?_); (case side1 => exact GL.below HG.out (by repeat (first | (with_reducible first | exact HB.out | apply below_alloc | apply pw_below_drewN | apply below_drew1 | refine below_set ?_ GE300.out | refine below_set ?_ GE301.out) | exact HB.out))); rintro e w20 ⟨rfl, hb⟩; refine ⟨_, rfl, ?_⟩; have n0_ := Aside0.mk (blk_below (g := gb300) (o := .cells #[.int .i64 2, .int .i64 5, .int .i64 0, .int .i64 0, .int .i64 a0] 25 (0, 0)) (by (with_reducible repeat (first | refine blk_drewN ?_ _ | refine blk_drew ?_ | refine blk_alloc ?_ _)); exact BK300.out) hb); have n1_ := Aside0.mk (blk_below (g := gb301) (o := .cells #[.int .i64 0, .bool false, .string (⟨#[65, 65, 65]⟩ : ByteArray), .int .i64 0, .bool true, .string (⟨#[66, 66, 66]⟩ : ByteArray), .bool true, .int .i64 2, .int .i64 5, .int .i64 0, .int .i64 0, .int .i64 a0, .int .i64 2, .int .i64 5, .int .i64 0, .int .i64 0, .int .i64 a0] 27 (0, 0)) (by (with_reducible repeat (first | refine blk_drewN ?_ _ | refine blk_drew ?_ | refine blk_alloc ?_ _)); exact BK301.out) hb); have n2_ := Aside0.mk (below_step (by repeat (first | (with_reducible first | exact HB.out | apply below_alloc | apply pw_below_drewN | apply below_drew1 | refine below_set ?_ GE300.out | refine below_set ?_ GE301.out) | exact HB.out)) hb); clear BK300; clear BK301; clear HB; have BK300 := n0_; have BK301 := n1_; have HB := n2_; clear n0_ n1_ n2_; (try clear hb); (try clear hb2); (try clear hk); (try clear hi)) | ((with_reducible refine gate_dst (N := 10) rfl ?_); refine box_event ?hg (N := 10) ?hd (cs := #[.int .i64 0, .bool false, .string (⟨#[]⟩ : ByteArray), .int .i64 0, .bool false, .string (⟨#[]⟩ : ByteArray), .bool false, .int .i64 0, .int .i64 0, .int .i64 0, .int .i64 0, .int .i64 0, .int .i64 0, .int .i64 0, .int .i64 0, .int .i64 0, .int .i64 0]) (t := 27) ?hr ?_; (case hd => rfl); (case hg => rfl); (case hr => first | (go_simp; done) | (go_simp; rfl)); intro gb322 hg w21 hbox hb; have n0_ := Aside0.mk (blk_below (g := gb300) (o := .cells #[.int .i64 2, .int .i64 5, .int .i64 0, .int .i64 0, .int .i64 a0] 25 (0, 0)) (by (with_reducible repeat (first | refine blk_drewN ?_ _ | refine blk_drew ?_ | refine blk_alloc ?_ _)); exact BK300.out) hb); have n1_ := Aside0.mk (blk_below (g := gb301) (o := .cells #[.int .i64 0, .bool false, .string (⟨#[65, 65, 65]⟩ : ByteArray), .int .i64 0, .bool true, .string (⟨#[66, 66, 66]⟩ : ByteArray), .bool true, .int .i64 2, .int .i64 5, .int .i64 0, .int .i64 0, .int .i64 a0, .int .i64 2, .int .i64 5, .int .i64 0, .int .i64 0, .int .i64 a0] 27 (0, 0)) (by (with_reducible repeat (first | refine blk_drewN ?_ _ | refine blk_drew ?_ | refine blk_alloc ?_ _)); exact BK301.out) hb); have n2_ := Aside0.mk (below_step (by repeat (first | (with_reducible first | exact HB.out | apply below_alloc | apply pw_below_drewN | apply below_drew1 | refine below_set ?_ GE300.out | refine below_set ?_ GE301.out) | exact HB.out)) hb); have n3_ := Aside0.mk (hbox); have n4_ := Aside0.mk ((by rw [hg]; exact (below_size (by repeat (first | (with_reducible first | exact HB.out | apply below_alloc | apply pw_below_drewN | apply below_drew1 | refine below_set ?_ GE300.out | refine below_set ?_ GE301.out) | exact HB.out))) : w.heap.size ≤ gb322)); have n5_ := Aside0.mk ((by rw [hg]; exact (below_size (by repeat (first | (with_reducible first | exact HB.out | apply below_alloc | apply pw_below_drewN | apply below_drew1 | refine below_set ?_ GE300.out | refine below_set ?_ GE301.out) | exact HB.out))) : w.heap.size ≤ gb322)); have n6_ := Aside0.mk ((by rw [hg]; exact Nat.ne_of_lt (blk_lt (g := gb300) (o := .cells #[.int .i64 2, .int .i64 5, .int .i64 0, .int .i64 0, .int .i64 a0] 25 (0, 0)) (by (with_reducible repeat (first | refine blk_drewN ?_ _ | refine blk_drew ?_ | refine blk_alloc ?_ _)); exact BK300.out)) : gb300 ≠ gb322)); have n7_ := Aside0.mk ((by rw [hg]; exact Nat.ne_of_gt (blk_lt (g := gb300) (o := .cells #[.int .i64 2, .int .i64 5, .int .i64 0, .int .i64 0, .int .i64 a0] 25 (0, 0)) (by (with_reducible repeat (first | refine blk_drewN ?_ _ | refine blk_drew ?_ | refine blk_alloc ?_ _)); exact BK300.out)) : gb322 ≠ gb300)); have n8_ := Aside0.mk ((by rw [hg]; exact Nat.ne_of_lt (blk_lt (g := gb301) (o := .cells #[.int .i64 0, .bool false, .string (⟨#[65, 65, 65]⟩ : ByteArray), .int .i64 0, .bool true, .string (⟨#[66, 66, 66]⟩ : ByteArray), .bool true, .int .i64 2, .int .i64 5, .int .i64 0, .int .i64 0, .int .i64 a0, .int .i64 2, .int .i64 5, .int .i64 0, .int .i64 0, .int .i64 a0] 27 (0, 0)) (by (with_reducible repeat (first | refine blk_drewN ?_ _ | refine blk_drew ?_ | refine blk_alloc ?_ _)); exact BK301.out)) : gb301 ≠ gb322)); have n9_ := Aside0.mk ((by rw [hg]; exact Nat.ne_of_gt (blk_lt (g := gb301) (o := .cells #[.int .i64 0, .bool false, .string (⟨#[65, 65, 65]⟩ : ByteArray), .int .i64 0, .bool true, .string (⟨#[66, 66, 66]⟩ : ByteArray), .bool true, .int .i64 2, .int .i64 5, .int .i64 0, .int .i64 0, .int .i64 a0, .int .i64 2, .int .i64 5, .int .i64 0, .int .i64 0, .int .i64 a0] 27 (0, 0)) (by (with_reducible repeat (first | refine blk_drewN ?_ _ | refine blk_drew ?_ | refine blk_alloc ?_ _)); exact BK301.out)) : gb322 ≠ gb301)); clear BK300; clear BK301; clear HB; have BK300 := n0_; have BK301 := n1_; have HB := n2_; have BK322 := n3_; have GW322 := n4_; have GE322 := n5_; have NB300_322 := n6_; have NB322_300 := n7_; have NB301_322 := n8_; have NB322_301 := n9_; clear n0_ n1_ n2_ n3_ n4_ n5_ n6_ n7_ n8_ n9_; clear hb hbox hg; have hnb22 := NB322_300.out; have hnc22 := NB300_322.out; have hnb23 := NB322_301.out; have hnc23 := NB301_322.out; have hcz24_0 : w21.cell? ⟨gb322, 0, none⟩ = some (.int .i64 0) := (blk_cell BK322.out 0).trans rfl; have hcz24_1 : w21.cell? ⟨gb322, 1, none⟩ = some (.bool false) := (blk_cell BK322.out 1).trans rfl; have hcz24_2 : w21.cell? ⟨gb322, 2, none⟩ = some (.string (⟨#[]⟩ : ByteArray)) := (blk_cell BK322.out 2).trans rfl; have hcz24_3 : w21.cell? ⟨gb322, 3, none⟩ = some (.int .i64 0) := (blk_cell BK322.out 3).trans rfl; have hcz24_4 : w21.cell? ⟨gb322, 4, none⟩ = some (.bool false) := (blk_cell BK322.out 4).trans rfl; have hcz24_5 : w21.cell? ⟨gb322, 5, none⟩ = some (.string (⟨#[]⟩ : ByteArray)) := (blk_cell BK322.out 5).trans rfl; have hcz24_6 : w21.cell? ⟨gb322, 6, none⟩ = some (.bool false) := (blk_cell BK322.out 6).trans rfl; have hcz24_7 : w21.cell? ⟨gb322, 7, none⟩ = some (.int .i64 0) := (blk_cell BK322.out 7).trans rfl; have hcz24_8 : w21.cell? ⟨gb322, 8, none⟩ = some (.int .i64 0) := (blk_cell BK322.out 8).trans rfl; have hcz24_9 : w21.cell? ⟨gb322, 9, none⟩ = some (.int .i64 0) := (blk_cell BK322.out 9).trans rfl; have hcz24_10 : w21.cell? ⟨gb322, 10, none⟩ = some (.int .i64 0) := (blk_cell BK322.out 10).trans rfl; have hcz24_11 : w21.cell? ⟨gb322, 11, none⟩ = some (.int .i64 0) := (blk_cell BK322.out 11).trans rfl; have hcz24_12 : w21.cell? ⟨gb322, 12, none⟩ = some (.int .i64 0) := (blk_cell BK322.out 12).trans rfl; have hcz24_13 : w21.cell? ⟨gb322, 13, none⟩ = some (.int .i64 0) := (blk_cell BK322.out 13).trans rfl; have hcz24_14 : w21.cell? ⟨gb322, 14, none⟩ = some (.int .i64 0) := (blk_cell BK322.out 14).trans rfl; have hcz24_15 : w21.cell? ⟨gb322, 15, none⟩ = some (.int .i64 0) := (blk_cell BK322.out 15).trans rfl; have hcz24_16 : w21.cell? ⟨gb322, 16, none⟩ = some (.int .i64 0) := (blk_cell BK322.out 16).trans rfl; have hfz24_0 := blk_frozen BK322.out 0; have hfz24_1 := blk_frozen BK322.out 1; have hfz24_2 := blk_frozen BK322.out 2; have hfz24_3 := blk_frozen BK322.out 3; have hfz24_4 := blk_frozen BK322.out 4; have hfz24_5 := blk_frozen BK322.out 5; have hfz24_6 := blk_frozen BK322.out 6; have hfz24_7 := blk_frozen BK322.out 7; have hfz24_8 := blk_frozen BK322.out 8; have hfz24_9 := blk_frozen BK322.out 9; have hfz24_10 := blk_frozen BK322.out 10; have hfz24_11 := blk_frozen BK322.out 11; have hfz24_12 := blk_frozen BK322.out 12; have hfz24_13 := blk_frozen BK322.out 13; have hfz24_14 := blk_frozen BK322.out 14; have hfz24_15 := blk_frozen BK322.out 15; have hfz24_16 := blk_frozen BK322.out 16) | ((with_reducible refine gate_store (t := 27) (p := 10) rfl ?_); refine wpList_store_row rfl 27 _ _ rfl (gb322) #[.int .i64 t304, .bool t305, .string t306, .int .i64 t307, .bool t308, .string t309, .bool t310, .int .i64 t311, .int .i64 t312, .int .i64 t313, .int .i64 t314, .int .i64 t315, .int .i64 t316, .int .i64 t317, .int .i64 t318, .int .i64 t319, .int .i64 t320] rfl rfl 27 #[.int .i64 0, .bool false, .string (⟨#[]⟩ : ByteArray), .int .i64 0, .bool false, .string (⟨#[]⟩ : ByteArray), .bool false, .int .i64 0, .int .i64 0, .int .i64 0, .int .i64 0, .int .i64 0, .int .i64 0, .int .i64 0, .int .i64 0, .int .i64 0, .int .i64 0] (by (with_reducible repeat (first | refine blk_drewN ?_ _ | refine blk_drew ?_ | refine blk_alloc ?_ _)); exact BK322.out) (by kernel_rfl) rfl (by simp [Value.oneCell']) ?_; obtain ⟨w25, hw⟩ : ∃ w_, w_ = World.setRow w21 gb322 #[.int .i64 t304, .bool t305, .string t306, .int .i64 t307, .bool t308, .string t309, .bool t310, .int .i64 t311, .int .i64 t312, .int .i64 t313, .int .i64 t314, .int .i64 t315, .int .i64 t316, .int .i64 t317, .int .i64 t318, .int .i64 t319, .int .i64 t320] := ⟨_, rfl⟩; rw [← hw]; have n0_ : Aside0 (w25.heap[gb300]? = some (.cells #[.int .i64 2, .int .i64 5, .int .i64 0, .int .i64 0, .int .i64 a0] 25 (0, 0))) := ⟨(by rw [hw]; exact ((setRow_other w21 _ _ _ NB300_322.out).trans (show w21.heap[gb300]? = some (.cells #[.int .i64 2, .int .i64 5, .int .i64 0, .int .i64 0, .int .i64 a0] 25 (0, 0)) from by (with_reducible repeat (first | refine blk_drewN ?_ _ | refine blk_drew ?_ | refine blk_alloc ?_ _)); exact BK300.out)))⟩; have n1_ : Aside0 (w25.heap[gb301]? = some (.cells #[.int .i64 0, .bool false, .string (⟨#[65, 65, 65]⟩ : ByteArray), .int .i64 0, .bool true, .string (⟨#[66, 66, 66]⟩ : ByteArray), .bool true, .int .i64 2, .int .i64 5, .int .i64 0, .int .i64 0, .int .i64 a0, .int .i64 2, .int .i64 5, .int .i64 0, .int .i64 0, .int .i64 a0] 27 (0, 0))) := ⟨(by rw [hw]; exact ((setRow_other w21 _ _ _ NB301_322.out).trans (show w21.heap[gb301]? = some (.cells #[.int .i64 0, .bool false, .string (⟨#[65, 65, 65]⟩ : ByteArray), .int .i64 0, .bool true, .string (⟨#[66, 66, 66]⟩ : ByteArray), .bool true, .int .i64 2, .int .i64 5, .int .i64 0, .int .i64 0, .int .i64 a0, .int .i64 2, .int .i64 5, .int .i64 0, .int .i64 0, .int .i64 a0] 27 (0, 0)) from by (with_reducible repeat (first | refine blk_drewN ?_ _ | refine blk_drew ?_ | refine blk_alloc ?_ _)); exact BK301.out)))⟩; have n2_ : Aside0 (w25.heap[gb322]? = some (.cells #[.int .i64 t304, .bool t305, .string t306, .int .i64 t307, .bool t308, .string t309, .bool t310, .int .i64 t311, .int .i64 t312, .int .i64 t313, .int .i64 t314, .int .i64 t315, .int .i64 t316, .int .i64 t317, .int .i64 t318, .int .i64 t319, .int .i64 t320] 27 (0, 0))) := ⟨(by rw [hw]; exact (setRow_heap w21 gb322 #[.int .i64 0, .bool false, .string (⟨#[]⟩ : ByteArray), .int .i64 0, .bool false, .string (⟨#[]⟩ : ByteArray), .bool false, .int .i64 0, .int .i64 0, .int .i64 0, .int .i64 0, .int .i64 0, .int .i64 0, .int .i64 0, .int .i64 0, .int .i64 0, .int .i64 0] _ 27 (0, 0) (by (with_reducible repeat (first | refine blk_drewN ?_ _ | refine blk_drew ?_ | refine blk_alloc ?_ _)); exact BK322.out)))⟩; have n3_ : Aside0 (Below w.heap.size w w25) := ⟨(by rw [hw]; exact (Below.trans (show Below w.heap.size w w21 from by repeat (first | (with_reducible first | exact HB.out | apply below_alloc | apply pw_below_drewN | apply below_drew1 | refine below_set ?_ GE300.out | refine below_set ?_ GE301.out | refine below_set ?_ GE322.out) | exact HB.out)) ⟨rfl, rfl, rfl, (by rw [size_setRow]; exact Nat.le_refl _), fun k_ hk_ => setRow_other _ _ _ _ (Nat.ne_of_lt (Nat.lt_of_lt_of_le hk_ GE322.out))⟩))⟩; clear hw; clear BK300; clear BK301; clear BK322; clear HB; have BK300 := n0_; have BK301 := n1_; have BK322 := n2_; have HB := n3_; clear n0_ n1_ n2_ n3_) | ((with_reducible refine gate_callee (f := 18) rfl ?_); refine goesL_ (some 46) rfl rfl Tryd.func18 (by kernel_rfl) rfl #[.string t302, .bool false] rfl (by (try simp only [List.map_toArray, List.map_cons, List.map_nil]); first | done | rfl | (simp only [List.length_drop, List.length_take]; rfl)) ?_; (with_reducible refine (posix_Parse.calls t302 false t323 t324 t325 t326 t327 t328 t329 t330 t331 t332 t333 t334 t335 t336 t337 t338 t339 t340 _ ?side1 A17.out).mono ?_); (case side1 => exact GL.below HG.out (by repeat (first | (with_reducible first | exact HB.out | apply below_alloc | apply pw_below_drewN | apply below_drew1 | refine below_set ?_ GE300.out | refine below_set ?_ GE301.out | refine below_set ?_ GE322.out) | exact HB.out))); rintro e w26 ⟨rfl, hb⟩; refine ⟨_, rfl, ?_⟩; have n0_ := Aside0.mk (blk_below (g := gb300) (o := .cells #[.int .i64 2, .int .i64 5, .int .i64 0, .int .i64 0, .int .i64 a0] 25 (0, 0)) (by (with_reducible repeat (first | refine blk_drewN ?_ _ | refine blk_drew ?_ | refine blk_alloc ?_ _)); exact BK300.out) hb); have n1_ := Aside0.mk (blk_below (g := gb301) (o := .cells #[.int .i64 0, .bool false, .string (⟨#[65, 65, 65]⟩ : ByteArray), .int .i64 0, .bool true, .string (⟨#[66, 66, 66]⟩ : ByteArray), .bool true, .int .i64 2, .int .i64 5, .int .i64 0, .int .i64 0, .int .i64 a0, .int .i64 2, .int .i64 5, .int .i64 0, .int .i64 0, .int .i64 a0] 27 (0, 0)) (by (with_reducible repeat (first | refine blk_drewN ?_ _ | refine blk_drew ?_ | refine blk_alloc ?_ _)); exact BK301.out) hb); have n2_ := Aside0.mk (blk_below (g := gb322) (o := .cells #[.int .i64 t304, .bool t305, .string t306, .int .i64 t307, .bool t308, .string t309, .bool t310, .int .i64 t311, .int .i64 t312, .int .i64 t313, .int .i64 t314, .int .i64 t315, .int .i64 t316, .int .i64 t317, .int .i64 t318, .int .i64 t319, .int .i64 t320] 27 (0, 0)) (by (with_reducible repeat (first | refine blk_drewN ?_ _ | refine blk_drew ?_ | refine blk_alloc ?_ _)); exact BK322.out) hb); have n3_ := Aside0.mk (below_step (by repeat (first | (with_reducible first | exact HB.out | apply below_alloc | apply pw_below_drewN | apply below_drew1 | refine below_set ?_ GE300.out | refine below_set ?_ GE301.out | refine below_set ?_ GE322.out) | exact HB.out)) hb); clear BK300; clear BK301; clear BK322; clear HB; have BK300 := n0_; have BK301 := n1_; have BK322 := n2_; have HB := n3_; clear n0_ n1_ n2_ n3_; (try clear hb); (try clear hb2); (try clear hk); (try clear hi)) | ((with_reducible refine gate_dst (N := 12) rfl ?_); refine box_event ?hg (N := 12) ?hd (cs := #[.int .i64 0, .bool false, .string (⟨#[]⟩ : ByteArray), .int .i64 0, .bool false, .string (⟨#[]⟩ : ByteArray), .bool false, .int .i64 0, .int .i64 0, .int .i64 0, .int .i64 0, .int .i64 0, .int .i64 0, .int .i64 0, .int .i64 0, .int .i64 0, .int .i64 0]) (t := 27) ?hr ?_; (case hd => rfl); (case hg => rfl); (case hr => first | (go_simp; done) | (go_simp; rfl)); intro gb341 hg w27 hbox hb; have n0_ := Aside0.mk (blk_below (g := gb300) (o := .cells #[.int .i64 2, .int .i64 5, .int .i64 0, .int .i64 0, .int .i64 a0] 25 (0, 0)) (by (with_reducible repeat (first | refine blk_drewN ?_ _ | refine blk_drew ?_ | refine blk_alloc ?_ _)); exact BK300.out) hb); have n1_ := Aside0.mk (blk_below (g := gb301) (o := .cells #[.int .i64 0, .bool false, .string (⟨#[65, 65, 65]⟩ : ByteArray), .int .i64 0, .bool true, .string (⟨#[66, 66, 66]⟩ : ByteArray), .bool true, .int .i64 2, .int .i64 5, .int .i64 0, .int .i64 0, .int .i64 a0, .int .i64 2, .int .i64 5, .int .i64 0, .int .i64 0, .int .i64 a0] 27 (0, 0)) (by (with_reducible repeat (first | refine blk_drewN ?_ _ | refine blk_drew ?_ | refine blk_alloc ?_ _)); exact BK301.out) hb); have n2_ := Aside0.mk (blk_below (g := gb322) (o := .cells #[.int .i64 t304, .bool t305, .string t306, .int .i64 t307, .bool t308, .string t309, .bool t310, .int .i64 t311, .int .i64 t312, .int .i64 t313, .int .i64 t314, .int .i64 t315, .int .i64 t316, .int .i64 t317, .int .i64 t318, .int .i64 t319, .int .i64 t320] 27 (0, 0)) (by (with_reducible repeat (first | refine blk_drewN ?_ _ | refine blk_drew ?_ | refine blk_alloc ?_ _)); exact BK322.out) hb); have n3_ := Aside0.mk (below_step (by repeat (first | (with_reducible first | exact HB.out | apply below_alloc | apply pw_below_drewN | apply below_drew1 | refine below_set ?_ GE300.out | refine below_set ?_ GE301.out | refine below_set ?_ GE322.out) | exact HB.out)) hb); have n4_ := Aside0.mk (hbox); have n5_ := Aside0.mk ((by rw [hg]; exact (below_size (by repeat (first | (with_reducible first | exact HB.out | apply below_alloc | apply pw_below_drewN | apply below_drew1 | refine below_set ?_ GE300.out | refine below_set ?_ GE301.out | refine below_set ?_ GE322.out) | exact HB.out))) : w.heap.size ≤ gb341)); have n6_ := Aside0.mk ((by rw [hg]; exact (below_size (by repeat (first | (with_reducible first | exact HB.out | apply below_alloc | apply pw_below_drewN | apply below_drew1 | refine below_set ?_ GE300.out | refine below_set ?_ GE301.out | refine below_set ?_ GE322.out) | exact HB.out))) : w.heap.size ≤ gb341)); have n7_ := Aside0.mk ((by rw [hg]; exact Nat.ne_of_lt (blk_lt (g := gb300) (o := .cells #[.int .i64 2, .int .i64 5, .int .i64 0, .int .i64 0, .int .i64 a0] 25 (0, 0)) (by (with_reducible repeat (first | refine blk_drewN ?_ _ | refine blk_drew ?_ | refine blk_alloc ?_ _)); exact BK300.out)) : gb300 ≠ gb341)); have n8_ := Aside0.mk ((by rw [hg]; exact Nat.ne_of_gt (blk_lt (g := gb300) (o := .cells #[.int .i64 2, .int .i64 5, .int .i64 0, .int .i64 0, .int .i64 a0] 25 (0, 0)) (by (with_reducible repeat (first | refine blk_drewN ?_ _ | refine blk_drew ?_ | refine blk_alloc ?_ _)); exact BK300.out)) : gb341 ≠ gb300)); have n9_ := Aside0.mk ((by rw [hg]; exact Nat.ne_of_lt (blk_lt (g := gb301) (o := .cells #[.int .i64 0, .bool false, .string (⟨#[65, 65, 65]⟩ : ByteArray), .int .i64 0, .bool true, .string (⟨#[66, 66, 66]⟩ : ByteArray), .bool true, .int .i64 2, .int .i64 5, .int .i64 0, .int .i64 0, .int .i64 a0, .int .i64 2, .int .i64 5, .int .i64 0, .int .i64 0, .int .i64 a0] 27 (0, 0)) (by (with_reducible repeat (first | refine blk_drewN ?_ _ | refine blk_drew ?_ | refine blk_alloc ?_ _)); exact BK301.out)) : gb301 ≠ gb341)); have n10_ := Aside0.mk ((by rw [hg]; exact Nat.ne_of_gt (blk_lt (g := gb301) (o := .cells #[.int .i64 0, .bool false, .string (⟨#[65, 65, 65]⟩ : ByteArray), .int .i64 0, .bool true, .string (⟨#[66, 66, 66]⟩ : ByteArray), .bool true, .int .i64 2, .int .i64 5, .int .i64 0, .int .i64 0, .int .i64 a0, .int .i64 2, .int .i64 5, .int .i64 0, .int .i64 0, .int .i64 a0] 27 (0, 0)) (by (with_reducible repeat (first | refine blk_drewN ?_ _ | refine blk_drew ?_ | refine blk_alloc ?_ _)); exact BK301.out)) : gb341 ≠ gb301)); have n11_ := Aside0.mk ((by rw [hg]; exact Nat.ne_of_lt (blk_lt (g := gb322) (o := .cells #[.int .i64 t304, .bool t305, .string t306, .int .i64 t307, .bool t308, .string t309, .bool t310, .int .i64 t311, .int .i64 t312, .int .i64 t313, .int .i64 t314, .int .i64 t315, .int .i64 t316, .int .i64 t317, .int .i64 t318, .int .i64 t319, .int .i64 t320] 27 (0, 0)) (by (with_reducible repeat (first | refine blk_drewN ?_ _ | refine blk_drew ?_ | refine blk_alloc ?_ _)); exact BK322.out)) : gb322 ≠ gb341)); have n12_ := Aside0.mk ((by rw [hg]; exact Nat.ne_of_gt (blk_lt (g := gb322) (o := .cells #[.int .i64 t304, .bool t305, .string t306, .int .i64 t307, .bool t308, .string t309, .bool t310, .int .i64 t311, .int .i64 t312, .int .i64 t313, .int .i64 t314, .int .i64 t315, .int .i64 t316, .int .i64 t317, .int .i64 t318, .int .i64 t319, .int .i64 t320] 27 (0, 0)) (by (with_reducible repeat (first | refine blk_drewN ?_ _ | refine blk_drew ?_ | refine blk_alloc ?_ _)); exact BK322.out)) : gb341 ≠ gb322)); clear BK300; clear BK301; clear BK322; clear HB; have BK300 := n0_; have BK301 := n1_; have BK322 := n2_; have HB := n3_; have BK341 := n4_; have GW341 := n5_; have GE341 := n6_; have NB300_341 := n7_; have NB341_300 := n8_; have NB301_341 := n9_; have NB341_301 := n10_; have NB322_341 := n11_; have NB341_322 := n12_; clear n0_ n1_ n2_ n3_ n4_ n5_ n6_ n7_ n8_ n9_ n10_ n11_ n12_; clear hb hbox hg; have hnb28 := NB341_300.out; have hnc28 := NB300_341.out; have hnb29 := NB341_301.out; have hnc29 := NB301_341.out; have hnb30 := NB341_322.out; have hnc30 := NB322_341.out; have hcz31_0 : w27.cell? ⟨gb341, 0, none⟩ = some (.int .i64 0) := (blk_cell BK341.out 0).trans rfl; have hcz31_1 : w27.cell? ⟨gb341, 1, none⟩ = some (.bool false) := (blk_cell BK341.out 1).trans rfl; have hcz31_2 : w27.cell? ⟨gb341, 2, none⟩ = some (.string (⟨#[]⟩ : ByteArray)) := (blk_cell BK341.out 2).trans rfl; have hcz31_3 : w27.cell? ⟨gb341, 3, none⟩ = some (.int .i64 0) := (blk_cell BK341.out 3).trans rfl; have hcz31_4 : w27.cell? ⟨gb341, 4, none⟩ = some (.bool false) := (blk_cell BK341.out 4).trans rfl; have hcz31_5 : w27.cell? ⟨gb341, 5, none⟩ = some (.string (⟨#[]⟩ : ByteArray)) := (blk_cell BK341.out 5).trans rfl; have hcz31_6 : w27.cell? ⟨gb341, 6, none⟩ = some (.bool false) := (blk_cell BK341.out 6).trans rfl; have hcz31_7 : w27.cell? ⟨gb341, 7, none⟩ = some (.int .i64 0) := (blk_cell BK341.out 7).trans rfl; have hcz31_8 : w27.cell? ⟨gb341, 8, none⟩ = some (.int .i64 0) := (blk_cell BK341.out 8).trans rfl; have hcz31_9 : w27.cell? ⟨gb341, 9, none⟩ = some (.int .i64 0) := (blk_cell BK341.out 9).trans rfl; have hcz31_10 : w27.cell? ⟨gb341, 10, none⟩ = some (.int .i64 0) := (blk_cell BK341.out 10).trans rfl; have hcz31_11 : w27.cell? ⟨gb341, 11, none⟩ = some (.int .i64 0) := (blk_cell BK341.out 11).trans rfl; have hcz31_12 : w27.cell? ⟨gb341, 12, none⟩ = some (.int .i64 0) := (blk_cell BK341.out 12).trans rfl; have hcz31_13 : w27.cell? ⟨gb341, 13, none⟩ = some (.int .i64 0) := (blk_cell BK341.out 13).trans rfl; have hcz31_14 : w27.cell? ⟨gb341, 14, none⟩ = some (.int .i64 0) := (blk_cell BK341.out 14).trans rfl; have hcz31_15 : w27.cell? ⟨gb341, 15, none⟩ = some (.int .i64 0) := (blk_cell BK341.out 15).trans rfl; have hcz31_16 : w27.cell? ⟨gb341, 16, none⟩ = some (.int .i64 0) := (blk_cell BK341.out 16).trans rfl; have hfz31_0 := blk_frozen BK341.out 0; have hfz31_1 := blk_frozen BK341.out 1; have hfz31_2 := blk_frozen BK341.out 2; have hfz31_3 := blk_frozen BK341.out 3; have hfz31_4 := blk_frozen BK341.out 4; have hfz31_5 := blk_frozen BK341.out 5; have hfz31_6 := blk_frozen BK341.out 6; have hfz31_7 := blk_frozen BK341.out 7; have hfz31_8 := blk_frozen BK341.out 8; have hfz31_9 := blk_frozen BK341.out 9; have hfz31_10 := blk_frozen BK341.out 10; have hfz31_11 := blk_frozen BK341.out 11; have hfz31_12 := blk_frozen BK341.out 12; have hfz31_13 := blk_frozen BK341.out 13; have hfz31_14 := blk_frozen BK341.out 14; have hfz31_15 := blk_frozen BK341.out 15; have hfz31_16 := blk_frozen BK341.out 16) | ((with_reducible refine gate_store (t := 27) (p := 12) rfl ?_); refine wpList_store_row rfl 27 _ _ rfl (gb341) #[.int .i64 t323, .bool t324, .string t325, .int .i64 t326, .bool t327, .string t328, .bool t329, .int .i64 t330, .int .i64 t331, .int .i64 t332, .int .i64 t333, .int .i64 t334, .int .i64 t335, .int .i64 t336, .int .i64 t337, .int .i64 t338, .int .i64 t339] rfl rfl 27 #[.int .i64 0, .bool false, .string (⟨#[]⟩ : ByteArray), .int .i64 0, .bool false, .string (⟨#[]⟩ : ByteArray), .bool false, .int .i64 0, .int .i64 0, .int .i64 0, .int .i64 0, .int .i64 0, .int .i64 0, .int .i64 0, .int .i64 0, .int .i64 0, .int .i64 0] (by (with_reducible repeat (first | refine blk_drewN ?_ _ | refine blk_drew ?_ | refine blk_alloc ?_ _)); exact BK341.out) (by kernel_rfl) rfl (by simp [Value.oneCell']) ?_; obtain ⟨w32, hw⟩ : ∃ w_, w_ = World.setRow w27 gb341 #[.int .i64 t323, .bool t324, .string t325, .int .i64 t326, .bool t327, .string t328, .bool t329, .int .i64 t330, .int .i64 t331, .int .i64 t332, .int .i64 t333, .int .i64 t334, .int .i64 t335, .int .i64 t336, .int .i64 t337, .int .i64 t338, .int .i64 t339] := ⟨_, rfl⟩; rw [← hw]; have n0_ : Aside0 (w32.heap[gb300]? = some (.cells #[.int .i64 2, .int .i64 5, .int .i64 0, .int .i64 0, .int .i64 a0] 25 (0, 0))) := ⟨(by rw [hw]; exact ((setRow_other w27 _ _ _ NB300_341.out).trans (show w27.heap[gb300]? = some (.cells #[.int .i64 2, .int .i64 5, .int .i64 0, .int .i64 0, .int .i64 a0] 25 (0, 0)) from by (with_reducible repeat (first | refine blk_drewN ?_ _ | refine blk_drew ?_ | refine blk_alloc ?_ _)); exact BK300.out)))⟩; have n1_ : Aside0 (w32.heap[gb301]? = some (.cells #[.int .i64 0, .bool false, .string (⟨#[65, 65, 65]⟩ : ByteArray), .int .i64 0, .bool true, .string (⟨#[66, 66, 66]⟩ : ByteArray), .bool true, .int .i64 2, .int .i64 5, .int .i64 0, .int .i64 0, .int .i64 a0, .int .i64 2, .int .i64 5, .int .i64 0, .int .i64 0, .int .i64 a0] 27 (0, 0))) := ⟨(by rw [hw]; exact ((setRow_other w27 _ _ _ NB301_341.out).trans (show w27.heap[gb301]? = some (.cells #[.int .i64 0, .bool false, .string (⟨#[65, 65, 65]⟩ : ByteArray), .int .i64 0, .bool true, .string (⟨#[66, 66, 66]⟩ : ByteArray), .bool true, .int .i64 2, .int .i64 5, .int .i64 0, .int .i64 0, .int .i64 a0, .int .i64 2, .int .i64 5, .int .i64 0, .int .i64 0, .int .i64 a0] 27 (0, 0)) from by (with_reducible repeat (first | refine blk_drewN ?_ _ | refine blk_drew ?_ | refine blk_alloc ?_ _)); exact BK301.out)))⟩; have n2_ : Aside0 (w32.heap[gb322]? = some (.cells #[.int .i64 t304, .bool t305, .string t306, .int .i64 t307, .bool t308, .string t309, .bool t310, .int .i64 t311, .int .i64 t312, .int .i64 t313, .int .i64 t314, .int .i64 t315, .int .i64 t316, .int .i64 t317, .int .i64 t318, .int .i64 t319, .int .i64 t320] 27 (0, 0))) := ⟨(by rw [hw]; exact ((setRow_other w27 _ _ _ NB322_341.out).trans (show w27.heap[gb322]? = some (.cells #[.int .i64 t304, .bool t305, .string t306, .int .i64 t307, .bool t308, .string t309, .bool t310, .int .i64 t311, .int .i64 t312, .int .i64 t313, .int .i64 t314, .int .i64 t315, .int .i64 t316, .int .i64 t317, .int .i64 t318, .int .i64 t319, .int .i64 t320] 27 (0, 0)) from by (with_reducible repeat (first | refine blk_drewN ?_ _ | refine blk_drew ?_ | refine blk_alloc ?_ _)); exact BK322.out)))⟩; have n3_ : Aside0 (w32.heap[gb341]? = some (.cells #[.int .i64 t323, .bool t324, .string t325, .int .i64 t326, .bool t327, .string t328, .bool t329, .int .i64 t330, .int .i64 t331, .int .i64 t332, .int .i64 t333, .int .i64 t334, .int .i64 t335, .int .i64 t336, .int .i64 t337, .int .i64 t338, .int .i64 t339] 27 (0, 0))) := ⟨(by rw [hw]; exact (setRow_heap w27 gb341 #[.int .i64 0, .bool false, .string (⟨#[]⟩ : ByteArray), .int .i64 0, .bool false, .string (⟨#[]⟩ : ByteArray), .bool false, .int .i64 0, .int .i64 0, .int .i64 0, .int .i64 0, .int .i64 0, .int .i64 0, .int .i64 0, .int .i64 0, .int .i64 0, .int .i64 0] _ 27 (0, 0) (by (with_reducible repeat (first | refine blk_drewN ?_ _ | refine blk_drew ?_ | refine blk_alloc ?_ _)); exact BK341.out)))⟩; have n4_ : Aside0 (Below w.heap.size w w32) := ⟨(by rw [hw]; exact (Below.trans (show Below w.heap.size w w27 from by repeat (first | (with_reducible first | exact HB.out | apply below_alloc | apply pw_below_drewN | apply below_drew1 | refine below_set ?_ GE300.out | refine below_set ?_ GE301.out | refine below_set ?_ GE322.out | refine below_set ?_ GE341.out) | exact HB.out)) ⟨rfl, rfl, rfl, (by rw [size_setRow]; exact Nat.le_refl _), fun k_ hk_ => setRow_other _ _ _ _ (Nat.ne_of_lt (Nat.lt_of_lt_of_le hk_ GE341.out))⟩))⟩; clear hw; clear BK300; clear BK301; clear BK322; clear BK341; clear HB; have BK300 := n0_; have BK301 := n1_; have BK322 := n2_; have BK341 := n3_; have HB := n4_; clear n0_ n1_ n2_ n3_ n4_))
          (try simp only [Act.put, List.setIfInBounds_toArray, List.set_cons_zero, List.set_cons_succ])
          go_cut [64] (fun v64 wc => ∃ (kq : Nat) (x64_17 : Bool), v64 = .bool x64_17 ∧ Aside0 (longcaselaw08_PosixTimes.j2 kq t299 x6_2 x7_12 t302 t321 t340 x64_17 0 false (⟨#[65, 65, 65]⟩ : ByteArray) 0 true (⟨#[66, 66, 66]⟩ : ByteArray) true 2 5 0 0 a0 2 5 0 0 a0 t304 t305 t306 t307 t308 t309 t310 t311 t312 t313 t314 t315 t316 t317 t318 t319 t320 = some r) ∧ Aside0 (kq ≤ kj12) ∧ Aside0 (wc.heap[gb300]? = some (.cells #[.int .i64 2, .int .i64 5, .int .i64 0, .int .i64 0, .int .i64 a0] 25 (0, 0))) ∧ Aside0 (wc.heap[gb301]? = some (.cells #[.int .i64 0, .bool false, .string (⟨#[65, 65, 65]⟩ : ByteArray), .int .i64 0, .bool true, .string (⟨#[66, 66, 66]⟩ : ByteArray), .bool true, .int .i64 2, .int .i64 5, .int .i64 0, .int .i64 0, .int .i64 a0, .int .i64 2, .int .i64 5, .int .i64 0, .int .i64 0, .int .i64 a0] 27 (0, 0))) ∧ Aside0 (wc.heap[gb322]? = some (.cells #[.int .i64 t304, .bool t305, .string t306, .int .i64 t307, .bool t308, .string t309, .bool t310, .int .i64 t311, .int .i64 t312, .int .i64 t313, .int .i64 t314, .int .i64 t315, .int .i64 t316, .int .i64 t317, .int .i64 t318, .int .i64 t319, .int .i64 t320] 27 (0, 0))) ∧ Aside0 (wc.heap[gb341]? = some (.cells #[.int .i64 t323, .bool t324, .string t325, .int .i64 t326, .bool t327, .string t328, .bool t329, .int .i64 t330, .int .i64 t331, .int .i64 t332, .int .i64 t333, .int .i64 t334, .int .i64 t335, .int .i64 t336, .int .i64 t337, .int .i64 t338, .int .i64 t339] 27 (0, 0))) ∧ Aside0 (Below w.heap.size w wc))
          case first =>
            have H := HC18.out
            clear HC18
            replace H := Option.bind_eq_some_iff.mp H
            obtain ⟨t342, A330, H⟩ := H
            replace H : (if (t342 != x6_2) = true then (longcaselaw08_PosixTimes.j2 kj12 t299 x6_2 x7_12 t302 t321 t340 true 0 false (⟨#[65, 65, 65]⟩ : ByteArray) 0 true (⟨#[66, 66, 66]⟩ : ByteArray) true 2 5 0 0 a0 2 5 0 0 a0 t304 t305 t306 t307 t308 t309 t310 t311 t312 t313 t314 t315 t316 t317 t318 t319 t320) else ((posix_Right.f kj12 0 false (⟨#[65, 65, 65]⟩ : ByteArray) 0 true (⟨#[66, 66, 66]⟩ : ByteArray) true 2 5 0 0 a0 2 5 0 0 a0 false).bind fun t343 => (if (t343 != x7_12) = true then (longcaselaw08_PosixTimes.j2 kj12 t299 x6_2 x7_12 t302 t321 t340 true 0 false (⟨#[65, 65, 65]⟩ : ByteArray) 0 true (⟨#[66, 66, 66]⟩ : ByteArray) true 2 5 0 0 a0 2 5 0 0 a0 t304 t305 t306 t307 t308 t309 t310 t311 t312 t313 t314 t315 t316 t317 t318 t319 t320) else (longcaselaw08_PosixTimes.j2 kj12 t299 x6_2 x7_12 t302 t321 t340 ((t303 == 0) != x6_2) 0 false (⟨#[65, 65, 65]⟩ : ByteArray) 0 true (⟨#[66, 66, 66]⟩ : ByteArray) true 2 5 0 0 a0 2 5 0 0 a0 t304 t305 t306 t307 t308 t309 t310 t311 t312 t313 t314 t315 t316 t317 t318 t319 t320)))) = some r := H
            have A33 := Aside0.mk A330
            clear A330
            by_cases c34 : (t342 != x6_2) = true
            · rw [if_pos c34] at H
              have c34b0 : (t342 != x6_2) = true := c34
              (try (have c34b1 : decide (t342 = x6_2) = false := by simpa using c34))
              (try (have c34b2 : (t342 == x6_2) = false := by simpa using c34))
              (try (have c34b3 : ¬ (t342 = x6_2) := by simpa using c34))
              clear c34
              (first | rw [c34b0] | (simp only [i64_w, i32_w]; rw [c34b0]) | skip)
              have H' := Aside0.mk H
              clear H
              go_wp2_with (first | ((with_reducible refine gate_dst (N := 49) rfl ?_); refine wpList_load_row rfl 27 _ rfl (gb301) rfl 27 #[.int .i64 0, .bool false, .string (⟨#[65, 65, 65]⟩ : ByteArray), .int .i64 0, .bool true, .string (⟨#[66, 66, 66]⟩ : ByteArray), .bool true, .int .i64 2, .int .i64 5, .int .i64 0, .int .i64 0, .int .i64 a0, .int .i64 2, .int .i64 5, .int .i64 0, .int .i64 0, .int .i64 a0] (0, 0) _ (by (with_reducible repeat (first | refine blk_drewN ?_ _ | refine blk_drew ?_ | refine blk_alloc ?_ _)); exact BK301.out) Tryd.underlying27 rfl (by kernel_rfl) ?_) | ((with_reducible refine gate_callee (f := 16) rfl ?_); refine goesL_ (some 50) rfl rfl Tryd.func16 (by kernel_rfl) rfl #[.agg #[.int .i64 0, .bool false, .string (⟨#[65, 65, 65]⟩ : ByteArray), .int .i64 0, .bool true, .string (⟨#[66, 66, 66]⟩ : ByteArray), .bool true, .int .i64 2, .int .i64 5, .int .i64 0, .int .i64 0, .int .i64 a0, .int .i64 2, .int .i64 5, .int .i64 0, .int .i64 0, .int .i64 a0], .bool true] rfl (by (try simp only [List.map_toArray, List.map_cons, List.map_nil]); first | done | rfl | (simp only [List.length_drop, List.length_take]; rfl)) ?_; (with_reducible refine (posix_Right.calls kj12 0 false (⟨#[65, 65, 65]⟩ : ByteArray) 0 true (⟨#[66, 66, 66]⟩ : ByteArray) true 2 5 0 0 a0 2 5 0 0 a0 true t342 _ A33.out).mono ?_); rintro e w35 ⟨rfl, hb⟩; refine ⟨_, rfl, ?_⟩; have n0_ := Aside0.mk (blk_below (g := gb300) (o := .cells #[.int .i64 2, .int .i64 5, .int .i64 0, .int .i64 0, .int .i64 a0] 25 (0, 0)) (by (with_reducible repeat (first | refine blk_drewN ?_ _ | refine blk_drew ?_ | refine blk_alloc ?_ _)); exact BK300.out) hb); have n1_ := Aside0.mk (blk_below (g := gb301) (o := .cells #[.int .i64 0, .bool false, .string (⟨#[65, 65, 65]⟩ : ByteArray), .int .i64 0, .bool true, .string (⟨#[66, 66, 66]⟩ : ByteArray), .bool true, .int .i64 2, .int .i64 5, .int .i64 0, .int .i64 0, .int .i64 a0, .int .i64 2, .int .i64 5, .int .i64 0, .int .i64 0, .int .i64 a0] 27 (0, 0)) (by (with_reducible repeat (first | refine blk_drewN ?_ _ | refine blk_drew ?_ | refine blk_alloc ?_ _)); exact BK301.out) hb); have n2_ := Aside0.mk (blk_below (g := gb322) (o := .cells #[.int .i64 t304, .bool t305, .string t306, .int .i64 t307, .bool t308, .string t309, .bool t310, .int .i64 t311, .int .i64 t312, .int .i64 t313, .int .i64 t314, .int .i64 t315, .int .i64 t316, .int .i64 t317, .int .i64 t318, .int .i64 t319, .int .i64 t320] 27 (0, 0)) (by (with_reducible repeat (first | refine blk_drewN ?_ _ | refine blk_drew ?_ | refine blk_alloc ?_ _)); exact BK322.out) hb); have n3_ := Aside0.mk (blk_below (g := gb341) (o := .cells #[.int .i64 t323, .bool t324, .string t325, .int .i64 t326, .bool t327, .string t328, .bool t329, .int .i64 t330, .int .i64 t331, .int .i64 t332, .int .i64 t333, .int .i64 t334, .int .i64 t335, .int .i64 t336, .int .i64 t337, .int .i64 t338, .int .i64 t339] 27 (0, 0)) (by (with_reducible repeat (first | refine blk_drewN ?_ _ | refine blk_drew ?_ | refine blk_alloc ?_ _)); exact BK341.out) hb); have n4_ := Aside0.mk (below_step (by repeat (first | (with_reducible first | exact HB.out | apply below_alloc | apply pw_below_drewN | apply below_drew1 | refine below_set ?_ GE300.out | refine below_set ?_ GE301.out | refine below_set ?_ GE322.out | refine below_set ?_ GE341.out) | exact HB.out)) hb); clear BK300; clear BK301; clear BK322; clear BK341; clear HB; have BK300 := n0_; have BK301 := n1_; have BK322 := n2_; have BK341 := n3_; have HB := n4_; clear n0_ n1_ n2_ n3_ n4_; (try clear hb); (try clear hb2); (try clear hk); (try clear hi)))
              go_meet
              case rel => exact ⟨_, (true), (by first | rfl | (simp; done) | (simp [*]; done)), H', ⟨by have := HJ2.out; have := HJ12.out; first | omega | exact Nat.le_refl _⟩, ⟨by (with_reducible repeat (first | refine blk_drewN ?_ _ | refine blk_drew ?_ | refine blk_alloc ?_ _)); exact BK300.out⟩, ⟨by (with_reducible repeat (first | refine blk_drewN ?_ _ | refine blk_drew ?_ | refine blk_alloc ?_ _)); exact BK301.out⟩, ⟨by (with_reducible repeat (first | refine blk_drewN ?_ _ | refine blk_drew ?_ | refine blk_alloc ?_ _)); exact BK322.out⟩, ⟨by (with_reducible repeat (first | refine blk_drewN ?_ _ | refine blk_drew ?_ | refine blk_alloc ?_ _)); exact BK341.out⟩, ⟨by repeat (first | (with_reducible first | exact HB.out | apply below_alloc | apply pw_below_drewN | apply below_drew1 | refine below_set ?_ GE300.out | refine below_set ?_ GE301.out | refine below_set ?_ GE322.out | refine below_set ?_ GE341.out) | exact HB.out)⟩⟩
            · rw [if_neg c34] at H
              have c34b0 : (t342 != x6_2) = false := by simpa using c34
              (try (have c34b1 : decide (t342 = x6_2) = true := by simpa using c34))
              (try (have c34b2 : (t342 == x6_2) = true := by simpa using c34))
              clear c34
              (first | rw [c34b0] | (simp only [i64_w, i32_w]; rw [c34b0]) | skip)
              replace H := Option.bind_eq_some_iff.mp H
              obtain ⟨t343, A360, H⟩ := H
              replace H : (if (t343 != x7_12) = true then (longcaselaw08_PosixTimes.j2 kj12 t299 x6_2 x7_12 t302 t321 t340 true 0 false (⟨#[65, 65, 65]⟩ : ByteArray) 0 true (⟨#[66, 66, 66]⟩ : ByteArray) true 2 5 0 0 a0 2 5 0 0 a0 t304 t305 t306 t307 t308 t309 t310 t311 t312 t313 t314 t315 t316 t317 t318 t319 t320) else (longcaselaw08_PosixTimes.j2 kj12 t299 x6_2 x7_12 t302 t321 t340 ((t303 == 0) != x6_2) 0 false (⟨#[65, 65, 65]⟩ : ByteArray) 0 true (⟨#[66, 66, 66]⟩ : ByteArray) true 2 5 0 0 a0 2 5 0 0 a0 t304 t305 t306 t307 t308 t309 t310 t311 t312 t313 t314 t315 t316 t317 t318 t319 t320)) = some r := H
              have A36 := Aside0.mk A360
              clear A360
              by_cases c37 : (t343 != x7_12) = true
              · rw [if_pos c37] at H
                have c37b0 : (t343 != x7_12) = true := c37
                (try (have c37b1 : decide (t343 = x7_12) = false := by simpa using c37))
                (try (have c37b2 : (t343 == x7_12) = false := by simpa using c37))
                (try (have c37b3 : ¬ (t343 = x7_12) := by simpa using c37))
                clear c37
                have H' := Aside0.mk H
                clear H
                go_wp2_with (first | ((with_reducible refine gate_dst (N := 49) rfl ?_); refine wpList_load_row rfl 27 _ rfl (gb301) rfl 27 #[.int .i64 0, .bool false, .string (⟨#[65, 65, 65]⟩ : ByteArray), .int .i64 0, .bool true, .string (⟨#[66, 66, 66]⟩ : ByteArray), .bool true, .int .i64 2, .int .i64 5, .int .i64 0, .int .i64 0, .int .i64 a0, .int .i64 2, .int .i64 5, .int .i64 0, .int .i64 0, .int .i64 a0] (0, 0) _ (by (with_reducible repeat (first | refine blk_drewN ?_ _ | refine blk_drew ?_ | refine blk_alloc ?_ _)); exact BK301.out) Tryd.underlying27 rfl (by kernel_rfl) ?_) | ((with_reducible refine gate_callee (f := 16) rfl ?_); refine goesL_ (some 50) rfl rfl Tryd.func16 (by kernel_rfl) rfl #[.agg #[.int .i64 0, .bool false, .string (⟨#[65, 65, 65]⟩ : ByteArray), .int .i64 0, .bool true, .string (⟨#[66, 66, 66]⟩ : ByteArray), .bool true, .int .i64 2, .int .i64 5, .int .i64 0, .int .i64 0, .int .i64 a0, .int .i64 2, .int .i64 5, .int .i64 0, .int .i64 0, .int .i64 a0], .bool true] rfl (by (try simp only [List.map_toArray, List.map_cons, List.map_nil]); first | done | rfl | (simp only [List.length_drop, List.length_take]; rfl)) ?_; (with_reducible refine (posix_Right.calls kj12 0 false (⟨#[65, 65, 65]⟩ : ByteArray) 0 true (⟨#[66, 66, 66]⟩ : ByteArray) true 2 5 0 0 a0 2 5 0 0 a0 true t342 _ A33.out).mono ?_); rintro e w38 ⟨rfl, hb⟩; refine ⟨_, rfl, ?_⟩; have n0_ := Aside0.mk (blk_below (g := gb300) (o := .cells #[.int .i64 2, .int .i64 5, .int .i64 0, .int .i64 0, .int .i64 a0] 25 (0, 0)) (by (with_reducible repeat (first | refine blk_drewN ?_ _ | refine blk_drew ?_ | refine blk_alloc ?_ _)); exact BK300.out) hb); have n1_ := Aside0.mk (blk_below (g := gb301) (o := .cells #[.int .i64 0, .bool false, .string (⟨#[65, 65, 65]⟩ : ByteArray), .int .i64 0, .bool true, .string (⟨#[66, 66, 66]⟩ : ByteArray), .bool true, .int .i64 2, .int .i64 5, .int .i64 0, .int .i64 0, .int .i64 a0, .int .i64 2, .int .i64 5, .int .i64 0, .int .i64 0, .int .i64 a0] 27 (0, 0)) (by (with_reducible repeat (first | refine blk_drewN ?_ _ | refine blk_drew ?_ | refine blk_alloc ?_ _)); exact BK301.out) hb); have n2_ := Aside0.mk (blk_below (g := gb322) (o := .cells #[.int .i64 t304, .bool t305, .string t306, .int .i64 t307, .bool t308, .string t309, .bool t310, .int .i64 t311, .int .i64 t312, .int .i64 t313, .int .i64 t314, .int .i64 t315, .int .i64 t316, .int .i64 t317, .int .i64 t318, .int .i64 t319, .int .i64 t320] 27 (0, 0)) (by (with_reducible repeat (first | refine blk_drewN ?_ _ | refine blk_drew ?_ | refine blk_alloc ?_ _)); exact BK322.out) hb); have n3_ := Aside0.mk (blk_below (g := gb341) (o := .cells #[.int .i64 t323, .bool t324, .string t325, .int .i64 t326, .bool t327, .string t328, .bool t329, .int .i64 t330, .int .i64 t331, .int .i64 t332, .int .i64 t333, .int .i64 t334, .int .i64 t335, .int .i64 t336, .int .i64 t337, .int .i64 t338, .int .i64 t339] 27 (0, 0)) (by (with_reducible repeat (first | refine blk_drewN ?_ _ | refine blk_drew ?_ | refine blk_alloc ?_ _)); exact BK341.out) hb); have n4_ := Aside0.mk (below_step (by repeat (first | (with_reducible first | exact HB.out | apply below_alloc | apply pw_below_drewN | apply below_drew1 | refine below_set ?_ GE300.out | refine below_set ?_ GE301.out | refine below_set ?_ GE322.out | refine below_set ?_ GE341.out) | exact HB.out)) hb); clear BK300; clear BK301; clear BK322; clear BK341; clear HB; have BK300 := n0_; have BK301 := n1_; have BK322 := n2_; have BK341 := n3_; have HB := n4_; clear n0_ n1_ n2_ n3_ n4_; (try clear hb); (try clear hb2); (try clear hk); (try clear hi)) | ((with_reducible refine gate_dst (N := 54) rfl ?_); refine gate_guard (by kernel_rfl) ?_; dsimp only; refine wpList_load_row rfl 27 _ rfl (gb301) rfl 27 #[.int .i64 0, .bool false, .string (⟨#[65, 65, 65]⟩ : ByteArray), .int .i64 0, .bool true, .string (⟨#[66, 66, 66]⟩ : ByteArray), .bool true, .int .i64 2, .int .i64 5, .int .i64 0, .int .i64 0, .int .i64 a0, .int .i64 2, .int .i64 5, .int .i64 0, .int .i64 0, .int .i64 a0] (0, 0) _ (by (with_reducible repeat (first | refine blk_drewN ?_ _ | refine blk_drew ?_ | refine blk_alloc ?_ _)); exact BK301.out) Tryd.underlying27 rfl (by kernel_rfl) ?_) | (go_at_call 16; (with_reducible refine (posix_Right.calls kj12 0 false (⟨#[65, 65, 65]⟩ : ByteArray) 0 true (⟨#[66, 66, 66]⟩ : ByteArray) true 2 5 0 0 a0 2 5 0 0 a0 false t343 _ A36.out).mono ?_); rintro e w39 ⟨rfl, hb⟩; have n0_ := Aside0.mk (blk_below (g := gb300) (o := .cells #[.int .i64 2, .int .i64 5, .int .i64 0, .int .i64 0, .int .i64 a0] 25 (0, 0)) (by (with_reducible repeat (first | refine blk_drewN ?_ _ | refine blk_drew ?_ | refine blk_alloc ?_ _)); exact BK300.out) hb); have n1_ := Aside0.mk (blk_below (g := gb301) (o := .cells #[.int .i64 0, .bool false, .string (⟨#[65, 65, 65]⟩ : ByteArray), .int .i64 0, .bool true, .string (⟨#[66, 66, 66]⟩ : ByteArray), .bool true, .int .i64 2, .int .i64 5, .int .i64 0, .int .i64 0, .int .i64 a0, .int .i64 2, .int .i64 5, .int .i64 0, .int .i64 0, .int .i64 a0] 27 (0, 0)) (by (with_reducible repeat (first | refine blk_drewN ?_ _ | refine blk_drew ?_ | refine blk_alloc ?_ _)); exact BK301.out) hb); have n2_ := Aside0.mk (blk_below (g := gb322) (o := .cells #[.int .i64 t304, .bool t305, .string t306, .int .i64 t307, .bool t308, .string t309, .bool t310, .int .i64 t311, .int .i64 t312, .int .i64 t313, .int .i64 t314, .int .i64 t315, .int .i64 t316, .int .i64 t317, .int .i64 t318, .int .i64 t319, .int .i64 t320] 27 (0, 0)) (by (with_reducible repeat (first | refine blk_drewN ?_ _ | refine blk_drew ?_ | refine blk_alloc ?_ _)); exact BK322.out) hb); have n3_ := Aside0.mk (blk_below (g := gb341) (o := .cells #[.int .i64 t323, .bool t324, .string t325, .int .i64 t326, .bool t327, .string t328, .bool t329, .int .i64 t330, .int .i64 t331, .int .i64 t332, .int .i64 t333, .int .i64 t334, .int .i64 t335, .int .i64 t336, .int .i64 t337, .int .i64 t338, .int .i64 t339] 27 (0, 0)) (by (with_reducible repeat (first | refine blk_drewN ?_ _ | refine blk_drew ?_ | refine blk_alloc ?_ _)); exact BK341.out) hb); have n4_ := Aside0.mk (below_step (by repeat (first | (with_reducible first | exact HB.out | apply below_alloc | apply pw_below_drewN | apply below_drew1 | refine below_set ?_ GE300.out | refine below_set ?_ GE301.out | refine below_set ?_ GE322.out | refine below_set ?_ GE341.out) | exact HB.out)) hb); clear BK300; clear BK301; clear BK322; clear BK341; clear HB; have BK300 := n0_; have BK301 := n1_; have BK322 := n2_; have BK341 := n3_; have HB := n4_; clear n0_ n1_ n2_ n3_ n4_; (try clear hb); (try clear hb2); (try clear hk); (try clear hi)))
                go_meet
                case rel => exact ⟨_, (true), (by first | rfl | (simp; done) | (simp [*]; done)), H', ⟨by have := HJ2.out; have := HJ12.out; first | omega | exact Nat.le_refl _⟩, ⟨by (with_reducible repeat (first | refine blk_drewN ?_ _ | refine blk_drew ?_ | refine blk_alloc ?_ _)); exact BK300.out⟩, ⟨by (with_reducible repeat (first | refine blk_drewN ?_ _ | refine blk_drew ?_ | refine blk_alloc ?_ _)); exact BK301.out⟩, ⟨by (with_reducible repeat (first | refine blk_drewN ?_ _ | refine blk_drew ?_ | refine blk_alloc ?_ _)); exact BK322.out⟩, ⟨by (with_reducible repeat (first | refine blk_drewN ?_ _ | refine blk_drew ?_ | refine blk_alloc ?_ _)); exact BK341.out⟩, ⟨by repeat (first | (with_reducible first | exact HB.out | apply below_alloc | apply pw_below_drewN | apply below_drew1 | refine below_set ?_ GE300.out | refine below_set ?_ GE301.out | refine below_set ?_ GE322.out | refine below_set ?_ GE341.out) | exact HB.out)⟩⟩
              · rw [if_neg c37] at H
                have c37b0 : (t343 != x7_12) = false := by simpa using c37
                (try (have c37b1 : decide (t343 = x7_12) = true := by simpa using c37))
                (try (have c37b2 : (t343 == x7_12) = true := by simpa using c37))
                clear c37
                have H' := Aside0.mk H
                clear H
                go_wp2_with (first | ((with_reducible refine gate_dst (N := 49) rfl ?_); refine wpList_load_row rfl 27 _ rfl (gb301) rfl 27 #[.int .i64 0, .bool false, .string (⟨#[65, 65, 65]⟩ : ByteArray), .int .i64 0, .bool true, .string (⟨#[66, 66, 66]⟩ : ByteArray), .bool true, .int .i64 2, .int .i64 5, .int .i64 0, .int .i64 0, .int .i64 a0, .int .i64 2, .int .i64 5, .int .i64 0, .int .i64 0, .int .i64 a0] (0, 0) _ (by (with_reducible repeat (first | refine blk_drewN ?_ _ | refine blk_drew ?_ | refine blk_alloc ?_ _)); exact BK301.out) Tryd.underlying27 rfl (by kernel_rfl) ?_) | ((with_reducible refine gate_callee (f := 16) rfl ?_); refine goesL_ (some 50) rfl rfl Tryd.func16 (by kernel_rfl) rfl #[.agg #[.int .i64 0, .bool false, .string (⟨#[65, 65, 65]⟩ : ByteArray), .int .i64 0, .bool true, .string (⟨#[66, 66, 66]⟩ : ByteArray), .bool true, .int .i64 2, .int .i64 5, .int .i64 0, .int .i64 0, .int .i64 a0, .int .i64 2, .int .i64 5, .int .i64 0, .int .i64 0, .int .i64 a0], .bool true] rfl (by (try simp only [List.map_toArray, List.map_cons, List.map_nil]); first | done | rfl | (simp only [List.length_drop, List.length_take]; rfl)) ?_; (with_reducible refine (posix_Right.calls kj12 0 false (⟨#[65, 65, 65]⟩ : ByteArray) 0 true (⟨#[66, 66, 66]⟩ : ByteArray) true 2 5 0 0 a0 2 5 0 0 a0 true t342 _ A33.out).mono ?_); rintro e w40 ⟨rfl, hb⟩; refine ⟨_, rfl, ?_⟩; have n0_ := Aside0.mk (blk_below (g := gb300) (o := .cells #[.int .i64 2, .int .i64 5, .int .i64 0, .int .i64 0, .int .i64 a0] 25 (0, 0)) (by (with_reducible repeat (first | refine blk_drewN ?_ _ | refine blk_drew ?_ | refine blk_alloc ?_ _)); exact BK300.out) hb); have n1_ := Aside0.mk (blk_below (g := gb301) (o := .cells #[.int .i64 0, .bool false, .string (⟨#[65, 65, 65]⟩ : ByteArray), .int .i64 0, .bool true, .string (⟨#[66, 66, 66]⟩ : ByteArray), .bool true, .int .i64 2, .int .i64 5, .int .i64 0, .int .i64 0, .int .i64 a0, .int .i64 2, .int .i64 5, .int .i64 0, .int .i64 0, .int .i64 a0] 27 (0, 0)) (by (with_reducible repeat (first | refine blk_drewN ?_ _ | refine blk_drew ?_ | refine blk_alloc ?_ _)); exact BK301.out) hb); have n2_ := Aside0.mk (blk_below (g := gb322) (o := .cells #[.int .i64 t304, .bool t305, .string t306, .int .i64 t307, .bool t308, .string t309, .bool t310, .int .i64 t311, .int .i64 t312, .int .i64 t313, .int .i64 t314, .int .i64 t315, .int .i64 t316, .int .i64 t317, .int .i64 t318, .int .i64 t319, .int .i64 t320] 27 (0, 0)) (by (with_reducible repeat (first | refine blk_drewN ?_ _ | refine blk_drew ?_ | refine blk_alloc ?_ _)); exact BK322.out) hb); have n3_ := Aside0.mk (blk_below (g := gb341) (o := .cells #[.int .i64 t323, .bool t324, .string t325, .int .i64 t326, .bool t327, .string t328, .bool t329, .int .i64 t330, .int .i64 t331, .int .i64 t332, .int .i64 t333, .int .i64 t334, .int .i64 t335, .int .i64 t336, .int .i64 t337, .int .i64 t338, .int .i64 t339] 27 (0, 0)) (by (with_reducible repeat (first | refine blk_drewN ?_ _ | refine blk_drew ?_ | refine blk_alloc ?_ _)); exact BK341.out) hb); have n4_ := Aside0.mk (below_step (by repeat (first | (with_reducible first | exact HB.out | apply below_alloc | apply pw_below_drewN | apply below_drew1 | refine below_set ?_ GE300.out | refine below_set ?_ GE301.out | refine below_set ?_ GE322.out | refine below_set ?_ GE341.out) | exact HB.out)) hb); clear BK300; clear BK301; clear BK322; clear BK341; clear HB; have BK300 := n0_; have BK301 := n1_; have BK322 := n2_; have BK341 := n3_; have HB := n4_; clear n0_ n1_ n2_ n3_ n4_; (try clear hb); (try clear hb2); (try clear hk); (try clear hi)) | ((with_reducible refine gate_dst (N := 54) rfl ?_); refine gate_guard (by kernel_rfl) ?_; dsimp only; refine wpList_load_row rfl 27 _ rfl (gb301) rfl 27 #[.int .i64 0, .bool false, .string (⟨#[65, 65, 65]⟩ : ByteArray), .int .i64 0, .bool true, .string (⟨#[66, 66, 66]⟩ : ByteArray), .bool true, .int .i64 2, .int .i64 5, .int .i64 0, .int .i64 0, .int .i64 a0, .int .i64 2, .int .i64 5, .int .i64 0, .int .i64 0, .int .i64 a0] (0, 0) _ (by (with_reducible repeat (first | refine blk_drewN ?_ _ | refine blk_drew ?_ | refine blk_alloc ?_ _)); exact BK301.out) Tryd.underlying27 rfl (by kernel_rfl) ?_) | (go_at_call 16; (with_reducible refine (posix_Right.calls kj12 0 false (⟨#[65, 65, 65]⟩ : ByteArray) 0 true (⟨#[66, 66, 66]⟩ : ByteArray) true 2 5 0 0 a0 2 5 0 0 a0 false t343 _ A36.out).mono ?_); rintro e w41 ⟨rfl, hb⟩; have n0_ := Aside0.mk (blk_below (g := gb300) (o := .cells #[.int .i64 2, .int .i64 5, .int .i64 0, .int .i64 0, .int .i64 a0] 25 (0, 0)) (by (with_reducible repeat (first | refine blk_drewN ?_ _ | refine blk_drew ?_ | refine blk_alloc ?_ _)); exact BK300.out) hb); have n1_ := Aside0.mk (blk_below (g := gb301) (o := .cells #[.int .i64 0, .bool false, .string (⟨#[65, 65, 65]⟩ : ByteArray), .int .i64 0, .bool true, .string (⟨#[66, 66, 66]⟩ : ByteArray), .bool true, .int .i64 2, .int .i64 5, .int .i64 0, .int .i64 0, .int .i64 a0, .int .i64 2, .int .i64 5, .int .i64 0, .int .i64 0, .int .i64 a0] 27 (0, 0)) (by (with_reducible repeat (first | refine blk_drewN ?_ _ | refine blk_drew ?_ | refine blk_alloc ?_ _)); exact BK301.out) hb); have n2_ := Aside0.mk (blk_below (g := gb322) (o := .cells #[.int .i64 t304, .bool t305, .string t306, .int .i64 t307, .bool t308, .string t309, .bool t310, .int .i64 t311, .int .i64 t312, .int .i64 t313, .int .i64 t314, .int .i64 t315, .int .i64 t316, .int .i64 t317, .int .i64 t318, .int .i64 t319, .int .i64 t320] 27 (0, 0)) (by (with_reducible repeat (first | refine blk_drewN ?_ _ | refine blk_drew ?_ | refine blk_alloc ?_ _)); exact BK322.out) hb); have n3_ := Aside0.mk (blk_below (g := gb341) (o := .cells #[.int .i64 t323, .bool t324, .string t325, .int .i64 t326, .bool t327, .string t328, .bool t329, .int .i64 t330, .int .i64 t331, .int .i64 t332, .int .i64 t333, .int .i64 t334, .int .i64 t335, .int .i64 t336, .int .i64 t337, .int .i64 t338, .int .i64 t339] 27 (0, 0)) (by (with_reducible repeat (first | refine blk_drewN ?_ _ | refine blk_drew ?_ | refine blk_alloc ?_ _)); exact BK341.out) hb); have n4_ := Aside0.mk (below_step (by repeat (first | (with_reducible first | exact HB.out | apply below_alloc | apply pw_below_drewN | apply below_drew1 | refine below_set ?_ GE300.out | refine below_set ?_ GE301.out | refine below_set ?_ GE322.out | refine below_set ?_ GE341.out) | exact HB.out)) hb); clear BK300; clear BK301; clear BK322; clear BK341; clear HB; have BK300 := n0_; have BK301 := n1_; have BK322 := n2_; have BK341 := n3_; have HB := n4_; clear n0_ n1_ n2_ n3_ n4_; (try clear hb); (try clear hb2); (try clear hk); (try clear hi)))
                go_meet
                case rel => exact ⟨_, (((t303 == 0) != x6_2)), (by first | rfl | (simp; done) | (simp [*]; done)), H', ⟨by have := HJ2.out; have := HJ12.out; first | omega | exact Nat.le_refl _⟩, ⟨by (with_reducible repeat (first | refine blk_drewN ?_ _ | refine blk_drew ?_ | refine blk_alloc ?_ _)); exact BK300.out⟩, ⟨by (with_reducible repeat (first | refine blk_drewN ?_ _ | refine blk_drew ?_ | refine blk_alloc ?_ _)); exact BK301.out⟩, ⟨by (with_reducible repeat (first | refine blk_drewN ?_ _ | refine blk_drew ?_ | refine blk_alloc ?_ _)); exact BK322.out⟩, ⟨by (with_reducible repeat (first | refine blk_drewN ?_ _ | refine blk_drew ?_ | refine blk_alloc ?_ _)); exact BK341.out⟩, ⟨by repeat (first | (with_reducible first | exact HB.out | apply below_alloc | apply pw_below_drewN | apply below_drew1 | refine below_set ?_ GE300.out | refine below_set ?_ GE301.out | refine below_set ?_ GE322.out | refine below_set ?_ GE341.out) | exact HB.out)⟩⟩
          case rest =>
            clear HC18
            try clear c1
            try clear c2
            try clear p2
            try clear c3
            try clear c9
            try clear c10
            try clear c12
            try clear c12b0
            try clear c13
            try clear c14
            try clear c14b0
            try clear c15
            try clear c16
            try clear c18
            try clear c22
            try clear c23
            try clear c28
            try clear c29
            try clear c30
            try clear c34
            try clear c34b0
            try clear c34b1
            try clear c34b2
            try clear c37
            try clear c37b0
            try clear c37b1
            try clear c37b2
            try clear hcz10_0
            try clear hcz10_1
            try clear hcz10_10
            try clear hcz10_11
            try clear hcz10_12
            try clear hcz10_13
            try clear hcz10_14
            try clear hcz10_15
            try clear hcz10_16
            try clear hcz10_2
            try clear hcz10_3
            try clear hcz10_4
            try clear hcz10_5
            try clear hcz10_6
            try clear hcz10_7
            try clear hcz10_8
            try clear hcz10_9
            try clear hcz24_0
            try clear hcz24_1
            try clear hcz24_10
            try clear hcz24_11
            try clear hcz24_12
            try clear hcz24_13
            try clear hcz24_14
            try clear hcz24_15
            try clear hcz24_16
            try clear hcz24_2
            try clear hcz24_3
            try clear hcz24_4
            try clear hcz24_5
            try clear hcz24_6
            try clear hcz24_7
            try clear hcz24_8
            try clear hcz24_9
            try clear hcz31_0
            try clear hcz31_1
            try clear hcz31_10
            try clear hcz31_11
            try clear hcz31_12
            try clear hcz31_13
            try clear hcz31_14
            try clear hcz31_15
            try clear hcz31_16
            try clear hcz31_2
            try clear hcz31_3
            try clear hcz31_4
            try clear hcz31_5
            try clear hcz31_6
            try clear hcz31_7
            try clear hcz31_8
            try clear hcz31_9
            try clear hcz6_0
            try clear hcz6_1
            try clear hcz6_2
            try clear hcz6_3
            try clear hcz6_4
            try clear hfz10_0
            try clear hfz10_1
            try clear hfz10_10
            try clear hfz10_11
            try clear hfz10_12
            try clear hfz10_13
            try clear hfz10_14
            try clear hfz10_15
            try clear hfz10_16
            try clear hfz10_2
            try clear hfz10_3
            try clear hfz10_4
            try clear hfz10_5
            try clear hfz10_6
            try clear hfz10_7
            try clear hfz10_8
            try clear hfz10_9
            try clear hfz24_0
            try clear hfz24_1
            try clear hfz24_10
            try clear hfz24_11
            try clear hfz24_12
            try clear hfz24_13
            try clear hfz24_14
            try clear hfz24_15
            try clear hfz24_16
            try clear hfz24_2
            try clear hfz24_3
            try clear hfz24_4
            try clear hfz24_5
            try clear hfz24_6
            try clear hfz24_7
            try clear hfz24_8
            try clear hfz24_9
            try clear hfz31_0
            try clear hfz31_1
            try clear hfz31_10
            try clear hfz31_11
            try clear hfz31_12
            try clear hfz31_13
            try clear hfz31_14
            try clear hfz31_15
            try clear hfz31_16
            try clear hfz31_2
            try clear hfz31_3
            try clear hfz31_4
            try clear hfz31_5
            try clear hfz31_6
            try clear hfz31_7
            try clear hfz31_8
            try clear hfz31_9
            try clear hfz6_0
            try clear hfz6_1
            try clear hfz6_2
            try clear hfz6_3
            try clear hfz6_4
            try clear p2
            obtain ⟨kq, x64_17, rfl, HA, HJ17, BK300, BK301, BK322, BK341, HB⟩ := hcut
            cases kq with
            | zero => exact absurd HA.out (by simp [longcaselaw08_PosixTimes.j2])
            | succ kj17 =>
              have H := HA.out
              clear HA
              simp only [longcaselaw08_PosixTimes.j2] at H
              by_cases c42 : x64_17 = true
              · subst c42
                have H1 : (some false) = some r := by rw [if_pos rfl] at H; exact H
                clear H
                have H := H1
                clear H1
                obtain rfl := Option.some.inj H
                go_wp2
                go_ret
                exact ⟨by first | rfl | (simp [errW_none, errW_some] <;> rfl) | (simp [*, errW_none, errW_some] <;> rfl), by repeat (first | (with_reducible first | exact HB.out | apply below_alloc | apply pw_below_drewN | apply below_drew1 | refine below_set ?_ GE300.out | refine below_set ?_ GE301.out | refine below_set ?_ GE322.out | refine below_set ?_ GE341.out) | exact HB.out)⟩
              · replace c42 := Bool.eq_false_iff.mpr c42
                subst c42
                have H1 : (if x6_2 = true then (if t299 = true then (if t321 = 0 then (if ((t304 == 0 && (t305 == false && (t306.toList == (⟨#[65, 65, 65]⟩ : ByteArray).toList))) && ((t307 == 0 && (t308 == true && (t309.toList == (⟨#[66, 66, 66]⟩ : ByteArray).toList))) && (t310 == true && ((t311 == 2 && (t312 == 5 && (t313 == 0 && (t314 == 0 && (t315 == a0))))) && ((t316 == 2 && (t317 == 5 && (t318 == 0 && (t319 == 0 && (t320 == a0)))))))))) = true then (some ((t340 == 0) == x7_12)) else (some false)) else (some false)) else (some false)) else (if t299 = true then (some (t302.toList == ([] : List UInt8))) else (some false))) = some r := by rw [if_neg (show ¬ (false = true) by decide)] at H; exact H
                clear H
                have H := H1
                clear H1
                by_cases c43 : x6_2 = true
                · subst c43
                  have H1 : (if t299 = true then (if t321 = 0 then (if ((t304 == 0 && (t305 == false && (t306.toList == (⟨#[65, 65, 65]⟩ : ByteArray).toList))) && ((t307 == 0 && (t308 == true && (t309.toList == (⟨#[66, 66, 66]⟩ : ByteArray).toList))) && (t310 == true && ((t311 == 2 && (t312 == 5 && (t313 == 0 && (t314 == 0 && (t315 == a0))))) && ((t316 == 2 && (t317 == 5 && (t318 == 0 && (t319 == 0 && (t320 == a0)))))))))) = true then (some ((t340 == 0) == x7_12)) else (some false)) else (some false)) else (some false)) = some r := by rw [if_pos rfl] at H; exact H
                  clear H
                  have H := H1
                  clear H1
                  by_cases c44 : t299 = true
                  · subst c44
                    have H1 : (if t321 = 0 then (if ((t304 == 0 && (t305 == false && (t306.toList == (⟨#[65, 65, 65]⟩ : ByteArray).toList))) && ((t307 == 0 && (t308 == true && (t309.toList == (⟨#[66, 66, 66]⟩ : ByteArray).toList))) && (t310 == true && ((t311 == 2 && (t312 == 5 && (t313 == 0 && (t314 == 0 && (t315 == a0))))) && ((t316 == 2 && (t317 == 5 && (t318 == 0 && (t319 == 0 && (t320 == a0)))))))))) = true then (some ((t340 == 0) == x7_12)) else (some false)) else (some false)) = some r := by rw [if_pos rfl] at H; exact H
                    clear H
                    have H := H1
                    clear H1
                    by_cases c45 : t321 = 0
                    · rw [if_pos c45] at H
                      have c45b0 : (t321 == 0) = true := beq_iff_eq.mpr c45
                      have c45b1 : (t321 != 0) = false := bne_eq_false_iff_eq.mpr c45
                      clear c45
                      by_cases c46 : ((t304 == 0 && (t305 == false && (t306.toList == (⟨#[65, 65, 65]⟩ : ByteArray).toList))) && ((t307 == 0 && (t308 == true && (t309.toList == (⟨#[66, 66, 66]⟩ : ByteArray).toList))) && (t310 == true && ((t311 == 2 && (t312 == 5 && (t313 == 0 && (t314 == 0 && (t315 == a0))))) && ((t316 == 2 && (t317 == 5 && (t318 == 0 && (t319 == 0 && (t320 == a0)))))))))) = true
                      · rw [if_pos c46] at H
                        have c46b0 : ((t304 == 0 && (t305 == false && (t306.toList == (⟨#[65, 65, 65]⟩ : ByteArray).toList))) && ((t307 == 0 && (t308 == true && (t309.toList == (⟨#[66, 66, 66]⟩ : ByteArray).toList))) && (t310 == true && ((t311 == 2 && (t312 == 5 && (t313 == 0 && (t314 == 0 && (t315 == a0))))) && ((t316 == 2 && (t317 == 5 && (t318 == 0 && (t319 == 0 && (t320 == a0)))))))))) = true := c46
                        clear c46
                        obtain rfl := Option.some.inj H
                        go_wp2_with (first | ((with_reducible refine gate_dst (N := 78) rfl ?_); refine gate_guard (by kernel_rfl) ?_; dsimp only; refine wpList_load_row rfl 27 _ rfl (gb322) rfl 27 #[.int .i64 t304, .bool t305, .string t306, .int .i64 t307, .bool t308, .string t309, .bool t310, .int .i64 t311, .int .i64 t312, .int .i64 t313, .int .i64 t314, .int .i64 t315, .int .i64 t316, .int .i64 t317, .int .i64 t318, .int .i64 t319, .int .i64 t320] (0, 0) _ (by (with_reducible repeat (first | refine blk_drewN ?_ _ | refine blk_drew ?_ | refine blk_alloc ?_ _)); exact BK322.out) Tryd.underlying27 rfl (by kernel_rfl) ?_) | ((with_reducible refine gate_dst (N := 79) rfl ?_); refine gate_guard (by kernel_rfl) ?_; dsimp only; refine wpList_load_row rfl 27 _ rfl (gb301) rfl 27 #[.int .i64 0, .bool false, .string (⟨#[65, 65, 65]⟩ : ByteArray), .int .i64 0, .bool true, .string (⟨#[66, 66, 66]⟩ : ByteArray), .bool true, .int .i64 2, .int .i64 5, .int .i64 0, .int .i64 0, .int .i64 a0, .int .i64 2, .int .i64 5, .int .i64 0, .int .i64 0, .int .i64 a0] (0, 0) _ (by (with_reducible repeat (first | refine blk_drewN ?_ _ | refine blk_drew ?_ | refine blk_alloc ?_ _)); exact BK301.out) Tryd.underlying27 rfl (by kernel_rfl) ?_))
                        all_goals (try (exfalso; rename_i hq_; first | exact absurd (by simpa using c46b0) hq_ | exact absurd hq_ (by simpa using c46b0) | exact absurd (by simpa using c45b0) hq_ | exact absurd hq_ (by simpa using c45b0)))
                        go_ret
                        exact ⟨by first | rfl | (simp [errW_none, errW_some] <;> rfl) | (simp [*, errW_none, errW_some] <;> rfl), by repeat (first | (with_reducible first | exact HB.out | apply below_alloc | apply pw_below_drewN | apply below_drew1 | refine below_set ?_ GE300.out | refine below_set ?_ GE301.out | refine below_set ?_ GE322.out | refine below_set ?_ GE341.out) | exact HB.out)⟩
                      · rw [if_neg c46] at H
                        have c46b0 : ((t304 == 0 && (t305 == false && (t306.toList == (⟨#[65, 65, 65]⟩ : ByteArray).toList))) && ((t307 == 0 && (t308 == true && (t309.toList == (⟨#[66, 66, 66]⟩ : ByteArray).toList))) && (t310 == true && ((t311 == 2 && (t312 == 5 && (t313 == 0 && (t314 == 0 && (t315 == a0))))) && ((t316 == 2 && (t317 == 5 && (t318 == 0 && (t319 == 0 && (t320 == a0)))))))))) = false := by simpa using c46
                        clear c46
                        obtain rfl := Option.some.inj H
                        go_wp2_with (first | ((with_reducible refine gate_dst (N := 78) rfl ?_); refine gate_guard (by kernel_rfl) ?_; dsimp only; refine wpList_load_row rfl 27 _ rfl (gb322) rfl 27 #[.int .i64 t304, .bool t305, .string t306, .int .i64 t307, .bool t308, .string t309, .bool t310, .int .i64 t311, .int .i64 t312, .int .i64 t313, .int .i64 t314, .int .i64 t315, .int .i64 t316, .int .i64 t317, .int .i64 t318, .int .i64 t319, .int .i64 t320] (0, 0) _ (by (with_reducible repeat (first | refine blk_drewN ?_ _ | refine blk_drew ?_ | refine blk_alloc ?_ _)); exact BK322.out) Tryd.underlying27 rfl (by kernel_rfl) ?_) | ((with_reducible refine gate_dst (N := 79) rfl ?_); refine gate_guard (by kernel_rfl) ?_; dsimp only; refine wpList_load_row rfl 27 _ rfl (gb301) rfl 27 #[.int .i64 0, .bool false, .string (⟨#[65, 65, 65]⟩ : ByteArray), .int .i64 0, .bool true, .string (⟨#[66, 66, 66]⟩ : ByteArray), .bool true, .int .i64 2, .int .i64 5, .int .i64 0, .int .i64 0, .int .i64 a0, .int .i64 2, .int .i64 5, .int .i64 0, .int .i64 0, .int .i64 a0] (0, 0) _ (by (with_reducible repeat (first | refine blk_drewN ?_ _ | refine blk_drew ?_ | refine blk_alloc ?_ _)); exact BK301.out) Tryd.underlying27 rfl (by kernel_rfl) ?_))
                        all_goals (try (exfalso; rename_i hq_; first | exact absurd (by simpa using c46b0) hq_ | exact absurd hq_ (by simpa using c46b0) | exact absurd (by simpa using c45b0) hq_ | exact absurd hq_ (by simpa using c45b0)))
                        go_ret
                        exact ⟨by first | rfl | (simp [errW_none, errW_some] <;> rfl) | (simp [*, errW_none, errW_some] <;> rfl), by repeat (first | (with_reducible first | exact HB.out | apply below_alloc | apply pw_below_drewN | apply below_drew1 | refine below_set ?_ GE300.out | refine below_set ?_ GE301.out | refine below_set ?_ GE322.out | refine below_set ?_ GE341.out) | exact HB.out)⟩
                    · rw [if_neg c45] at H
                      have c45b0 : (t321 == 0) = false := beq_eq_false_iff_ne.mpr c45
                      have c45b1 : (t321 != 0) = true := bne_iff_ne.mpr c45
                      obtain rfl := Option.some.inj H
                      go_wp2
                      all_goals (try (exfalso; rename_i hq_; first | exact absurd (by simpa using c45b0) hq_ | exact absurd hq_ (by simpa using c45b0)))
                      go_ret
                      exact ⟨by first | rfl | (simp [errW_none, errW_some] <;> rfl) | (simp [*, errW_none, errW_some] <;> rfl), by repeat (first | (with_reducible first | exact HB.out | apply below_alloc | apply pw_below_drewN | apply below_drew1 | refine below_set ?_ GE300.out | refine below_set ?_ GE301.out | refine below_set ?_ GE322.out | refine below_set ?_ GE341.out) | exact HB.out)⟩
                  · replace c44 := Bool.eq_false_iff.mpr c44
                    subst c44
                    have H1 : (some false) = some r := by rw [if_neg (show ¬ (false = true) by decide)] at H; exact H
                    clear H
                    have H := H1
                    clear H1
                    obtain rfl := Option.some.inj H
                    go_wp2
                    go_ret
                    exact ⟨by first | rfl | (simp [errW_none, errW_some] <;> rfl) | (simp [*, errW_none, errW_some] <;> rfl), by repeat (first | (with_reducible first | exact HB.out | apply below_alloc | apply pw_below_drewN | apply below_drew1 | refine below_set ?_ GE300.out | refine below_set ?_ GE301.out | refine below_set ?_ GE322.out | refine below_set ?_ GE341.out) | exact HB.out)⟩
                · replace c43 := Bool.eq_false_iff.mpr c43
                  subst c43
                  have H1 : (if t299 = true then (some (t302.toList == ([] : List UInt8))) else (some false)) = some r := by rw [if_neg (show ¬ (false = true) by decide)] at H; exact H
                  clear H
                  have H := H1
                  clear H1
                  by_cases c47 : t299 = true
                  · subst c47
                    have H1 : (some (t302.toList == ([] : List UInt8))) = some r := by rw [if_pos rfl] at H; exact H
                    clear H
                    have H := H1
                    clear H1
                    obtain rfl := Option.some.inj H
                    go_wp2
                    go_ret
                    exact ⟨by first | rfl | (simp [errW_none, errW_some] <;> rfl) | (simp [*, errW_none, errW_some] <;> rfl), by repeat (first | (with_reducible first | exact HB.out | apply below_alloc | apply pw_below_drewN | apply below_drew1 | refine below_set ?_ GE300.out | refine below_set ?_ GE301.out | refine below_set ?_ GE322.out | refine below_set ?_ GE341.out) | exact HB.out)⟩
                  · replace c47 := Bool.eq_false_iff.mpr c47
                    subst c47
                    have H1 : (some false) = some r := by rw [if_neg (show ¬ (false = true) by decide)] at H; exact H
                    clear H
                    have H := H1
                    clear H1
                    obtain rfl := Option.some.inj H
                    go_wp2
                    go_ret
                    exact ⟨by first | rfl | (simp [errW_none, errW_some] <;> rfl) | (simp [*, errW_none, errW_some] <;> rfl), by repeat (first | (with_reducible first | exact HB.out | apply below_alloc | apply pw_below_drewN | apply below_drew1 | refine below_set ?_ GE300.out | refine below_set ?_ GE301.out | refine below_set ?_ GE322.out | refine below_set ?_ GE341.out) | exact HB.out)⟩

end Go.Proofs.YtnbjneknicppcaaDoor.Fn
