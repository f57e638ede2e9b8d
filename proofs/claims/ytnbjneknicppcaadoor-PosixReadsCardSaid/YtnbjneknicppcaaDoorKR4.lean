/- Part 4 of the texts for KTR: contracts and plain laws that it leans on. -/
import Derived.Test.YtnbjneknicppcaaDoorKR3
import Derived.Deep.RegionWith
import Derived.Deep.DeepCutAuto
import Derived.IntWalk
import Derived.Deep.Light
import Derived.Deep.RegionHeld3
import Derived.Defers
import Derived.Recover
namespace Go.Proofs.YtnbjneknicppcaaDoor.Fn
set_option linter.unusedVariables false
set_option linter.unusedSimpArgs false
open Go.RowKit Go.Proofs.YtnbjneknicppcaaDoorW.PrintWords Go.Proofs.YtnbjneknicppcaaDoorW.PrintLast Go.Lib
theorem numOf_nonneg (l : List UInt8) : 0 ≤ numOf l := by unfold numOf; omega
theorem tkNum_nonneg {most : Nat} {l rest : List UInt8} {n : Int} (h : tkNum most l = some (n, rest)) : 0 ≤ n := by
  unfold tkNum at h; split at h
  · cases h
  · simp only [Option.some.injEq, Prod.mk.injEq] at h; rw [← h.1]; exact numOf_nonneg _
theorem tkNum_len {most : Nat} {l rest : List UInt8} {n : Int} (h : tkNum most l = some (n, rest)) : rest.length ≤ l.length := by
  unfold tkNum at h; split at h
  · cases h
  · simp only [Option.some.injEq, Prod.mk.injEq] at h; rw [← h.2]; unfold runRest; simp
theorem tkSixty_ok {l rest : List UInt8} {n : Int} {b : Bool} (h : tkSixty l = some (n, b, rest)) : 0 ≤ n ∧ n < 60 ∧ rest.length ≤ l.length ∧ (b = false → n = 0 ∧ rest = l) := by
  unfold tkSixty at h
  split at h
  · split at h
    · split at h
      · simp only [Option.some.injEq, Prod.mk.injEq] at h
        obtain ⟨rfl, rfl, rfl⟩ := h
        exact ⟨numOf_nonneg _, by assumption, by unfold runRest; rw [List.length_drop, List.length_tail]; omega, fun h => by cases h⟩
      · cases h
    · cases h
  · simp only [Option.some.injEq, Prod.mk.injEq] at h
    obtain ⟨rfl, rfl, rfl⟩ := h
    exact ⟨by omega, by omega, Nat.le_refl _, fun _ => ⟨rfl, rfl⟩⟩
theorem signRest_len (s : Bool) (l : List UInt8) : (signRest s l).length ≤ l.length := by unfold signRest; split <;> (try split) <;> (try split) <;> simp <;> omega
def SignCut (g : Nat) (s : Bool) (l : List UInt8) (wide : Bool) (w : World) (v : Value) (wx : World) : Prop := v = .int .i64 (signOf s l) ∧ PsrTo g (signRest s l) wide w wx
theorem signOf_1 (s : Bool) (l : List UInt8) : -1 ≤ signOf s l ∧ signOf s l ≤ 1 := by unfold signOf; split <;> (try split) <;> omega
theorem wrap_sign (sg x : Int) (h1 : -1 ≤ sg) (h2 : sg ≤ 1) (hx : -1000000000 ≤ x ∧ x ≤ 1000000000) : wrap64 (sg * x) = sg * x := by
  rcases (show sg = -1 ∨ sg = 0 ∨ sg = 1 by omega) with rfl | rfl | rfl
  · unfold wrap64; omega
  · unfold wrap64; omega
  · unfold wrap64; omega
def WideCut (mw : Nat) (hw : Int) (v8 v9 : Value) (w1 wx : World) : Prop := v8 = .int .i64 (mw : Int) ∧ v9 = .int .i64 hw ∧ w1 = wx
set_option maxRecDepth 100000 in
set_option maxHeartbeats 2000000 in
theorem time_yes (g : Nat) (s wd : Bool) (l : List UInt8) (hl : l.length ≤ 1000) (wide : Bool) (w : World) (h : Psr g l wide w) (n : Int) (rest : List UInt8) (ht : tkTime s wd l = some (n, rest)) :
    Calls Tryd.prog 53 #[.pointer (some ⟨g, 0, none⟩), .bool s, .bool wd] w fun e w' => e = .returned (.int .i64 n) ∧ PsrTo g rest wide w w' := by
  have HP := Aside0.mk h
  unfold tkTime at ht
  rw [Option.bind_eq_some_iff] at ht
  obtain ⟨⟨hh, l2⟩, e1, ht⟩ := ht
  have hh0 := tkNum_nonneg e1
  have hl2 := tkNum_len e1
  have hsr := signRest_len s l
  simp only at ht
  obtain ⟨mw, hmw⟩ : ∃ mw : Nat, (if wd = true then 3 else 2) = mw := ⟨_, rfl⟩
  obtain ⟨hw, hhw⟩ : ∃ hw : Int, (if wd = true then 167 else 24) = hw := ⟨_, rfl⟩
  rw [hmw] at e1
  rw [hhw] at ht
  have hmw3 : mw ≤ 3 := by rw [← hmw]; split <;> omega
  have hhw2 : hw ≤ 167 := by rw [← hhw]; split <;> omega
  have HMW := Aside0.mk hmw
  have HHW := Aside0.mk hhw
  clear hmw hhw
  have hle : hh ≤ hw := by
    by_cases q : hh ≤ hw
    · exact q
    · rw [if_neg q] at ht; cases ht
  rw [if_pos hle, Option.bind_eq_some_iff] at ht
  obtain ⟨⟨m, b, l3⟩, e2, ht⟩ := ht
  have ok2 := tkSixty_ok e2
  have hs1 := signOf_1 s l
  have HN : Aside0 (∀ W, Psr g (signRest s l) wide W → Calls Tryd.prog 65 #[.pointer (some ⟨g, 0, none⟩), .int .i64 (mw : Int)] W fun e w' => e = .returned (.int .i64 hh) ∧ PsrTo g l2 wide W w') :=
    ⟨fun W hW => num_yes g mw (signRest s l) (by omega) hmw3 wide W hW hh l2 e1⟩
  have HX : Aside0 (∀ W, Psr g l2 wide W → Calls Tryd.prog 66 #[.pointer (some ⟨g, 0, none⟩)] W fun e w' => e = .returned (.tuple #[.int .i64 m, .bool b]) ∧ PsrTo g l3 wide W w') :=
    ⟨fun W hW => sixty_yes g l2 (by omega) wide W hW m b l3 e2⟩
  have HI1 := Aside0.mk (fun W hW => is_calls g 45 l wide W hW)
  have HI2 := Aside0.mk (fun W hW => is_calls g 43 l wide W hW)
  obtain ⟨m0, m60, hl3, -⟩ := ok2
  have hle2 : hh ≤ 167 := by omega
  have hl3' : l3.length ≤ 1000 := by omega
  clear e1 e2 h hsr hl hl2 hl3 hmw3 hhw2
  obtain ⟨sg, hsg⟩ : ∃ z, z = signOf s l := ⟨_, rfl⟩
  have HSG := Aside0.mk hsg
  rw [← hsg] at hs1 ht
  obtain ⟨hs1, hs2⟩ := hs1
  clear hsg
  go_enter Tryd.func53, Tryd.ntmps53
  go_upto_block 0 with (fail)
  go_cut [7] (fun v7 wx => SignCut g s l wide w v7 wx)
  case first =>
    cases s
    · have hs0 : signOf false l = 1 := rfl
      have hr0 : signRest false l = l := rfl
      go_wp2_with fail
      go_meet
      case rel => exact ⟨rfl, PsrTo.refl HP.out⟩
    · cases he : eats 45 l
      · have e1 : eaten 45 l = l := by unfold eaten; rw [if_neg (by rw [he]; decide)]
        cases he2 : eats 43 l
        · have e2 : eaten 43 l = l := by unfold eaten; rw [if_neg (by rw [he2]; decide)]
          have HS := Aside0.mk (show signOf true l = 1 ∧ signRest true l = l by unfold signOf signRest; rw [he, he2]; simp)
          rw [he, e1] at HI1
          rw [he2, e2] at HI2
          clear he e1 he2 e2
          go_wp2_with fail
          refine (HI1.out _ HP.out).mono ?_
          rintro e wa ⟨rfl, ha⟩
          have HA := Aside0.mk ha
          clear ha
          go_wp2_with fail
          refine (HI2.out _ HA.out.1).mono ?_
          rintro e wb ⟨rfl, hb⟩
          have HB := Aside0.mk (HA.out.trans hb)
          clear hb
          go_wp2_with fail
          go_meet
          case rel => exact ⟨by rw [HS.out.1], by rw [HS.out.2]; exact HB.out⟩
        · have e2 : eaten 43 l = l.tail := by unfold eaten; rw [if_pos he2]
          have HS := Aside0.mk (show signOf true l = 1 ∧ signRest true l = l.tail by unfold signOf signRest; rw [he, he2]; simp)
          rw [he, e1] at HI1
          rw [he2, e2] at HI2
          clear he e1 he2 e2
          go_wp2_with fail
          refine (HI1.out _ HP.out).mono ?_
          rintro e wa ⟨rfl, ha⟩
          have HA := Aside0.mk ha
          clear ha
          go_wp2_with fail
          refine (HI2.out _ HA.out.1).mono ?_
          rintro e wb ⟨rfl, hb⟩
          have HB := Aside0.mk (HA.out.trans hb)
          clear hb
          go_wp2_with fail
          go_meet
          case rel => exact ⟨by rw [HS.out.1], by rw [HS.out.2]; exact HB.out⟩
      · have e1 : eaten 45 l = l.tail := by unfold eaten; rw [if_pos he]
        have HS := Aside0.mk (show signOf true l = -1 ∧ signRest true l = l.tail by unfold signOf signRest; rw [he]; simp)
        rw [he, e1] at HI1
        clear he e1
        go_wp2_with fail
        refine (HI1.out _ HP.out).mono ?_
        rintro e wa ⟨rfl, ha⟩
        have HA := Aside0.mk ha
        clear ha
        go_wp2_with fail
        go_meet
        case rel => exact ⟨by rw [HS.out.1], by rw [HS.out.2]; exact HA.out⟩
  case rest =>
  obtain ⟨rfl, hc⟩ := hcut
  have H1 := Aside0.mk hc
  rw [← HSG.out]
  clear hc
  go_upto_if 25 with (fail)
  go_cut [8, 9] (fun v8 v9 wx => WideCut mw hw v8 v9 wc wx)
  case first =>
    cases wd
    · go_wp2_with fail
      go_meet
      case rel => exact ⟨by rw [← HMW.out]; rfl, by rw [← HHW.out]; rfl, rfl⟩
    · go_wp2_with fail
      go_meet
      case rel => exact ⟨by rw [← HMW.out]; rfl, by rw [← HHW.out]; rfl, rfl⟩
  case rest =>
  obtain ⟨rfl, rfl, rfl⟩ := hcut
  have H2 := H1
  clear H1 HP HI1 HI2
  go_wp2_with fail
  refine (HN.out _ H2.out.1).mono ?_
  rintro e w3 ⟨rfl, h3⟩
  have H3 := Aside0.mk (H2.out.trans h3)
  clear h3 H2 HN
  have hdec : decide (hh ≤ hw) = true := by simpa using hle
  go_wp2_with (first | (go_at_call 56; refine (must_yes _).mono ?_; rintro e w3 ⟨rfl, rfl⟩))
  refine (HX.out _ H3.out.1).mono ?_
  rintro e w4 ⟨rfl, h4⟩
  have H4 := Aside0.mk (H3.out.trans h4)
  clear h4 H3 HX
  cases b
  · simp only [Bool.false_eq_true, if_false, Option.some.injEq, Prod.mk.injEq] at ht
    obtain ⟨rfl, rfl⟩ := ht
    go_wp2
    go_ret
    refine ⟨?_, H4.out⟩
    show Ending.returned (.int .i64 (wrap64 (sg * (hh * 3600)))) = _
    rw [wrap_sign sg _ hs1 hs2 (by omega)]
  · simp only [if_true] at ht
    rw [Option.bind_eq_some_iff] at ht
    obtain ⟨⟨q, b2, l4⟩, e3, ht⟩ := ht
    simp only [Option.some.injEq, Prod.mk.injEq] at ht
    obtain ⟨rfl, rfl⟩ := ht
    have ok3 := tkSixty_ok e3
    obtain ⟨q0, q60, -, -⟩ := ok3
    have HY : Aside0 (∀ W, Psr g l3 wide W → Calls Tryd.prog 66 #[.pointer (some ⟨g, 0, none⟩)] W fun e w' => e = .returned (.tuple #[.int .i64 q, .bool b2]) ∧ PsrTo g l4 wide W w') :=
      ⟨fun W hW => sixty_yes g l3 hl3' wide W hW q b2 l4 e3⟩
    clear e3
    go_wp2_with fail
    refine (HY.out _ H4.out.1).mono ?_
    rintro e w5 ⟨rfl, h5⟩
    have H5 := Aside0.mk (H4.out.trans h5)
    clear h5 H4 HY
    go_wp2
    go_ret
    refine ⟨?_, H5.out⟩
    show Ending.returned (.int .i64 (wrap64 (sg * (hh * 3600 + (m * 60 + q))))) = _
    rw [wrap_sign sg _ hs1 hs2 (by omega)]
set_option maxRecDepth 100000 in
set_option maxHeartbeats 4000000 in
theorem time_no (g : Nat) (s wd : Bool) (l : List UInt8) (hl : l.length ≤ 1000) (wide : Bool) (w : World) (h : Psr g l wide w) (hG : G8 w) (hR : Room8 g) (ht : tkTime s wd l = none) :
    Calls Tryd.prog 53 #[.pointer (some ⟨g, 0, none⟩), .bool s, .bool wd] w fun e w' => e = wrongE ∧ Only g w w' := by
  have HP := Aside0.mk h
  have HG := Aside0.mk hG
  have HR := Aside0.mk hR
  unfold tkTime at ht
  have hsr := signRest_len s l
  have hs1 := signOf_1 s l
  have HI1 := Aside0.mk (fun W hW => is_calls g 45 l wide W hW)
  have HI2 := Aside0.mk (fun W hW => is_calls g 43 l wide W hW)
  obtain ⟨sg, hsg⟩ : ∃ z, z = signOf s l := ⟨_, rfl⟩
  have HSG := Aside0.mk hsg
  rw [← hsg] at hs1 ht
  obtain ⟨hs1, hs2⟩ := hs1
  obtain ⟨mw, hmw⟩ : ∃ mw : Nat, (if wd = true then 3 else 2) = mw := ⟨_, rfl⟩
  obtain ⟨hw, hhw⟩ : ∃ hw : Int, (if wd = true then 167 else 24) = hw := ⟨_, rfl⟩
  rw [hmw, hhw] at ht
  have hmw3 : mw ≤ 3 := by rw [← hmw]; split <;> omega
  have hhw2 : hw ≤ 167 := by rw [← hhw]; split <;> omega
  have HMW := Aside0.mk hmw
  have HHW := Aside0.mk hhw
  have HLR := Aside0.mk (show (signRest s l).length ≤ 1000 by omega)
  clear hmw hhw hsg h hG hR hsr hl
  go_enter Tryd.func53, Tryd.ntmps53
  go_upto_block 0 with (fail)
  go_cut [7] (fun v7 wx => SignCut g s l wide w v7 wx)
  case first =>
    cases s
    · have hs0 : signOf false l = 1 := rfl
      have hr0 : signRest false l = l := rfl
      go_wp2_with fail
      go_meet
      case rel => exact ⟨rfl, PsrTo.refl HP.out⟩
    · cases he : eats 45 l
      · have e1 : eaten 45 l = l := by unfold eaten; rw [if_neg (by rw [he]; decide)]
        cases he2 : eats 43 l
        · have e2 : eaten 43 l = l := by unfold eaten; rw [if_neg (by rw [he2]; decide)]
          have HS := Aside0.mk (show signOf true l = 1 ∧ signRest true l = l by unfold signOf signRest; rw [he, he2]; simp)
          rw [he, e1] at HI1
          rw [he2, e2] at HI2
          clear he e1 he2 e2
          go_wp2_with fail
          refine (HI1.out _ HP.out).mono ?_
          rintro e wa ⟨rfl, ha⟩
          have HA := Aside0.mk ha
          clear ha
          go_wp2_with fail
          refine (HI2.out _ HA.out.1).mono ?_
          rintro e wb ⟨rfl, hb⟩
          have HB := Aside0.mk (HA.out.trans hb)
          clear hb
          go_wp2_with fail
          go_meet
          case rel => exact ⟨by rw [HS.out.1], by rw [HS.out.2]; exact HB.out⟩
        · have e2 : eaten 43 l = l.tail := by unfold eaten; rw [if_pos he2]
          have HS := Aside0.mk (show signOf true l = 1 ∧ signRest true l = l.tail by unfold signOf signRest; rw [he, he2]; simp)
          rw [he, e1] at HI1
          rw [he2, e2] at HI2
          clear he e1 he2 e2
          go_wp2_with fail
          refine (HI1.out _ HP.out).mono ?_
          rintro e wa ⟨rfl, ha⟩
          have HA := Aside0.mk ha
          clear ha
          go_wp2_with fail
          refine (HI2.out _ HA.out.1).mono ?_
          rintro e wb ⟨rfl, hb⟩
          have HB := Aside0.mk (HA.out.trans hb)
          clear hb
          go_wp2_with fail
          go_meet
          case rel => exact ⟨by rw [HS.out.1], by rw [HS.out.2]; exact HB.out⟩
      · have e1 : eaten 45 l = l.tail := by unfold eaten; rw [if_pos he]
        have HS := Aside0.mk (show signOf true l = -1 ∧ signRest true l = l.tail by unfold signOf signRest; rw [he]; simp)
        rw [he, e1] at HI1
        clear he e1
        go_wp2_with fail
        refine (HI1.out _ HP.out).mono ?_
        rintro e wa ⟨rfl, ha⟩
        have HA := Aside0.mk ha
        clear ha
        go_wp2_with fail
        go_meet
        case rel => exact ⟨by rw [HS.out.1], by rw [HS.out.2]; exact HA.out⟩
  case rest =>
  obtain ⟨rfl, hc⟩ := hcut
  have H1 := Aside0.mk hc
  rw [← HSG.out]
  clear hc
  go_upto_if 25 with (fail)
  go_cut [8, 9] (fun v8 v9 wx => WideCut mw hw v8 v9 wc wx)
  case first =>
    cases wd
    · go_wp2_with fail
      go_meet
      case rel => exact ⟨by rw [← HMW.out]; rfl, by rw [← HHW.out]; rfl, rfl⟩
    · go_wp2_with fail
      go_meet
      case rel => exact ⟨by rw [← HMW.out]; rfl, by rw [← HHW.out]; rfl, rfl⟩
  case rest =>
  obtain ⟨rfl, rfl, rfl⟩ := hcut
  have H2 := H1
  clear H1 HP HI1 HI2
  cases e1 : tkNum mw (signRest s l) with
  | none =>
    clear ht
    have HN : Aside0 (∀ W, Psr g (signRest s l) wide W → G8 W → Calls Tryd.prog 65 #[.pointer (some ⟨g, 0, none⟩), .int .i64 (mw : Int)] W fun e w' => e = wrongE ∧ Only g W w') :=
      ⟨fun W hW hg => num_no g mw (signRest s l) HLR.out hmw3 wide W hW hg HR.out e1⟩
    clear e1
    go_wp2_with fail
    refine (HN.out _ H2.out.1 (H2.out.g8 HG.out HR.out)).mono ?_
    rintro e w3 ⟨rfl, h3⟩
    exact ⟨rfl, rfl, H2.out.2.trans h3⟩
  | some hr =>
    obtain ⟨hh, l2⟩ := hr
    rw [e1, Option.bind_some] at ht
    simp only at ht
    have hh0 := tkNum_nonneg e1
    have hl2 : l2.length ≤ 1000 := Nat.le_trans (tkNum_len e1) HLR.out
    have HN : Aside0 (∀ W, Psr g (signRest s l) wide W → Calls Tryd.prog 65 #[.pointer (some ⟨g, 0, none⟩), .int .i64 (mw : Int)] W fun e w' => e = .returned (.int .i64 hh) ∧ PsrTo g l2 wide W w') :=
      ⟨fun W hW => num_yes g mw (signRest s l) HLR.out hmw3 wide W hW hh l2 e1⟩
    clear e1 hmw3
    by_cases hle : hh ≤ hw
    · have hdec : decide (hh ≤ hw) = true := by simpa using hle
      have hle2 : hh ≤ 167 := by omega
      rw [if_pos hle] at ht
      cases e2 : tkSixty l2 with
      | none =>
        have HX : Aside0 (∀ W, Psr g l2 wide W → Calls Tryd.prog 66 #[.pointer (some ⟨g, 0, none⟩)] W fun e w' => e = wrongE ∧ Only g W w') :=
          ⟨fun W hW => sixty_no g l2 hl2 wide W hW e2⟩
        clear e2 ht
        go_wp2_with fail
        refine (HN.out _ H2.out.1).mono ?_
        rintro e w3 ⟨rfl, h3⟩
        have H3 := Aside0.mk (H2.out.trans h3)
        clear h3 H2 HN
        go_wp2_with (first | (go_at_call 56; refine (must_yes _).mono ?_; rintro e w3 ⟨rfl, rfl⟩))
        refine (HX.out _ H3.out.1).mono ?_
        rintro e w4 ⟨rfl, h4⟩
        exact ⟨rfl, rfl, H3.out.2.trans h4⟩
      | some mr =>
        obtain ⟨m, b, l3⟩ := mr
        rw [e2, Option.bind_some] at ht
        simp only at ht
        have ok2 := tkSixty_ok e2
        have HX : Aside0 (∀ W, Psr g l2 wide W → Calls Tryd.prog 66 #[.pointer (some ⟨g, 0, none⟩)] W fun e w' => e = .returned (.tuple #[.int .i64 m, .bool b]) ∧ PsrTo g l3 wide W w') :=
          ⟨fun W hW => sixty_yes g l2 hl2 wide W hW m b l3 e2⟩
        obtain ⟨m0, m60, hl3, -⟩ := ok2
        clear e2
        cases b
        · simp at ht
        · simp only [if_true] at ht
          have e3 : tkSixty l3 = none := by
            cases e3 : tkSixty l3 with
            | none => rfl
            | some v => rw [e3] at ht; cases ht
          have HY : Aside0 (∀ W, Psr g l3 wide W → Calls Tryd.prog 66 #[.pointer (some ⟨g, 0, none⟩)] W fun e w' => e = wrongE ∧ Only g W w') :=
            ⟨fun W hW => sixty_no g l3 (by omega) wide W hW e3⟩
          clear e3 ht
          go_wp2_with fail
          refine (HN.out _ H2.out.1).mono ?_
          rintro e w3 ⟨rfl, h3⟩
          have H3 := Aside0.mk (H2.out.trans h3)
          clear h3 H2 HN
          go_wp2_with (first | (go_at_call 56; refine (must_yes _).mono ?_; rintro e w3 ⟨rfl, rfl⟩))
          refine (HX.out _ H3.out.1).mono ?_
          rintro e w4 ⟨rfl, h4⟩
          have H4 := Aside0.mk (H3.out.trans h4)
          clear h4 H3 HX
          go_wp2_with fail
          refine (HY.out _ H4.out.1).mono ?_
          rintro e w5 ⟨rfl, h5⟩
          exact ⟨rfl, rfl, H4.out.2.trans h5⟩
    · have hdec : decide (hh ≤ hw) = false := by simpa using hle
      clear ht
      go_wp2_with fail
      refine (HN.out _ H2.out.1).mono ?_
      rintro e w3 ⟨rfl, h3⟩
      have H3 := Aside0.mk (H2.out.trans h3)
      clear h3 H2 HN hle
      go_wp2_with fail
      refine (must_no _).mono ?_
      rintro e w3 ⟨rfl, rfl⟩
      exact ⟨rfl, rfl, H3.out.2⟩
end Go.Proofs.YtnbjneknicppcaaDoor.Fn

namespace Go.Proofs.YtnbjneknicppcaaDoor.Fn
set_option linter.unusedVariables false
set_option linter.unusedSimpArgs false
open Go.RowKit Go.Proofs.YtnbjneknicppcaaDoorW.PrintWords Go.Proofs.YtnbjneknicppcaaDoorW.PrintLast Go.Lib
theorem dec3_len (n : Nat) : (dec3 n).length ≤ 3 := by unfold dec3; split <;> (try split) <;> simp
theorem dec3_digit (n : Nat) (h : n < 10) : dec3 n = [dig1 n] := by unfold dec3; rw [if_pos h]
def timeAt (m : Nat) : Nat → List UInt8
  | 0 => dec3 (m / 3600)
  | 1 => dec3 (m / 3600) ++ (if m % 3600 ≠ 0 then 58 :: two (m / 60 % 60) else [])
  | _ => dec3 (m / 3600) ++ ((if m % 3600 ≠ 0 then 58 :: two (m / 60 % 60) else []) ++ (if m % 60 ≠ 0 then 58 :: two (m % 60) else []))
theorem timeAt_len (m k : Nat) : (timeAt m k).length ≤ 9 := by
  have h := dec3_len (m / 3600)
  match k with
  | 0 => simp only [timeAt]; omega
  | 1 => simp only [timeAt, List.length_append]; split <;> simp [two] <;> omega
  | k + 2 => simp only [timeAt, List.length_append]; split <;> split <;> simp [two] <;> omega
def TimeCut (B b : Nat) (l : List UInt8) (m : Nat) (s : List UInt8) (w : World) (v : Value) (wx : World) : Prop := v = .int .i64 (m : Int) ∧ PrtTo B b (l ++ s) w wx
set_option maxRecDepth 1000000 in
set_option maxHeartbeats 4000000 in
theorem pTime_calls (B b : Nat) (l : List UInt8) (n : Int) (w : World) (h : Prt B b l w) (hn : n.natAbs ≤ 604799) (hl : l.length ≤ 1000) (hB : B ≤ w.heap.size) (hG : G8 w) (hR : Room8 B) :
    Calls Tryd.prog 26 #[.pointer (some ⟨b, 0, none⟩), .int .i64 n] w fun e w' => e = .returned (.tuple #[]) ∧ PrtTo B b (l ++ prTime n) w w' := by
  have HP := Aside0.mk h
  have HB := Aside0.mk hB
  have HL := Aside0.mk hl
  have HG := Aside0.mk hG
  have HR := Aside0.mk hR
  have i0 : ∀ w, (Instr.index 81 (.agg #[.int .i64 60, .int .i64 1]) (.int .i64 0)).run Tryd.prog w = .ok (.int .i64 60) w := fun _ => by kernel_rfl
  have i1 : ∀ w, (Instr.index 81 (.agg #[.int .i64 60, .int .i64 1]) (.int .i64 1)).run Tryd.prog w = .ok (.int .i64 1) w := fun _ => by kernel_rfl
  obtain ⟨m, hm⟩ : ∃ m, m = n.natAbs := ⟨_, rfl⟩
  have HM := Aside0.mk hm
  have hm2 : m ≤ 604799 := by omega
  have hn1 : -604799 ≤ n := by omega
  have hn2 : n ≤ 604799 := by omega
  clear h hB hl hG hR hn
  clear hm
  go_enter Tryd.func26, Tryd.ntmps26
  go_upto_if 8 with (fail)
  go_cut [1] (fun v1 wx => TimeCut B b l m (if n < 0 then [45] else []) w v1 wx)
  case first =>
    by_cases hneg : n < 0
    · go_wp2_with fail
      refine (pb_WriteByte B b l 45 w HP.out (by have := HL.out; omega) HB.out).mono ?_
      rintro e w1 ⟨rfl, h1⟩
      have H1 := Aside0.mk h1
      clear h1
      go_wp2_with fail
      go_meet
      case rel => exact ⟨by rw [HM.out]; exact congrArg _ (by omega), by rw [if_pos hneg]; exact H1.out⟩
    · go_wp2_with fail
      go_meet
      case rel => exact ⟨by rw [HM.out]; exact congrArg _ (by omega), by rw [if_neg (by omega), List.append_nil]; exact PrtTo.refl HP.out⟩
  case rest =>
    obtain ⟨rfl, hcut⟩ := hcut
    obtain ⟨L, hLd⟩ : ∃ L, L = l ++ (if n < 0 then [45] else []) := ⟨_, rfl⟩
    rw [← hLd] at hcut
    have hLl : L.length ≤ 1001 := by rw [hLd, List.length_append]; have := HL.out; split <;> simp <;> omega
    have HLL := Aside0.mk hLl
    have HLd := Aside0.mk hLd
    have H1 := Aside0.mk hcut
    clear hcut hLl hLd
    have hq1 : (m : Int) / 3600 = ((m / 3600 : Nat) : Int) := by omega
    go_upto_region 3 with (fail)
    go_cut [] (fun wx => PrtTo B b (L ++ timeAt m 0) w wx)
    case first =>
      clear i0 i1 hq1
      have HI := Aside0.mk (fun W hg => itoaN_calls (m / 3600) (by omega) W hg)
      have HD := Aside0.mk (H1.out.below HB.out (Below.drew (Below.refl _ _)))
      have hq : IntKind.i64.wrap ((m : Int) / 3600) = ((m / 3600 : Nat) : Int) := by rw [IntWalk.i64_in _ (by omega)]; omega
      have HW := Aside0.mk (show L.length + (dec3 (m / 3600)).length ≤ 100000 by have := HLL.out; have := dec3_len (m / 3600); omega)
      clear hm2 hn1 hn2
      go_region_with (first | (go_at_call 45; refine (HI.out _ (HD.out.g8 HG.out HR.out)).mono ?_; rintro e wi ⟨rfl, hbi⟩; have H2 := Aside0.mk (HD.out.below HB.out hbi); clear hbi) | (go_at_call 43; refine (pb_WriteString B b L (dec3 (m / 3600)) _ H2.out.1 HW.out (Nat.le_trans HB.out H2.out.size)).mono ?_; rintro e w2 ⟨rfl, h2⟩; have H3 := Aside0.mk (H2.out.trans h2); clear h2))
      all_goals
        go_wp2_with fail
        go_meet
        case rel => exact H3.out
    case rest =>
      have H2 := Aside0.mk hcut
      clear hcut
      go_wp2_with fail
      go_loopw [23] (fun i wr => ∃ k : Nat, k ≤ 2 ∧ i = .int .i64 k ∧ PrtTo B b (L ++ timeAt m k) w wr) (fun i _ => 2 - (intOf i).toNat)
      case atStart => exact ⟨0, by omega, rfl, H2.out⟩
      case round =>
        obtain ⟨k, hk, rfl, hr⟩ := hrel
        have H3 := Aside0.mk hr
        clear hr H2
        rcases (show k = 0 ∨ k = 1 ∨ k = 2 by omega) with rfl | rfl | rfl
        · obtain ⟨q, hq⟩ : ∃ q : Nat, q = m / 60 % 60 := ⟨_, rfl⟩
          have hq60 : q < 60 := by omega
          by_cases hz : m % 3600 = 0
          · have hz1 : (((m : Int) % 3600) != 0) = false := by simp; omega
            have HT := Aside0.mk (show timeAt m 1 = timeAt m 0 by simp [timeAt, hz])
            clear hz hq
            go_wp2_with fail
            go_roundw
            case rel => exact ⟨1, by omega, by go_num, by rw [HT.out]; exact H3.out⟩
            case measure => simp [intOf]
          · have hz1 : (((m : Int) % 3600) != 0) = true := by simp; omega
            have HT := Aside0.mk (show timeAt m 1 = timeAt m 0 ++ 58 :: two q by simp [timeAt, hz, hq])
            have H6 := Aside0.mk (show ((m : Int) / 60 % 60) = (q : Int) by omega)
            have HW := Aside0.mk (show (L ++ timeAt m 0).length + (58 :: two q).length ≤ 100000 by have := HLL.out; have := timeAt_len m 0; simp [two]; omega)
            have HI1 : Aside0 (∀ W, G8 W → Calls Tryd.prog 45 #[.int .i64 ((q : Int) / 10)] W fun e w' => e = .returned (.string ⟨#[dig1 (q / 10)]⟩) ∧ Below W.heap.size W w') := ⟨fun W hg => by have h := itoaN_calls (q / 10) (by omega) W hg; rw [dec3_digit _ (by omega)] at h; rwa [show ((q / 10 : Nat) : Int) = (q : Int) / 10 by omega] at h⟩
            have HI2 : Aside0 (∀ W, G8 W → Calls Tryd.prog 45 #[.int .i64 ((q : Int) % 10)] W fun e w' => e = .returned (.string ⟨#[dig1 (q % 10)]⟩) ∧ Below W.heap.size W w') := ⟨fun W hg => by have h := itoaN_calls (q % 10) (by omega) W hg; rw [dec3_digit _ (by omega)] at h; rwa [show ((q % 10 : Nat) : Int) = (q : Int) % 10 by omega] at h⟩
            clear hz hq
            have H4 := Aside0.mk (H3.out.below HB.out (Below.drew (Below.refl _ _)))
            have ha1 : ∀ W, (Op.stringOp .add ⟨#[58]⟩ ⟨#[dig1 (q / 10)]⟩).run Tryd.prog W = .ok (.string ⟨#[58, dig1 (q / 10)]⟩) W := fun W => add_run [58] [dig1 (q / 10)] (by simp) W
            have ha2 : ∀ W, (Op.stringOp .add ⟨#[58, dig1 (q / 10)]⟩ ⟨#[dig1 (q % 10)]⟩).run Tryd.prog W = .ok (.string ⟨(58 :: two q).toArray⟩) W := fun W => add_run [58, dig1 (q / 10)] [dig1 (q % 10)] (by simp) W
            go_wp2_with fail
            have hA : IntKind.i64.wrap (Int.tdiv ((m : Int) / 60 % 60) 10) = (q : Int) / 10 := by rw [H6.out, Int.tdiv_eq_ediv_of_nonneg (by omega), IntWalk.i64_in _ (by omega)]
            have hB : Int.tmod ((m : Int) / 60 % 60) 10 = (q : Int) % 10 := by rw [H6.out, Int.tmod_eq_emod_of_nonneg (by omega)]
            clear hq60
            go_region_with (first | (go_at_call 45; (with_reducible refine (HI1.out _ (H4.out.g8 HG.out HR.out)).mono ?_); rintro e wi ⟨rfl, hbi⟩; have H5 := Aside0.mk (H4.out.below HB.out hbi); clear hbi) | (go_at_call 45; (with_reducible refine (HI2.out _ (H5.out.g8 HG.out HR.out)).mono ?_); rintro e wj ⟨rfl, hbj⟩; have K6 := Aside0.mk (H5.out.below HB.out hbj); clear hbj) | (go_at_call 43; refine (pb_WriteString B b _ (58 :: two q) _ K6.out.1 HW.out (Nat.le_trans HB.out K6.out.size)).mono ?_; rintro e w2 ⟨rfl, h2⟩; have H7 := Aside0.mk (K6.out.trans h2); clear h2))
            all_goals
              clear hA hB
              go_wp2_with fail
              go_roundw
              case rel => exact ⟨1, by omega, by go_num, by rw [HT.out, ← List.append_assoc]; exact H7.out⟩
              case measure => simp [intOf]
        · obtain ⟨q, hq⟩ : ∃ q : Nat, q = m % 60 := ⟨_, rfl⟩
          have hq60 : q < 60 := by omega
          by_cases hz : m % 60 = 0
          · have hz1 : (((m : Int) % 60) != 0) = false := by simp; omega
            have HT := Aside0.mk (show timeAt m 2 = timeAt m 1 by simp [timeAt, hz])
            clear hz hq
            go_wp2_with fail
            go_roundw
            case rel => exact ⟨2, by omega, by go_num, by rw [HT.out]; exact H3.out⟩
            case measure => simp [intOf]
          · have hz1 : (((m : Int) % 60) != 0) = true := by simp; omega
            have HT := Aside0.mk (show timeAt m 2 = timeAt m 1 ++ 58 :: two q by simp [timeAt, hz, hq])
            have H6 := Aside0.mk (show ((m : Int) % 60) = (q : Int) by omega)
            have HW := Aside0.mk (show (L ++ timeAt m 1).length + (58 :: two q).length ≤ 100000 by have := HLL.out; have := timeAt_len m 1; simp [two]; omega)
            have HI1 : Aside0 (∀ W, G8 W → Calls Tryd.prog 45 #[.int .i64 ((q : Int) / 10)] W fun e w' => e = .returned (.string ⟨#[dig1 (q / 10)]⟩) ∧ Below W.heap.size W w') := ⟨fun W hg => by have h := itoaN_calls (q / 10) (by omega) W hg; rw [dec3_digit _ (by omega)] at h; rwa [show ((q / 10 : Nat) : Int) = (q : Int) / 10 by omega] at h⟩
            have HI2 : Aside0 (∀ W, G8 W → Calls Tryd.prog 45 #[.int .i64 ((q : Int) % 10)] W fun e w' => e = .returned (.string ⟨#[dig1 (q % 10)]⟩) ∧ Below W.heap.size W w') := ⟨fun W hg => by have h := itoaN_calls (q % 10) (by omega) W hg; rw [dec3_digit _ (by omega)] at h; rwa [show ((q % 10 : Nat) : Int) = (q : Int) % 10 by omega] at h⟩
            clear hz hq
            have H4 := Aside0.mk (H3.out.below HB.out (Below.drew (Below.refl _ _)))
            have ha1 : ∀ W, (Op.stringOp .add ⟨#[58]⟩ ⟨#[dig1 (q / 10)]⟩).run Tryd.prog W = .ok (.string ⟨#[58, dig1 (q / 10)]⟩) W := fun W => add_run [58] [dig1 (q / 10)] (by simp) W
            have ha2 : ∀ W, (Op.stringOp .add ⟨#[58, dig1 (q / 10)]⟩ ⟨#[dig1 (q % 10)]⟩).run Tryd.prog W = .ok (.string ⟨(58 :: two q).toArray⟩) W := fun W => add_run [58, dig1 (q / 10)] [dig1 (q % 10)] (by simp) W
            go_wp2_with fail
            have hA : IntKind.i64.wrap (Int.tdiv ((m : Int) % 60) 10) = (q : Int) / 10 := by rw [H6.out, Int.tdiv_eq_ediv_of_nonneg (by omega), IntWalk.i64_in _ (by omega)]
            have hB : Int.tmod ((m : Int) % 60) 10 = (q : Int) % 10 := by rw [H6.out, Int.tmod_eq_emod_of_nonneg (by omega)]
            clear hq60
            go_region_with (first | (go_at_call 45; (with_reducible refine (HI1.out _ (H4.out.g8 HG.out HR.out)).mono ?_); rintro e wi ⟨rfl, hbi⟩; have H5 := Aside0.mk (H4.out.below HB.out hbi); clear hbi) | (go_at_call 45; (with_reducible refine (HI2.out _ (H5.out.g8 HG.out HR.out)).mono ?_); rintro e wj ⟨rfl, hbj⟩; have K6 := Aside0.mk (H5.out.below HB.out hbj); clear hbj) | (go_at_call 43; refine (pb_WriteString B b _ (58 :: two q) _ K6.out.1 HW.out (Nat.le_trans HB.out K6.out.size)).mono ?_; rintro e w2 ⟨rfl, h2⟩; have H7 := Aside0.mk (K6.out.trans h2); clear h2))
            all_goals
              clear hA hB
              go_wp2_with fail
              go_roundw
              case rel => exact ⟨2, by omega, by go_num, by rw [HT.out, ← List.append_assoc]; exact H7.out⟩
              case measure => simp [intOf]
        · go_wp2_with fail
          go_end0
          refine ⟨rfl, ?_⟩
          have e : l ++ prTime n = L ++ timeAt m 2 := by
            unfold prTime timeAt
            rw [HLd.out, HM.out, List.append_assoc]; rfl
          rw [e]
          exact H3.out
end Go.Proofs.YtnbjneknicppcaaDoor.Fn

namespace Go.Proofs.YtnbjneknicppcaaDoor.Fn
set_option linter.unusedVariables false
set_option linter.unusedSimpArgs false
open Go.RowKit Go.Proofs.YtnbjneknicppcaaDoorW.PrintWords Go.Proofs.YtnbjneknicppcaaDoorW.PrintLast Go.Lib
theorem PrtTo.blk {B b g : Nat} {l : List UInt8} {w w1 : World} {cs : Array Value} {T : TypeId} (h : PrtTo B b l w w1) (hb : w.heap[g]? = some (.cells cs T (0, 0))) (hne : g ≠ b) (hT : T ≠ 5) : w1.heap[g]? = some (.cells cs T (0, 0)) :=
  h.2.2 g _ hb (fun e => hne (Option.some.inj e)) (fun _ _ e => by simp at e; exact hT e.2.1)
theorem PrtTo.alloc {B b : Nat} {l : List UInt8} {w : World} (h : Prt B b l w) (hB : B ≤ w.heap.size) (o : Obj) : PrtTo B b l w (w.alloc o) := (PrtTo.refl h).below hB (below_alloc (Below.refl _ _) o)
theorem PrtTo.drew {B b : Nat} {l : List UInt8} {w w1 : World} (h : PrtTo B b l w w1) (hB : B ≤ w.heap.size) : PrtTo B b l w w1.drew := h.below hB (Below.drew (Below.refl _ _))
def Chg.cells (c : Chg) : Array Value := #[.int .i64 c.how, .int .i64 c.n, .int .i64 c.week, .int .i64 c.wday, .int .i64 c.time]
def DayCut (B b g : Nat) (l : List UInt8) (c : Chg) (w : World) (v : Value) (wx : World) : Prop := v = .string ⟨(prDay c).toArray⟩ ∧ PrtTo B b (l ++ [44]) w wx ∧ wx.heap[g]? = some (.cells c.cells 25 (0, 0))
theorem prDay_len (c : Chg) : (prDay c).length ≤ 12 := by
  have h1 := dec3_len c.n.toNat
  have h2 := dec3_len c.week.toNat
  have h3 := dec3_len c.wday.toNat
  unfold prDay
  split
  · simp; omega
  · split
    · simp; omega
    · omega
set_option maxRecDepth 1000000 in
set_option maxHeartbeats 4000000 in
theorem pChg_calls (B b : Nat) (l : List UInt8) (c : Chg) (w : World) (h : Prt B b l w) (hn : 0 ≤ c.n ∧ c.n < 1000) (hk : 0 ≤ c.week ∧ c.week < 1000) (hd : 0 ≤ c.wday ∧ c.wday < 1000) (ht : c.time.natAbs ≤ 604799) (hl : l.length ≤ 900) (hB : B ≤ w.heap.size) (hG : G8 w) (hR : Room8 B) :
    Calls Tryd.prog 27 #[.pointer (some ⟨b, 0, none⟩), .agg #[.int .i64 c.how, .int .i64 c.n, .int .i64 c.week, .int .i64 c.wday, .int .i64 c.time]] w fun e w' => e = .returned (.tuple #[]) ∧ PrtTo B b (l ++ prChg c) w w' := by
  obtain ⟨ch, cn, ck, cd, ct⟩ := c
  simp only at hn hk hd ht
  obtain ⟨hn0, hn1⟩ := hn
  obtain ⟨hk0, hk1⟩ := hk
  obtain ⟨hd0, hd1⟩ := hd
  have neT : (25 : TypeId) ≠ 5 := by decide
  have HB := Aside0.mk hB
  have HL := Aside0.mk hl
  have HG := Aside0.mk hG
  have HR := Aside0.mk hR
  have hgb : w.heap.size ≠ b := by have := h.lt; omega
  have HGB := Aside0.mk hgb


  have H0 := Aside0.mk (PrtTo.alloc h hB (.cells #[.int .i64 ch, .int .i64 cn, .int .i64 ck, .int .i64 cd, .int .i64 ct] 25))
  clear h hB hl hG hR hgb
  go_enter Tryd.func27, Tryd.ntmps27
  go_wp2_with fail
  refine (pb_WriteByte B b l 44 _ H0.out.1 (by have := HL.out; omega) (Nat.le_trans HB.out H0.out.size)).mono ?_
  rintro e w1 ⟨rfl, h1⟩
  have H1 := Aside0.mk (H0.out.trans h1)
  have BX := h1.blk (blk_new w _) HGB.out neT
  have c0 := (blk_cell BX 0).trans rfl
  have c1 := (blk_cell BX 1).trans rfl
  have BX1 := Aside0.mk BX
  clear BX h1 H0
  simp only [List.getElem?_toArray, List.getElem?_cons_succ, List.getElem?_cons_zero] at c0 c1
  go_wp2_with (go_at_call 45; refine (itoa_calls cn hn0 hn1 _ (H1.out.g8 HG.out HR.out)).mono ?_)
  rintro e w2 ⟨rfl, hb2⟩
  have BX2 := Aside0.mk (blk_below BX1.out hb2)
  have c0 := (blk_cell BX2.out 0).trans rfl
  simp only [List.getElem?_toArray, List.getElem?_cons_succ, List.getElem?_cons_zero] at c0
  have H2 := Aside0.mk (H1.out.below HB.out hb2)
  clear hb2 H1 BX1 c1
  go_upto_block 0 with (fail)
  go_cut [4] (fun v4 wx => DayCut B b w.heap.size l ⟨ch, cn, ck, cd, ct⟩ w v4 wx)
  case first =>
    by_cases h1 : ch = 1
    · have q1 : (ch == 1) = true := by simp [h1]
      have HE := Aside0.mk (show prDay ⟨ch, cn, ck, cd, ct⟩ = 74 :: dec3 cn.toNat by unfold prDay; rw [if_pos h1])
      have ha1 : ∀ W, (Op.stringOp .add ⟨#[74]⟩ ⟨(dec3 cn.toNat).toArray⟩).run Tryd.prog W = .ok (.string ⟨(74 :: dec3 cn.toNat).toArray⟩) W := fun W => add_run [74] _ (by have := dec3_len cn.toNat; simp; omega) W
      clear h1
      go_wp2_with fail
      go_meet
      case rel => exact ⟨by rw [HE.out], H2.out, BX2.out⟩
    · by_cases h3 : ch = 3
      · have q1 : (ch == 1) = false := by simp [h1]
        have q3 : (ch == 3) = true := by simp [h3]
        have HE := Aside0.mk (show prDay ⟨ch, cn, ck, cd, ct⟩ = 77 :: (dec3 cn.toNat ++ (46 :: (dec3 ck.toNat ++ (46 :: dec3 cd.toNat)))) by unfold prDay; rw [if_neg h1, if_pos h3])
        clear h1 h3
        have l1 := dec3_len cn.toNat
        have l2 := dec3_len ck.toNat
        have l3 := dec3_len cd.toNat
        obtain ⟨A, hA⟩ : ∃ A, A = dec3 cn.toNat := ⟨_, rfl⟩
        obtain ⟨K, hK⟩ : ∃ K, K = dec3 ck.toNat := ⟨_, rfl⟩
        obtain ⟨D, hD⟩ : ∃ D, D = dec3 cd.toNat := ⟨_, rfl⟩
        obtain ⟨t1, ht1⟩ : ∃ t, t = [77] ++ A := ⟨_, rfl⟩
        obtain ⟨t2, ht2⟩ : ∃ t, t = t1 ++ [46] := ⟨_, rfl⟩
        obtain ⟨t3, ht3⟩ : ∃ t, t = t2 ++ K := ⟨_, rfl⟩
        obtain ⟨t4, ht4⟩ : ∃ t, t = t3 ++ [46] := ⟨_, rfl⟩
        obtain ⟨t5, ht5⟩ : ∃ t, t = t4 ++ D := ⟨_, rfl⟩
        rw [← hA] at l1 HE ⊢
        rw [← hK] at l2 HE
        rw [← hD] at l3 HE
        have ha1 : ∀ W, (Op.stringOp .add ⟨#[77]⟩ ⟨A.toArray⟩).run Tryd.prog W = .ok (.string ⟨t1.toArray⟩) W := fun W => by rw [ht1]; exact add_run [77] A (by simp; omega) W
        have ha2 : ∀ W, (Op.stringOp .add ⟨t1.toArray⟩ ⟨#[46]⟩).run Tryd.prog W = .ok (.string ⟨t2.toArray⟩) W := fun W => by rw [ht2]; exact add_run t1 [46] (by simp [ht1]; omega) W
        have ha3 : ∀ W, (Op.stringOp .add ⟨t2.toArray⟩ ⟨K.toArray⟩).run Tryd.prog W = .ok (.string ⟨t3.toArray⟩) W := fun W => by rw [ht3]; exact add_run t2 K (by simp [ht2, ht1]; omega) W
        have ha4 : ∀ W, (Op.stringOp .add ⟨t3.toArray⟩ ⟨#[46]⟩).run Tryd.prog W = .ok (.string ⟨t4.toArray⟩) W := fun W => by rw [ht4]; exact add_run t3 [46] (by simp [ht3, ht2, ht1]; omega) W
        have ha5 : ∀ W, (Op.stringOp .add ⟨t4.toArray⟩ ⟨D.toArray⟩).run Tryd.prog W = .ok (.string ⟨t5.toArray⟩) W := fun W => by rw [ht5]; exact add_run t4 D (by simp [ht4, ht3, ht2, ht1]; omega) W
        have HE2 := Aside0.mk (show t5 = prDay ⟨ch, cn, ck, cd, ct⟩ by rw [HE.out, ht5, ht4, ht3, ht2, ht1]; simp)
        clear ht1 ht2 ht3 ht4 ht5 HE
        have HI1 := Aside0.mk (fun W hg => itoa_calls ck hk0 hk1 W hg)
        rw [← hK] at HI1
        have HI2 := Aside0.mk (fun W hg => itoa_calls cd hd0 hd1 W hg)
        rw [← hD] at HI2
        clear hA hK hD
        have H3 := Aside0.mk (H2.out.drew HB.out)
        have BX3 : Aside0 (w2.drew.heap[w.heap.size]? = some (.cells #[.int .i64 ch, .int .i64 cn, .int .i64 ck, .int .i64 cd, .int .i64 ct] 25 (0, 0))) := ⟨BX2.out⟩
        have d2 := (blk_cell BX3.out 2).trans rfl
        have d3 := (blk_cell BX3.out 3).trans rfl
        simp only [List.getElem?_toArray, List.getElem?_cons_succ, List.getElem?_cons_zero] at d2 d3
        clear l1 l2 l3 c0 ht hn0 hn1 hk0 hk1 hd0 hd1
        go_wp2_with fail
        go_region_with (first | (go_at_call 45; (with_reducible refine (HI1.out _ (H3.out.g8 HG.out HR.out)).mono ?_); rintro e wi ⟨rfl, hbi⟩; have H4 := Aside0.mk (H3.out.below HB.out hbi); have BX4 := Aside0.mk (blk_below BX3.out hbi); have f3 := (blk_cell BX4.out 3).trans rfl; simp only [List.getElem?_toArray, List.getElem?_cons_succ, List.getElem?_cons_zero] at f3; clear hbi) | (go_at_call 45; (with_reducible refine (HI2.out _ (H4.out.g8 HG.out HR.out)).mono ?_); rintro e wj ⟨rfl, hbj⟩; have H5 := Aside0.mk (H4.out.below HB.out hbj); have BX5 := Aside0.mk (blk_below BX4.out hbj); clear hbj))
        all_goals
          go_wp2_with fail
          go_meet
          case rel => exact ⟨by rw [HE2.out], H5.out, BX5.out⟩
      · have q1 : (ch == 1) = false := by simp [h1]
        have q3 : (ch == 3) = false := by simp [h3]
        have HE := Aside0.mk (show prDay ⟨ch, cn, ck, cd, ct⟩ = dec3 cn.toNat by unfold prDay; rw [if_neg h1, if_neg h3])
        clear h1 h3
        go_wp2_with fail
        go_meet
        case rel => exact ⟨by rw [HE.out], H2.out, BX2.out⟩
  case rest =>
    obtain ⟨rfl, h3, hx⟩ := hcut
    have H3 := Aside0.mk h3
    have BX3 := Aside0.mk hx
    clear h3 hx H2 BX2 c0
    have hdl := prDay_len ⟨ch, cn, ck, cd, ct⟩
    have HDL := Aside0.mk hdl
    clear hdl
    go_wp2_with fail
    refine (pb_WriteString B b (l ++ [44]) (prDay ⟨ch, cn, ck, cd, ct⟩) _ H3.out.1 (by have := HL.out; have := HDL.out; simp; omega) (Nat.le_trans HB.out H3.out.size)).mono ?_
    rintro e w3 ⟨rfl, h4⟩
    have BX4 := Aside0.mk (h4.blk BX3.out HGB.out neT)
    have H4 := Aside0.mk (H3.out.trans h4)
    have c4 := (blk_cell BX4.out 4).trans rfl
    simp only [Chg.cells, List.getElem?_toArray, List.getElem?_cons_succ, List.getElem?_cons_zero] at c4
    clear h4 BX3 H3
    by_cases h7 : ct = 7200
    · have q1 : (ct != 7200) = false := by simp [h7]
      have HE := Aside0.mk (show l ++ prChg ⟨ch, cn, ck, cd, ct⟩ = l ++ [44] ++ prDay ⟨ch, cn, ck, cd, ct⟩ by unfold prChg; rw [if_neg (by simp [h7])]; simp)
      clear h7
      go_wp2_with fail
      go_end0
      exact ⟨rfl, by rw [HE.out]; exact H4.out⟩
    · have q1 : (ct != 7200) = true := by simp [h7]
      have HE := Aside0.mk (show l ++ prChg ⟨ch, cn, ck, cd, ct⟩ = l ++ [44] ++ prDay ⟨ch, cn, ck, cd, ct⟩ ++ [47] ++ prTime ct by unfold prChg; rw [if_pos h7]; simp)
      clear h7
      go_wp2_with fail
      refine (pb_WriteByte B b (l ++ [44] ++ prDay ⟨ch, cn, ck, cd, ct⟩) 47 _ H4.out.1 (by have := HL.out; have := HDL.out; simp; omega) (Nat.le_trans HB.out H4.out.size)).mono ?_
      rintro e w4 ⟨rfl, h5⟩
      have BX5 := Aside0.mk (h5.blk BX4.out HGB.out neT)
      have H5 := Aside0.mk (H4.out.trans h5)
      have c4 := (blk_cell BX5.out 4).trans rfl
      simp only [Chg.cells, List.getElem?_toArray, List.getElem?_cons_succ, List.getElem?_cons_zero] at c4
      clear h5 BX4 H4
      go_wp2_with fail
      refine (pTime_calls B b (l ++ [44] ++ prDay ⟨ch, cn, ck, cd, ct⟩ ++ [47]) ct _ H5.out.1 ht (by have := HL.out; have := HDL.out; simp; omega) (Nat.le_trans HB.out H5.out.size) (H5.out.g8 HG.out HR.out) HR.out).mono ?_
      rintro e w5 ⟨rfl, h6⟩
      have H6 := Aside0.mk (H5.out.trans h6)
      clear h6 H5 BX5
      go_wp2
      go_end0
      exact ⟨rfl, by rw [HE.out]; exact H6.out⟩
end Go.Proofs.YtnbjneknicppcaaDoor.Fn

namespace Go.Proofs.YtnbjneknicppcaaDoor.Fn
set_option linter.unusedVariables false
set_option linter.unusedSimpArgs false
open Go.RowKit Go.Proofs.YtnbjneknicppcaaDoorW.PrintWords Go.Proofs.YtnbjneknicppcaaDoorW.PrintLast Go.Lib
theorem PsrTo.alloc {g : Nat} {l : List UInt8} {wide : Bool} {w w1 : World} (h : PsrTo g l wide w w1) (o : Obj) : PsrTo g l wide w (w1.alloc o) := h.below (below_alloc (Below.refl _ _) o)
theorem PsrTo.drew {g : Nat} {l : List UInt8} {wide : Bool} {w w1 : World} (h : PsrTo g l wide w w1) : PsrTo g l wide w w1.drew := h.below (Below.drew (Below.refl _ _))
theorem PsrTo.new {g q i : Nat} {l : List UInt8} {wide : Bool} {w w1 : World} (h : PsrTo g l wide w w1) (hq : w.heap.size ≤ q) (hg : q ≠ g) (v : Value) : PsrTo g l wide w (w1.setCell ⟨q, i, none⟩ v) := by
  have k := (Below.refl q w1).setCell (p := ⟨q, i, none⟩) (Nat.le_refl _) v
  exact ⟨(Below.heap_setCell w1 ⟨q, i, none⟩ v g (by simpa using fun e => hg e.symm)).trans h.1, k.os.trans h.2.os, k.tape.trans h.2.tape, k.output.trans h.2.output, Nat.le_trans h.2.size k.size,
    fun b hb hbg => (Below.heap_setCell w1 ⟨q, i, none⟩ v b (by simp; omega)).trans (h.2.block b hb hbg)⟩
theorem PsrTo.newRow {g q : Nat} {l : List UInt8} {wide : Bool} {w w1 : World} (h : PsrTo g l wide w w1) (hq : w.heap.size ≤ q) (hg : q ≠ g) (cs : Array Value) : PsrTo g l wide w (w1.setRow q cs) :=
  ⟨(setRow_other w1 q g cs (fun e => hg e.symm)).trans h.1, h.2.os, h.2.tape, h.2.output, by rw [size_setRow]; exact h.2.size, fun b hb hbg => (setRow_other w1 q b cs (by omega)).trans (h.2.block b hb hbg)⟩
def ChgAt (g q r : Nat) (l : List UInt8) (wide : Bool) (w : World) (c : Chg) (wx : World) : Prop :=
  PsrTo g l wide w wx ∧ wx.heap[q]? = some (.cells c.cells 25 (0, 0)) ∧ wx.heap[r]? = some (.cells Chg.zero.cells 25 (0, 0))
theorem ChgAt.call {g q r : Nat} {l m : List UInt8} {wide : Bool} {w w1 w2 : World} {c : Chg} (h : ChgAt g q r l wide w c w1) (k : PsrTo g m wide w1 w2) (hq : q ≠ g) (hr : r ≠ g) : ChgAt g q r m wide w c w2 :=
  ⟨h.1.trans k, k.2.old h.2.1 hq, k.2.old h.2.2 hr⟩
theorem ChgAt.put {g q r i : Nat} {l : List UInt8} {wide : Bool} {w w1 : World} {c c' : Chg} {v : Value} (h : ChgAt g q r l wide w c w1) (hw : w.heap.size ≤ q) (hq : q ≠ g) (hr : r ≠ q) (e : c.cells.setIfInBounds i v = c'.cells) : ChgAt g q r l wide w c' (w1.setCell ⟨q, i, none⟩ v) :=
  ⟨h.1.new hw hq v, blk_put h.2.1 i v e, blk_far h.2.2 hr v⟩
theorem ChgAt.drew {g q r : Nat} {l : List UInt8} {wide : Bool} {w w1 : World} {c : Chg} (h : ChgAt g q r l wide w c w1) : ChgAt g q r l wide w c w1.drew := ⟨h.1.drew, h.2.1, h.2.2⟩
theorem ChgAt.c0 {g q r : Nat} {l : List UInt8} {wide : Bool} {w wx : World} {c : Chg} (h : ChgAt g q r l wide w c wx) : wx.cell? ⟨q, 0, none⟩ = some (.int .i64 c.how) := (blk_cell h.2.1 0).trans rfl
theorem ChgAt.c1 {g q r : Nat} {l : List UInt8} {wide : Bool} {w wx : World} {c : Chg} (h : ChgAt g q r l wide w c wx) : wx.cell? ⟨q, 1, none⟩ = some (.int .i64 c.n) := (blk_cell h.2.1 1).trans rfl
theorem ChgAt.c2 {g q r : Nat} {l : List UInt8} {wide : Bool} {w wx : World} {c : Chg} (h : ChgAt g q r l wide w c wx) : wx.cell? ⟨q, 2, none⟩ = some (.int .i64 c.week) := (blk_cell h.2.1 2).trans rfl
theorem ChgAt.c3 {g q r : Nat} {l : List UInt8} {wide : Bool} {w wx : World} {c : Chg} (h : ChgAt g q r l wide w c wx) : wx.cell? ⟨q, 3, none⟩ = some (.int .i64 c.wday) := (blk_cell h.2.1 3).trans rfl
theorem ChgAt.c4 {g q r : Nat} {l : List UInt8} {wide : Bool} {w wx : World} {c : Chg} (h : ChgAt g q r l wide w c wx) : wx.cell? ⟨q, 4, none⟩ = some (.int .i64 c.time) := (blk_cell h.2.1 4).trans rfl
theorem ChgAt.fr {g q r : Nat} {l : List UInt8} {wide : Bool} {w wx : World} {c : Chg} (h : ChgAt g q r l wide w c wx) (i : Nat) : wx.frozen? ⟨q, i, none⟩ = false := blk_frozen h.2.1 i
theorem howRest_len (l : List UInt8) : (howRest l).length ≤ l.length := by unfold howRest; split <;> (try split) <;> simp
theorem tkDot_len {l r : List UInt8} {n : Int} (h : tkDot l = some (n, r)) : r.length ≤ l.length := by
  unfold tkDot at h
  split at h
  · have := tkNum_len h; rw [List.length_tail] at this; omega
  · cases h
theorem tkDots_len {hw wk wd : Int} {t2 t3 : List UInt8} (h : t2.length ≤ 1000) (e : (if hw = 3 then (tkDot t2).bind fun w => (tkDot w.2).bind fun d => some (w.1, d.1, d.2) else some (0, 0, t2)) = some (wk, wd, t3)) : t3.length ≤ 1000 := by
  split at e
  · rw [Option.bind_eq_some_iff] at e
    obtain ⟨⟨k1, u1⟩, d1, e⟩ := e
    rw [Option.bind_eq_some_iff] at e
    obtain ⟨⟨k2, u2⟩, d2, e⟩ := e
    simp only [Option.some.injEq, Prod.mk.injEq] at e
    obtain ⟨rfl, rfl, rfl⟩ := e
    exact Nat.le_trans (tkDot_len d2) (Nat.le_trans (tkDot_len d1) h)
  · simp only [Option.some.injEq, Prod.mk.injEq] at e
    rw [← e.2.2]; exact h
theorem eaten_yes {c : UInt8} {l : List UInt8} (h : eats c l = true) : eaten c l = l.tail := by unfold eaten; rw [if_pos h]
theorem eaten_no {c : UInt8} {l : List UInt8} (h : eats c l = false) : eaten c l = l := by unfold eaten; rw [if_neg (by rw [h]; decide)]
set_option maxRecDepth 100000 in
set_option maxHeartbeats 4000000 in
theorem change_yes (g : Nat) (l : List UInt8) (hl : l.length ≤ 1000) (wide : Bool) (w : World) (h : Psr g l wide w) (c : Chg) (rest : List UInt8) (ht : tkChg wide l = some (c, rest)) :
    Calls Tryd.prog 55 #[.pointer (some ⟨g, 0, none⟩)] w fun e w' => e = .returned (.agg c.cells) ∧ PsrTo g rest wide w w' := by
  have hgw : g < w.heap.size := (Array.getElem?_eq_some_iff.1 h).1
  have HP := Aside0.mk ((PsrTo.refl h).alloc (.cells Chg.zero.cells 25))
  unfold tkChg at ht
  have he : eats 44 l = true := by
    cases q : eats 44 l
    · rw [q, if_neg (by decide)] at ht; cases ht
    · rfl
  rw [if_pos he] at ht
  have hlt : l.tail.length ≤ 1000 := by simp; omega
  have HI := Aside0.mk (fun W hW => is_calls g 44 l wide W hW)
  rw [he, eaten_yes he] at HI
  generalize l.tail = t at *
  clear he hl h
  have HJ := Aside0.mk (fun W hW => is_calls g 74 t wide W hW)
  have HM := Aside0.mk (fun W hW => is_calls g 77 t wide W hW)
  go_enter Tryd.func55, Tryd.ntmps55
  go_wp2_with fail
  refine (HI.out _ HP.out.1).mono ?_
  rintro e w1 ⟨rfl, h1⟩
  have H1 := Aside0.mk (HP.out.trans h1)
  have BR := Aside0.mk (h1.2.old (blk_new w _) (by omega))
  have hs1 : w.heap.size < w1.heap.size := by have := h1.2.size; simp at this; omega
  have HC0 : Aside0 (ChgAt g w1.heap.size w.heap.size t wide w ⟨2, 0, 0, 0, 7200⟩ (w1.alloc (.cells #[.int .i64 2, .int .i64 0, .int .i64 0, .int .i64 0, .int .i64 7200] 25))) :=
    ⟨H1.out.alloc _, blk_new _ _, blk_alloc BR.out _⟩
  have HQW := Aside0.mk (show w.heap.size ≤ w1.heap.size by omega)
  have HQG := Aside0.mk (show w1.heap.size ≠ g by omega)
  have HRG := Aside0.mk (show w.heap.size ≠ g by omega)
  have HRQ := Aside0.mk (show w.heap.size ≠ w1.heap.size by omega)
  clear h1 hs1 H1 HP BR HI hgw
  go_upto_block 0 with (first | (go_at_call 56; refine (must_yes _).mono ?_; rintro e w3 ⟨rfl, rfl⟩))
  go_cut [] (fun wx => ChgAt g w1.heap.size w.heap.size (howRest t) wide w ⟨howOf t, 0, 0, 0, 7200⟩ wx)
  case first =>
    cases he : eats 74 t
    · rw [he, eaten_no he] at HJ
      cases he2 : eats 77 t
      · rw [he2, eaten_no he2] at HM
        have HS := Aside0.mk (show howOf t = 2 ∧ howRest t = t by unfold howOf howRest; rw [he, he2]; simp)
        clear he he2
        go_wp2_with fail
        refine (HJ.out _ HC0.out.1.1).mono ?_
        rintro e wa ⟨rfl, ha⟩
        have HA := Aside0.mk (HC0.out.call ha HQG.out HRG.out)
        clear ha
        go_wp2_with fail
        refine (HM.out _ HA.out.1.1).mono ?_
        rintro e wb ⟨rfl, hb⟩
        have HB := Aside0.mk (HA.out.call hb HQG.out HRG.out)
        clear hb
        go_wp2_with fail
        go_meet
        case rel => rw [HS.out.1, HS.out.2]; exact HB.out
      · rw [he2, eaten_yes he2] at HM
        have HS := Aside0.mk (show howOf t = 3 ∧ howRest t = t.tail by unfold howOf howRest; rw [he, he2]; simp)
        clear he he2
        go_wp2_with fail
        refine (HJ.out _ HC0.out.1.1).mono ?_
        rintro e wa ⟨rfl, ha⟩
        have HA := Aside0.mk (HC0.out.call ha HQG.out HRG.out)
        clear ha
        go_wp2_with fail
        refine (HM.out _ HA.out.1.1).mono ?_
        rintro e wb ⟨rfl, hb⟩
        have HB := Aside0.mk (HA.out.call hb HQG.out HRG.out)
        have c0 := HB.out.c0
        have f0 := HB.out.fr 0
        clear hb
        go_wp2_with fail
        go_meet
        case rel => rw [HS.out.1, HS.out.2]; exact HB.out.put HQW.out HQG.out HRQ.out rfl
    · rw [he, eaten_yes he] at HJ
      have HS := Aside0.mk (show howOf t = 1 ∧ howRest t = t.tail by unfold howOf howRest; rw [he]; simp)
      clear he
      go_wp2_with fail
      refine (HJ.out _ HC0.out.1.1).mono ?_
      rintro e wa ⟨rfl, ha⟩
      have HA := Aside0.mk (HC0.out.call ha HQG.out HRG.out)
      have c0 := HA.out.c0
      have f0 := HA.out.fr 0
      clear ha
      go_wp2_with fail
      go_meet
      case rel => rw [HS.out.1, HS.out.2]; exact HA.out.put HQW.out HQG.out HRQ.out rfl
  case rest =>
  have HC1 := Aside0.mk hcut
  clear hcut HJ HM HC0
  have hhl : (howRest t).length ≤ 1000 := Nat.le_trans (howRest_len t) hlt
  have hh3 : howOf t = 3 ∨ howOf t ≠ 3 := by omega
  generalize howRest t = t1 at *
  generalize howOf t = hw at *
  rw [Option.bind_eq_some_iff] at ht
  obtain ⟨⟨n, t2⟩, e1, ht⟩ := ht
  simp only at ht
  have ht2 : t2.length ≤ 1000 := Nat.le_trans (tkNum_len e1) hhl
  have HN := Aside0.mk (fun W hW => num_yes g 3 t1 hhl (by omega) wide W hW n t2 e1)
  clear e1 hhl
  go_wp2_with fail
  refine (HN.out _ HC1.out.1.1).mono ?_
  rintro e w3 ⟨rfl, h3⟩
  have HC2 := Aside0.mk (HC1.out.call h3 HQG.out HRG.out)
  have c1 := HC2.out.c1
  have f1 := HC2.out.fr 1
  have c0 := HC2.out.c0
  clear h3 HC1 HN
  go_upto_if 21 with (fail)
  have HC3 := Aside0.mk (HC2.out.put (i := 1) (v := .int .i64 n) (c' := ⟨hw, n, 0, 0, 7200⟩) HQW.out HQG.out HRQ.out rfl)
  clear HC2 c0 c1 f1
  rw [Option.bind_eq_some_iff] at ht
  obtain ⟨⟨wk, wd, t3⟩, e2, ht⟩ := ht
  simp only at ht
  have ht3 := tkDots_len ht2 e2
  go_cut [] (fun wx => ChgAt g w1.heap.size w.heap.size t3 wide w ⟨hw, n, wk, wd, 7200⟩ wx)
  case first =>
    by_cases q3 : hw = 3
    · rw [if_pos q3, Option.bind_eq_some_iff] at e2
      obtain ⟨⟨k1, u1⟩, d1, e2⟩ := e2
      simp only at e2
      rw [Option.bind_eq_some_iff] at e2
      obtain ⟨⟨k2, u2⟩, d2, e2⟩ := e2
      simp only [Option.some.injEq, Prod.mk.injEq] at e2
      obtain ⟨rfl, rfl, rfl⟩ := e2
      have p1 : eats 46 t2 = true := by
        cases q : eats 46 t2
        · unfold tkDot at d1; rw [q, if_neg (by decide)] at d1; cases d1
        · rfl
      unfold tkDot at d1
      rw [if_pos p1] at d1
      have hu1 : u1.length ≤ 1000 := by have := tkNum_len d1; simp at this; omega
      have HD1 := Aside0.mk (fun W hW => is_calls g 46 t2 wide W hW)
      rw [p1, eaten_yes p1] at HD1
      have HN1 := Aside0.mk (fun W hW => num_yes g 3 t2.tail (by simp; omega) (by omega) wide W hW _ u1 d1)
      have p2 : eats 46 u1 = true := by
        cases q : eats 46 u1
        · unfold tkDot at d2; rw [q, if_neg (by decide)] at d2; cases d2
        · rfl
      unfold tkDot at d2
      rw [if_pos p2] at d2
      have HD2 := Aside0.mk (fun W hW => is_calls g 46 u1 wide W hW)
      rw [p2, eaten_yes p2] at HD2
      have HN2 := Aside0.mk (fun W hW => num_yes g 3 u1.tail (by simp; omega) (by omega) wide W hW _ u2 d2)
      have hq3 : (hw == 3) = true := by simp [q3]
      clear p1 p2 d1 d2 hu1 q3 hh3
      generalize t2.tail = v1 at *
      generalize u1.tail = v2 at *
      go_wp2_with fail
      refine (HD1.out _ HC3.out.1.1).mono ?_
      rintro e wa ⟨rfl, ha⟩
      have HA := Aside0.mk (HC3.out.call ha HQG.out HRG.out)
      clear ha HC3 HD1
      go_wp2_with (first | (go_at_call 56; refine (must_yes _).mono ?_; rintro e w3 ⟨rfl, rfl⟩))
      refine (HN1.out _ HA.out.1.1).mono ?_
      rintro e wb ⟨rfl, hb⟩
      have HB := Aside0.mk (HA.out.call hb HQG.out HRG.out)
      have c2 := HB.out.c2
      have f2 := HB.out.fr 2
      clear hb HA HN1
      go_wp2_with fail
      have HB2 := Aside0.mk (HB.out.put (i := 2) (v := .int .i64 k1) (c' := ⟨hw, n, k1, 0, 7200⟩) HQW.out HQG.out HRQ.out rfl)
      clear HB c2 f2
      refine (HD2.out _ HB2.out.1.1).mono ?_
      rintro e wd' ⟨rfl, hd⟩
      have HD := Aside0.mk (HB2.out.call hd HQG.out HRG.out)
      clear hd HB2 HD2
      go_wp2_with (first | (go_at_call 56; refine (must_yes _).mono ?_; rintro e w3 ⟨rfl, rfl⟩))
      refine (HN2.out _ HD.out.1.1).mono ?_
      rintro e we ⟨rfl, h5⟩
      have HE := Aside0.mk (HD.out.call h5 HQG.out HRG.out)
      have c3 := HE.out.c3
      have f3 := HE.out.fr 3
      clear h5 HD HN2
      go_wp2_with fail
      go_meet
      case rel => exact HE.out.put HQW.out HQG.out HRQ.out rfl
    · rw [if_neg q3] at e2
      simp only [Option.some.injEq, Prod.mk.injEq] at e2
      obtain ⟨rfl, rfl, rfl⟩ := e2
      have hq3 : (hw == 3) = false := by simp [q3]
      clear q3 hh3
      go_wp2_with fail
      go_meet
      case rel => exact HC3.out
  case rest =>
  have HC4 := Aside0.mk hcut
  clear hcut HC3
  have HS := Aside0.mk (fun W hW => is_calls g 47 t3 wide W hW)
  cases he : eats 47 t3
  · rw [he, if_neg (by decide)] at ht
    simp only [Option.some.injEq, Prod.mk.injEq] at ht
    obtain ⟨rfl, rfl⟩ := ht
    rw [he, eaten_no he] at HS
    clear he
    go_wp2_with fail
    refine (HS.out _ HC4.out.1.1).mono ?_
    rintro e wa ⟨rfl, ha⟩
    have HA := Aside0.mk (HC4.out.call ha HQG.out HRG.out)
    clear ha HC4 HS
    go_wp2_with (first | ((with_reducible refine gate_dst (N := 47) rfl ?_); refine wpList_load_row rfl 25 _ rfl w1.heap.size rfl 25 (⟨hw, n, wk, wd, 7200⟩ : Chg).cells (0, 0) _ HA.out.2.1 Tryd.underlying25 rfl (by kernel_rfl) ?_) | ((with_reducible refine gate_store (t := 25) (p := 2) rfl ?_); refine wpList_store_row rfl 25 (.tmp 2) (.tmp 47) rfl w.heap.size (⟨hw, n, wk, wd, 7200⟩ : Chg).cells rfl rfl 25 _ HA.out.2.2 (by kernel_rfl) rfl (by simp [Chg.cells, Value.oneCell']) ?_))
    (try simp only [Exit.inBlock, Exit.then])
    refine bodyPost_ret (results_cell_row rfl _ _ w.heap.size 25 (⟨hw, n, wk, wd, 7200⟩ : Chg).cells (0, 0) _ rfl (setRow_heap _ _ _ _ _ _ HA.out.2.2) Tryd.underlying25 rfl (by kernel_rfl)) rfl ?_
    exact ⟨rfl, HA.out.1.newRow (Nat.le_refl _) HRG.out _⟩
  · rw [if_pos he, Option.bind_eq_some_iff] at ht
    obtain ⟨⟨tm, t4⟩, e4, ht⟩ := ht
    simp only [Option.some.injEq, Prod.mk.injEq] at ht
    obtain ⟨rfl, rfl⟩ := ht
    rw [he, eaten_yes he] at HS
    have ht3l : t3.tail.length ≤ 1000 := by rw [List.length_tail]; omega
    have HT := Aside0.mk (fun W hW => time_yes g wide wide t3.tail ht3l wide W hW tm t4 e4)
    clear he e4 ht3l
    generalize t3.tail = v3 at *
    go_wp2_with fail
    refine (HS.out _ HC4.out.1.1).mono ?_
    rintro e wa ⟨rfl, ha⟩
    have HA := Aside0.mk (HC4.out.call ha HQG.out HRG.out)
    have HAD := Aside0.mk HA.out.drew
    have p1 := HAD.out.1.1.c1
    clear ha HC4 HS
    go_wp2_with fail
    go_region_with (first | (go_at_call 53; refine (HT.out _ HAD.out.1.1).mono ?_; rintro e wb ⟨rfl, hb⟩; have HB := Aside0.mk (HAD.out.call hb HQG.out HRG.out); have c4 := HB.out.c4; have f4 := HB.out.fr 4; clear hb))
    all_goals
      clear c4 f4
      have HB2 := Aside0.mk (HB.out.put (i := 4) (v := .int .i64 tm) (c' := ⟨hw, n, wk, wd, tm⟩) HQW.out HQG.out HRQ.out rfl)
      go_wp2_with (first | ((with_reducible refine gate_dst (N := 47) rfl ?_); refine wpList_load_row rfl 25 _ rfl w1.heap.size rfl 25 (⟨hw, n, wk, wd, tm⟩ : Chg).cells (0, 0) _ HB2.out.2.1 Tryd.underlying25 rfl (by kernel_rfl) ?_) | ((with_reducible refine gate_store (t := 25) (p := 2) rfl ?_); refine wpList_store_row rfl 25 (.tmp 2) (.tmp 47) rfl w.heap.size (⟨hw, n, wk, wd, tm⟩ : Chg).cells rfl rfl 25 _ HB2.out.2.2 (by kernel_rfl) rfl (by simp [Chg.cells, Value.oneCell']) ?_))
      (try simp only [Exit.inBlock, Exit.then])
      refine bodyPost_ret (results_cell_row rfl _ _ w.heap.size 25 (⟨hw, n, wk, wd, tm⟩ : Chg).cells (0, 0) _ rfl (setRow_heap _ _ _ _ _ _ HB2.out.2.2) Tryd.underlying25 rfl (by kernel_rfl)) rfl ?_
      exact ⟨rfl, HB2.out.1.newRow (Nat.le_refl _) HRG.out _⟩
set_option maxRecDepth 100000 in
set_option maxHeartbeats 8000000 in
theorem change_no (g : Nat) (l : List UInt8) (hl : l.length ≤ 1000) (wide : Bool) (w : World) (h : Psr g l wide w) (hG : G8 w) (hR : Room8 g) (ht : tkChg wide l = none) :
    Calls Tryd.prog 55 #[.pointer (some ⟨g, 0, none⟩)] w fun e w' => e = wrongE ∧ Only g w w' := by
  have HG := Aside0.mk hG
  have HR := Aside0.mk hR
  have hgw : g < w.heap.size := (Array.getElem?_eq_some_iff.1 h).1
  have HP := Aside0.mk ((PsrTo.refl h).alloc (.cells Chg.zero.cells 25))
  unfold tkChg at ht
  cases he : eats 44 l
  · have HI := Aside0.mk (fun W hW => is_calls g 44 l wide W hW)
    rw [he, eaten_no he] at HI
    clear ht he hl h hG hR
    go_enter Tryd.func55, Tryd.ntmps55
    go_wp2_with fail
    refine (HI.out _ HP.out.1).mono ?_
    rintro e w1 ⟨rfl, h1⟩
    have H1 := Aside0.mk (HP.out.trans h1)
    clear h1
    go_wp2_with fail
    refine (must_no _).mono ?_
    rintro e w3 ⟨rfl, rfl⟩
    exact ⟨rfl, rfl, H1.out.2⟩
  rw [if_pos he] at ht
  have hlt : l.tail.length ≤ 1000 := by simp; omega
  have HI := Aside0.mk (fun W hW => is_calls g 44 l wide W hW)
  rw [he, eaten_yes he] at HI
  generalize l.tail = t at *
  clear he hl h hG hR
  have HJ := Aside0.mk (fun W hW => is_calls g 74 t wide W hW)
  have HM := Aside0.mk (fun W hW => is_calls g 77 t wide W hW)
  go_enter Tryd.func55, Tryd.ntmps55
  go_wp2_with fail
  refine (HI.out _ HP.out.1).mono ?_
  rintro e w1 ⟨rfl, h1⟩
  have H1 := Aside0.mk (HP.out.trans h1)
  have BR := Aside0.mk (h1.2.old (blk_new w _) (by omega))
  have hs1 : w.heap.size < w1.heap.size := by have := h1.2.size; simp at this; omega
  have HC0 : Aside0 (ChgAt g w1.heap.size w.heap.size t wide w ⟨2, 0, 0, 0, 7200⟩ (w1.alloc (.cells #[.int .i64 2, .int .i64 0, .int .i64 0, .int .i64 0, .int .i64 7200] 25))) :=
    ⟨H1.out.alloc _, blk_new _ _, blk_alloc BR.out _⟩
  have HQW := Aside0.mk (show w.heap.size ≤ w1.heap.size by omega)
  have HQG := Aside0.mk (show w1.heap.size ≠ g by omega)
  have HRG := Aside0.mk (show w.heap.size ≠ g by omega)
  have HRQ := Aside0.mk (show w.heap.size ≠ w1.heap.size by omega)
  clear h1 hs1 H1 HP BR HI hgw
  go_upto_block 0 with (first | (go_at_call 56; refine (must_yes _).mono ?_; rintro e w3 ⟨rfl, rfl⟩))
  go_cut [] (fun wx => ChgAt g w1.heap.size w.heap.size (howRest t) wide w ⟨howOf t, 0, 0, 0, 7200⟩ wx)
  case first =>
    cases he : eats 74 t
    · rw [he, eaten_no he] at HJ
      cases he2 : eats 77 t
      · rw [he2, eaten_no he2] at HM
        have HS := Aside0.mk (show howOf t = 2 ∧ howRest t = t by unfold howOf howRest; rw [he, he2]; simp)
        clear he he2
        go_wp2_with fail
        refine (HJ.out _ HC0.out.1.1).mono ?_
        rintro e wa ⟨rfl, ha⟩
        have HA := Aside0.mk (HC0.out.call ha HQG.out HRG.out)
        clear ha
        go_wp2_with fail
        refine (HM.out _ HA.out.1.1).mono ?_
        rintro e wb ⟨rfl, hb⟩
        have HB := Aside0.mk (HA.out.call hb HQG.out HRG.out)
        clear hb
        go_wp2_with fail
        go_meet
        case rel => rw [HS.out.1, HS.out.2]; exact HB.out
      · rw [he2, eaten_yes he2] at HM
        have HS := Aside0.mk (show howOf t = 3 ∧ howRest t = t.tail by unfold howOf howRest; rw [he, he2]; simp)
        clear he he2
        go_wp2_with fail
        refine (HJ.out _ HC0.out.1.1).mono ?_
        rintro e wa ⟨rfl, ha⟩
        have HA := Aside0.mk (HC0.out.call ha HQG.out HRG.out)
        clear ha
        go_wp2_with fail
        refine (HM.out _ HA.out.1.1).mono ?_
        rintro e wb ⟨rfl, hb⟩
        have HB := Aside0.mk (HA.out.call hb HQG.out HRG.out)
        have c0 := HB.out.c0
        have f0 := HB.out.fr 0
        clear hb
        go_wp2_with fail
        go_meet
        case rel => rw [HS.out.1, HS.out.2]; exact HB.out.put HQW.out HQG.out HRQ.out rfl
    · rw [he, eaten_yes he] at HJ
      have HS := Aside0.mk (show howOf t = 1 ∧ howRest t = t.tail by unfold howOf howRest; rw [he]; simp)
      clear he
      go_wp2_with fail
      refine (HJ.out _ HC0.out.1.1).mono ?_
      rintro e wa ⟨rfl, ha⟩
      have HA := Aside0.mk (HC0.out.call ha HQG.out HRG.out)
      have c0 := HA.out.c0
      have f0 := HA.out.fr 0
      clear ha
      go_wp2_with fail
      go_meet
      case rel => rw [HS.out.1, HS.out.2]; exact HA.out.put HQW.out HQG.out HRQ.out rfl
  case rest =>
  have HC1 := Aside0.mk hcut
  clear hcut HJ HM HC0
  have hhl : (howRest t).length ≤ 1000 := Nat.le_trans (howRest_len t) hlt
  have hh3 : howOf t = 3 ∨ howOf t ≠ 3 := by omega
  generalize howRest t = t1 at *
  generalize howOf t = hw at *
  cases e1 : tkNum 3 t1 with
  | none =>
    have HN := Aside0.mk (fun W hW hg => num_no g 3 t1 hhl (by omega) wide W hW hg HR.out e1)
    clear e1 hhl ht
    go_wp2_with fail
    refine (HN.out _ HC1.out.1.1 (HC1.out.1.g8 HG.out HR.out)).mono ?_
    rintro e w3 ⟨rfl, h3⟩
    exact ⟨rfl, rfl, HC1.out.1.2.trans h3⟩
  | some nr =>
  obtain ⟨n, t2⟩ := nr
  rw [e1, Option.bind_some] at ht
  simp only at ht
  have ht2 : t2.length ≤ 1000 := Nat.le_trans (tkNum_len e1) hhl
  have HN := Aside0.mk (fun W hW => num_yes g 3 t1 hhl (by omega) wide W hW n t2 e1)
  clear e1 hhl
  go_wp2_with fail
  refine (HN.out _ HC1.out.1.1).mono ?_
  rintro e w3 ⟨rfl, h3⟩
  have HC2 := Aside0.mk (HC1.out.call h3 HQG.out HRG.out)
  have c1 := HC2.out.c1
  have f1 := HC2.out.fr 1
  have c0 := HC2.out.c0
  clear h3 HC1 HN
  go_upto_if 21 with (fail)
  have HC3 := Aside0.mk (HC2.out.put (i := 1) (v := .int .i64 n) (c' := ⟨hw, n, 0, 0, 7200⟩) HQW.out HQG.out HRQ.out rfl)
  clear HC2 c0 c1 f1
  cases e2 : (if hw = 3 then (tkDot t2).bind fun w => (tkDot w.2).bind fun d => some (w.1, d.1, d.2) else some (0, 0, t2)) with
  | none =>
    clear ht
    have q3 : hw = 3 := by
      rcases hh3 with q | q
      · exact q
      · rw [if_neg q] at e2; cases e2
    rw [if_pos q3] at e2
    have hq3 : (hw == 3) = true := by simp [q3]
    have HD1 := Aside0.mk (fun W hW => is_calls g 46 t2 wide W hW)
    cases p1 : eats 46 t2
    · rw [p1, eaten_no p1] at HD1
      clear e2 q3 hh3 p1
      go_wp2_with fail
      refine (HD1.out _ HC3.out.1.1).mono ?_
      rintro e wa ⟨rfl, ha⟩
      have HA := Aside0.mk (HC3.out.call ha HQG.out HRG.out)
      clear ha
      go_wp2_with fail
      refine (must_no _).mono ?_
      rintro e w3 ⟨rfl, rfl⟩
      exact ⟨rfl, rfl, HA.out.1.2⟩
    · rw [p1, eaten_yes p1] at HD1
      have d1 : tkDot t2 = tkNum 3 t2.tail := by unfold tkDot; rw [if_pos p1]
      rw [d1] at e2
      have hv1 : t2.tail.length ≤ 1000 := by rw [List.length_tail]; omega
      generalize t2.tail = v1 at *
      cases n1 : tkNum 3 v1 with
      | none =>
        have HN1 := Aside0.mk (fun W hW hg => num_no g 3 v1 hv1 (by omega) wide W hW hg HR.out n1)
        clear e2 q3 hh3 p1 d1 n1
        go_wp2_with fail
        refine (HD1.out _ HC3.out.1.1).mono ?_
        rintro e wa ⟨rfl, ha⟩
        have HA := Aside0.mk (HC3.out.call ha HQG.out HRG.out)
        clear ha
        go_wp2_with (first | (go_at_call 56; refine (must_yes _).mono ?_; rintro e w3 ⟨rfl, rfl⟩))
        refine (HN1.out _ HA.out.1.1 (HA.out.1.g8 HG.out HR.out)).mono ?_
        rintro e wb ⟨rfl, hb⟩
        exact ⟨rfl, rfl, HA.out.1.2.trans hb⟩
      | some ku =>
        obtain ⟨k1, u1⟩ := ku
        rw [n1, Option.bind_some] at e2
        simp only at e2
        have HN1 := Aside0.mk (fun W hW => num_yes g 3 v1 hv1 (by omega) wide W hW k1 u1 n1)
        have hu1 : u1.length ≤ 1000 := Nat.le_trans (tkNum_len n1) hv1
        have d2 : tkDot u1 = none := by
          cases d2 : tkDot u1 with
          | none => rfl
          | some z => rw [d2] at e2; cases e2
        have HD2 := Aside0.mk (fun W hW => is_calls g 46 u1 wide W hW)
        clear e2 q3 hh3 p1 d1 n1
        cases p2 : eats 46 u1
        · rw [p2, eaten_no p2] at HD2
          clear d2 p2
          go_wp2_with fail
          refine (HD1.out _ HC3.out.1.1).mono ?_
          rintro e wa ⟨rfl, ha⟩
          have HA := Aside0.mk (HC3.out.call ha HQG.out HRG.out)
          clear ha HC3 HD1
          go_wp2_with (first | (go_at_call 56; refine (must_yes _).mono ?_; rintro e w3 ⟨rfl, rfl⟩))
          refine (HN1.out _ HA.out.1.1).mono ?_
          rintro e wb ⟨rfl, hb⟩
          have HB := Aside0.mk (HA.out.call hb HQG.out HRG.out)
          have c2 := HB.out.c2
          have f2 := HB.out.fr 2
          clear hb HA HN1
          go_wp2_with fail
          have HB2 := Aside0.mk (HB.out.put (i := 2) (v := .int .i64 k1) (c' := ⟨hw, n, k1, 0, 7200⟩) HQW.out HQG.out HRQ.out rfl)
          clear HB c2 f2
          refine (HD2.out _ HB2.out.1.1).mono ?_
          rintro e wd' ⟨rfl, hd⟩
          have HD := Aside0.mk (HB2.out.call hd HQG.out HRG.out)
          clear hd HB2 HD2
          go_wp2_with fail
          refine (must_no _).mono ?_
          rintro e w3 ⟨rfl, rfl⟩
          exact ⟨rfl, rfl, HD.out.1.2⟩
        · rw [p2, eaten_yes p2] at HD2
          unfold tkDot at d2
          rw [if_pos p2] at d2
          have hv2 : u1.tail.length ≤ 1000 := by rw [List.length_tail]; omega
          have HN2 := Aside0.mk (fun W hW hg => num_no g 3 u1.tail hv2 (by omega) wide W hW hg HR.out d2)
          clear d2 p2 hv2
          generalize u1.tail = v2 at *
          go_wp2_with fail
          refine (HD1.out _ HC3.out.1.1).mono ?_
          rintro e wa ⟨rfl, ha⟩
          have HA := Aside0.mk (HC3.out.call ha HQG.out HRG.out)
          clear ha HC3 HD1
          go_wp2_with (first | (go_at_call 56; refine (must_yes _).mono ?_; rintro e w3 ⟨rfl, rfl⟩))
          refine (HN1.out _ HA.out.1.1).mono ?_
          rintro e wb ⟨rfl, hb⟩
          have HB := Aside0.mk (HA.out.call hb HQG.out HRG.out)
          have c2 := HB.out.c2
          have f2 := HB.out.fr 2
          clear hb HA HN1
          go_wp2_with fail
          have HB2 := Aside0.mk (HB.out.put (i := 2) (v := .int .i64 k1) (c' := ⟨hw, n, k1, 0, 7200⟩) HQW.out HQG.out HRQ.out rfl)
          clear HB c2 f2
          refine (HD2.out _ HB2.out.1.1).mono ?_
          rintro e wd' ⟨rfl, hd⟩
          have HD := Aside0.mk (HB2.out.call hd HQG.out HRG.out)
          clear hd HB2 HD2
          go_wp2_with (first | (go_at_call 56; refine (must_yes _).mono ?_; rintro e w3 ⟨rfl, rfl⟩))
          refine (HN2.out _ HD.out.1.1 (HD.out.1.g8 HG.out HR.out)).mono ?_
          rintro e we ⟨rfl, h5⟩
          exact ⟨rfl, rfl, HD.out.1.2.trans h5⟩
  | some wdt =>
  obtain ⟨wk, wd, t3⟩ := wdt
  rw [e2, Option.bind_some] at ht
  simp only at ht
  have ht3 := tkDots_len ht2 e2
  go_cut [] (fun wx => ChgAt g w1.heap.size w.heap.size t3 wide w ⟨hw, n, wk, wd, 7200⟩ wx)
  case first =>
    by_cases q3 : hw = 3
    · rw [if_pos q3, Option.bind_eq_some_iff] at e2
      obtain ⟨⟨k1, u1⟩, d1, e2⟩ := e2
      simp only at e2
      rw [Option.bind_eq_some_iff] at e2
      obtain ⟨⟨k2, u2⟩, d2, e2⟩ := e2
      simp only [Option.some.injEq, Prod.mk.injEq] at e2
      obtain ⟨rfl, rfl, rfl⟩ := e2
      have p1 : eats 46 t2 = true := by
        cases q : eats 46 t2
        · unfold tkDot at d1; rw [q, if_neg (by decide)] at d1; cases d1
        · rfl
      unfold tkDot at d1
      rw [if_pos p1] at d1
      have hu1 : u1.length ≤ 1000 := by have := tkNum_len d1; simp at this; omega
      have HD1 := Aside0.mk (fun W hW => is_calls g 46 t2 wide W hW)
      rw [p1, eaten_yes p1] at HD1
      have HN1 := Aside0.mk (fun W hW => num_yes g 3 t2.tail (by simp; omega) (by omega) wide W hW _ u1 d1)
      have p2 : eats 46 u1 = true := by
        cases q : eats 46 u1
        · unfold tkDot at d2; rw [q, if_neg (by decide)] at d2; cases d2
        · rfl
      unfold tkDot at d2
      rw [if_pos p2] at d2
      have HD2 := Aside0.mk (fun W hW => is_calls g 46 u1 wide W hW)
      rw [p2, eaten_yes p2] at HD2
      have HN2 := Aside0.mk (fun W hW => num_yes g 3 u1.tail (by simp; omega) (by omega) wide W hW _ u2 d2)
      have hq3 : (hw == 3) = true := by simp [q3]
      clear p1 p2 d1 d2 hu1 q3 hh3
      generalize t2.tail = v1 at *
      generalize u1.tail = v2 at *
      go_wp2_with fail
      refine (HD1.out _ HC3.out.1.1).mono ?_
      rintro e wa ⟨rfl, ha⟩
      have HA := Aside0.mk (HC3.out.call ha HQG.out HRG.out)
      clear ha HC3 HD1
      go_wp2_with (first | (go_at_call 56; refine (must_yes _).mono ?_; rintro e w3 ⟨rfl, rfl⟩))
      refine (HN1.out _ HA.out.1.1).mono ?_
      rintro e wb ⟨rfl, hb⟩
      have HB := Aside0.mk (HA.out.call hb HQG.out HRG.out)
      have c2 := HB.out.c2
      have f2 := HB.out.fr 2
      clear hb HA HN1
      go_wp2_with fail
      have HB2 := Aside0.mk (HB.out.put (i := 2) (v := .int .i64 k1) (c' := ⟨hw, n, k1, 0, 7200⟩) HQW.out HQG.out HRQ.out rfl)
      clear HB c2 f2
      refine (HD2.out _ HB2.out.1.1).mono ?_
      rintro e wd' ⟨rfl, hd⟩
      have HD := Aside0.mk (HB2.out.call hd HQG.out HRG.out)
      clear hd HB2 HD2
      go_wp2_with (first | (go_at_call 56; refine (must_yes _).mono ?_; rintro e w3 ⟨rfl, rfl⟩))
      refine (HN2.out _ HD.out.1.1).mono ?_
      rintro e we ⟨rfl, h5⟩
      have HE := Aside0.mk (HD.out.call h5 HQG.out HRG.out)
      have c3 := HE.out.c3
      have f3 := HE.out.fr 3
      clear h5 HD HN2
      go_wp2_with fail
      go_meet
      case rel => exact HE.out.put HQW.out HQG.out HRQ.out rfl
    · rw [if_neg q3] at e2
      simp only [Option.some.injEq, Prod.mk.injEq] at e2
      obtain ⟨rfl, rfl, rfl⟩ := e2
      have hq3 : (hw == 3) = false := by simp [q3]
      clear q3 hh3
      go_wp2_with fail
      go_meet
      case rel => exact HC3.out
  case rest =>
  have HC4 := Aside0.mk hcut
  clear hcut HC3
  have he : eats 47 t3 = true := by
    cases q : eats 47 t3
    · rw [q, if_neg (by decide)] at ht; cases ht
    · rfl
  rw [if_pos he] at ht
  have HS := Aside0.mk (fun W hW => is_calls g 47 t3 wide W hW)
  rw [he, eaten_yes he] at HS
  have ht3l : t3.tail.length ≤ 1000 := by rw [List.length_tail]; omega
  have e4 : tkTime wide wide t3.tail = none := by
    cases e4 : tkTime wide wide t3.tail with
    | none => rfl
    | some z => rw [e4] at ht; cases ht
  have HT := Aside0.mk (fun W hW hg => time_no g wide wide t3.tail ht3l wide W hW hg HR.out e4)
  clear he e4 ht3l ht
  generalize t3.tail = v3 at *
  go_wp2_with fail
  refine (HS.out _ HC4.out.1.1).mono ?_
  rintro e wa ⟨rfl, ha⟩
  have HA := Aside0.mk (HC4.out.call ha HQG.out HRG.out)
  have HAD := Aside0.mk HA.out.drew
  have p1 := HAD.out.1.1.c1
  clear ha HC4 HS
  go_wp2_with fail
  refine wp_region_held_drew (S := fun w' => w'.cell? ⟨g, 1, none⟩ = some (.bool wide)) (by kernel_rfl) p1 (fun hHeld => ?_)
  refine wpAnyH_take (i := 0) (v := ?v0) rfl (by kernel_rfl) (by kernel_rfl) (by kernel_rfl) (fun _ _ _ h => h) (Or.inl ⟨by rfl, ?y0⟩) (by assumption) ?r0
  case y0 => intro w hSw; (try dsimp only at hSw); go_simp; try with_reducible rfl
  try simp only [Act.put, List.setIfInBounds_toArray, List.set_cons_zero, List.set_cons_succ]
  refine wpAnyH_take (i := 1) (v := ?v1) rfl (by kernel_rfl) (by kernel_rfl) (by kernel_rfl) (fun _ _ _ h => h) (Or.inl ⟨by rfl, ?y1⟩) (by assumption) ?r1
  case y1 => intro w hSw; (try dsimp only at hSw); go_simp; try with_reducible rfl
  try simp only [Act.put, List.setIfInBounds_toArray, List.set_cons_zero, List.set_cons_succ]
  refine wpAnyH_take (i := 2) (v := ?v2) rfl (by kernel_rfl) (by kernel_rfl) (by kernel_rfl) (fun _ _ _ h => h) (Or.inl ⟨by rfl, ?y2⟩) (by assumption) ?r2
  case y2 => intro w hSw; (try dsimp only at hSw); go_simp; try with_reducible rfl
  try simp only [Act.put, List.setIfInBounds_toArray, List.set_cons_zero, List.set_cons_succ]
  refine wpAnyH_take (i := 3) (v := ?v3) rfl (by kernel_rfl) (by kernel_rfl) (by kernel_rfl) (fun _ _ _ h => h) (Or.inl ⟨by rfl, ?y3⟩) (by assumption) ?r3
  case y3 => intro w hSw; (try dsimp only at hSw); go_simp; try with_reducible rfl
  try simp only [Act.put, List.setIfInBounds_toArray, List.set_cons_zero, List.set_cons_succ]
  refine wpAnyH_take (i := 4) (v := ?v4) rfl (by kernel_rfl) (by kernel_rfl) (by kernel_rfl) (fun _ _ _ h => h) (Or.inl ⟨by rfl, ?y4⟩) (by assumption) ?r4
  case y4 => intro w hSw; (try dsimp only at hSw); go_simp; try with_reducible rfl
  try simp only [Act.put, List.setIfInBounds_toArray, List.set_cons_zero, List.set_cons_succ]
  refine wpAnyH_take (i := 5) (v := ?v5) rfl (by kernel_rfl) (by kernel_rfl) (by kernel_rfl) (fun _ _ _ h => h) (Or.inl ⟨by rfl, ?y5⟩) (by assumption) ?r5
  case y5 => intro w hSw; (try dsimp only at hSw); go_simp; try with_reducible rfl
  try simp only [Act.put, List.setIfInBounds_toArray, List.set_cons_zero, List.set_cons_succ]
  refine wpAnyH_take (i := 6) (v := ?v6) rfl (by kernel_rfl) (by kernel_rfl) (by kernel_rfl) (fun _ _ _ h => h) (Or.inl ⟨by rfl, ?y6⟩) (by assumption) ?r6
  case y6 => intro w hSw; (try dsimp only at hSw); go_simp; try with_reducible rfl
  try simp only [Act.put, List.setIfInBounds_toArray, List.set_cons_zero, List.set_cons_succ]
  refine wpAnyH_take (i := 7) (v := ?v7) rfl (by kernel_rfl) (by kernel_rfl) (by kernel_rfl) (fun _ _ _ h => h) (Or.inl ⟨by rfl, ?y7⟩) (by assumption) ?r7
  case y7 => intro w hSw; (try dsimp only at hSw); go_simp; try with_reducible rfl
  try simp only [Act.put, List.setIfInBounds_toArray, List.set_cons_zero, List.set_cons_succ]
  refine wpAnyH_take (i := 8) (v := ?v8) rfl (by kernel_rfl) (by kernel_rfl) (by kernel_rfl) (fun _ _ _ h => h) (Or.inl ⟨by rfl, ?y8⟩) (by assumption) ?r8
  case y8 => intro w hSw; (try dsimp only at hSw); go_simp; try with_reducible rfl
  try simp only [Act.put, List.setIfInBounds_toArray, List.set_cons_zero, List.set_cons_succ]
  refine wpAnyH_ready (rs := [9]) (by kernel_rfl) (by simp) ?_
  refine AllReadyH.cons rfl (fun K hK => ?_) AllReadyH.nil
  go_simp
  refine (HT.out _ HAD.out.1.1 (HAD.out.1.g8 HG.out HR.out)).mono ?_
  rintro e wb ⟨rfl, hb⟩
  exact ⟨rfl, rfl, HAD.out.1.2.trans hb⟩
end Go.Proofs.YtnbjneknicppcaaDoor.Fn

namespace Go.Proofs.YtnbjneknicppcaaDoor.Fn
set_option linter.unusedVariables false
set_option linter.unusedSimpArgs false
open Go.RowKit Go.Proofs.YtnbjneknicppcaaDoorW.PrintWords Go.Proofs.YtnbjneknicppcaaDoorW.PrintLast Go.Lib
def RulAt (g R : Nat) (l : List UInt8) (wide : Bool) (w : World) (r : Rul) (wx : World) : Prop :=
  PsrTo g l wide w wx ∧ wx.heap[R]? = some (.cells r.cells 27 (0, 0))
theorem RulAt.call {g R : Nat} {l m : List UInt8} {wide : Bool} {w w1 w2 : World} {r : Rul} (h : RulAt g R l wide w r w1) (k : PsrTo g m wide w1 w2) (hR : R ≠ g) : RulAt g R m wide w r w2 := ⟨h.1.trans k, k.2.old h.2 hR⟩
theorem RulAt.put {g R i : Nat} {l : List UInt8} {wide : Bool} {w w1 : World} {r r' : Rul} {v : Value} (h : RulAt g R l wide w r w1) (hw : w.heap.size ≤ R) (hR : R ≠ g) (e : r.cells.setIfInBounds i v = r'.cells) : RulAt g R l wide w r' (w1.setCell ⟨R, i, none⟩ v) :=
  ⟨h.1.new hw hR v, blk_put h.2 i v e⟩
theorem RulAt.put3 {g R i j k : Nat} {l : List UInt8} {wide : Bool} {w w1 : World} {r r' : Rul} {u v x : Value} (h : RulAt g R l wide w r w1) (hw : w.heap.size ≤ R) (hR : R ≠ g) (e : ((r.cells.setIfInBounds i u).setIfInBounds j v).setIfInBounds k x = r'.cells) :
    RulAt g R l wide w r' (((w1.setCell ⟨R, i, none⟩ u).setCell ⟨R, j, none⟩ v).setCell ⟨R, k, none⟩ x) :=
  ⟨((h.1.new hw hR u).new hw hR v).new hw hR x, blk_put (blk_set (blk_set h.2 i u) j v) k x e⟩
theorem RulAt.put5 {g R i j k m n : Nat} {l : List UInt8} {wide : Bool} {w w1 : World} {r r' : Rul} {u v x y z : Value} (h : RulAt g R l wide w r w1) (hw : w.heap.size ≤ R) (hR : R ≠ g) (e : ((((r.cells.setIfInBounds i u).setIfInBounds j v).setIfInBounds k x).setIfInBounds m y).setIfInBounds n z = r'.cells) :
    RulAt g R l wide w r' (((((w1.setCell ⟨R, i, none⟩ u).setCell ⟨R, j, none⟩ v).setCell ⟨R, k, none⟩ x).setCell ⟨R, m, none⟩ y).setCell ⟨R, n, none⟩ z) :=
  ⟨((((h.1.new hw hR u).new hw hR v).new hw hR x).new hw hR y).new hw hR z, blk_put (blk_set (blk_set (blk_set (blk_set h.2 i u) j v) k x) m y) n z e⟩
theorem RulAt.drew {g R : Nat} {l : List UInt8} {wide : Bool} {w w1 : World} {r : Rul} (h : RulAt g R l wide w r w1) : RulAt g R l wide w r w1.drew := ⟨h.1.drew, h.2⟩
theorem RulAt.below {g R : Nat} {l : List UInt8} {wide : Bool} {w w1 w2 : World} {r : Rul} (h : RulAt g R l wide w r w1) (k : Below w1.heap.size w1 w2) : RulAt g R l wide w r w2 := ⟨h.1.below k, blk_below h.2 k⟩
theorem RulAt.cell {g R : Nat} {l : List UInt8} {wide : Bool} {w wx : World} {r : Rul} (h : RulAt g R l wide w r wx) (i : Nat) {v : Value} (e : r.cells[i]? = some v) : wx.cell? ⟨R, i, none⟩ = some v := (blk_cell h.2 i).trans e
theorem RulAt.fr {g R : Nat} {l : List UInt8} {wide : Bool} {w wx : World} {r : Rul} (h : RulAt g R l wide w r wx) (i : Nat) : wx.frozen? ⟨R, i, none⟩ = false := blk_frozen h.2 i
theorem RulAt.row {g R : Nat} {l : List UInt8} {wide : Bool} {w wx : World} {r : Rul} (h : RulAt g R l wide w r wx) (hw : w.heap.size ≤ R) (hR : R ≠ g) : RulAt g R l wide w r (wx.setRow R r.cells) := ⟨h.1.newRow hw hR _, setRow_heap _ _ _ _ _ _ h.2⟩
theorem tkTime_bound {l rest : List UInt8} {n : Int} (h : tkTime true false l = some (n, rest)) : -89999 ≤ n ∧ n ≤ 89999 ∧ rest.length ≤ l.length := by
  unfold tkTime at h
  rw [Option.bind_eq_some_iff] at h
  obtain ⟨⟨hh, l2⟩, e1, h⟩ := h
  have h0 := tkNum_nonneg e1
  have h1 := tkNum_len e1
  have h2 := signRest_len true l
  have hs := signOf_1 true l
  simp only [Bool.false_eq_true, if_false] at h
  by_cases hle : hh ≤ 24
  · rw [if_pos hle, Option.bind_eq_some_iff] at h
    obtain ⟨⟨m, b, l3⟩, e2, h⟩ := h
    have k2 := tkSixty_ok e2
    generalize signOf true l = sg at *
    cases b
    · simp only [Bool.false_eq_true, if_false, Option.some.injEq, Prod.mk.injEq] at h
      obtain ⟨rfl, rfl⟩ := h
      rcases (show sg = -1 ∨ sg = 0 ∨ sg = 1 by omega) with rfl | rfl | rfl <;> omega
    · simp only [if_true] at h
      rw [Option.bind_eq_some_iff] at h
      obtain ⟨⟨q, b2, l4⟩, e3, h⟩ := h
      have k3 := tkSixty_ok e3
      simp only [Option.some.injEq, Prod.mk.injEq] at h
      obtain ⟨rfl, rfl⟩ := h
      rcases (show sg = -1 ∨ sg = 0 ∨ sg = 1 by omega) with rfl | rfl | rfl <;> omega
  · rw [if_neg hle] at h; cases h
theorem tkName_len {l nm rest : List UInt8} (h : tkName l = some (nm, rest)) : rest.length ≤ l.length := by
  unfold tkName at h
  split at h
  · split at h
    · split at h
      · simp only [Option.some.injEq, Prod.mk.injEq] at h; rw [← h.2, List.length_drop, List.length_tail]; omega
      · cases h
    · cases h
  · split at h
    · simp only [Option.some.injEq, Prod.mk.injEq] at h; rw [← h.2]; simp
    · cases h
theorem tkTime_len {s wd : Bool} {l rest : List UInt8} {n : Int} (h : tkTime s wd l = some (n, rest)) : rest.length ≤ l.length := by
  unfold tkTime at h
  rw [Option.bind_eq_some_iff] at h
  obtain ⟨⟨hh, l2⟩, e1, h⟩ := h
  have h1 := tkNum_len e1
  have h2 := signRest_len s l
  simp only at h
  generalize (if wd = true then (167 : Int) else 24) = hw at h
  by_cases hle : hh ≤ hw
  · rw [if_pos hle, Option.bind_eq_some_iff] at h
    obtain ⟨⟨m, b, l3⟩, e2, h⟩ := h
    have k2 := tkSixty_ok e2
    cases b
    · simp only [Bool.false_eq_true, if_false, Option.some.injEq, Prod.mk.injEq] at h
      rw [← h.2]; omega
    · simp only [if_true] at h
      rw [Option.bind_eq_some_iff] at h
      obtain ⟨⟨q, b2, l4⟩, e3, h⟩ := h
      have k3 := tkSixty_ok e3
      simp only [Option.some.injEq, Prod.mk.injEq] at h
      rw [← h.2]; omega
  · rw [if_neg hle] at h; cases h
theorem tkOff_len {std : Int} {l rest : List UInt8} {n : Int} (h : tkOff std l = some (n, rest)) : rest.length ≤ l.length := by
  unfold tkOff at h
  split at h
  · simp only [Option.some.injEq, Prod.mk.injEq] at h; rw [h.2]; exact Nat.le_refl _
  · rw [Option.bind_eq_some_iff] at h
    obtain ⟨⟨d, l2⟩, e, h⟩ := h
    simp only [Option.some.injEq, Prod.mk.injEq] at h
    rw [← h.2]; exact tkTime_len e
theorem tkChg_len {wide : Bool} {l rest : List UInt8} {c : Chg} (h : tkChg wide l = some (c, rest)) : rest.length ≤ l.length := by
  unfold tkChg at h
  split at h
  · rw [Option.bind_eq_some_iff] at h
    obtain ⟨⟨n, t2⟩, e1, h⟩ := h
    have k1 := tkNum_len e1
    have k0 := howRest_len l.tail
    simp only at h
    rw [Option.bind_eq_some_iff] at h
    obtain ⟨⟨wk, wd, t3⟩, e2, h⟩ := h
    have k2 : t3.length ≤ t2.length := by
      split at e2
      · rw [Option.bind_eq_some_iff] at e2
        obtain ⟨⟨k1, u1⟩, d1, e2⟩ := e2
        rw [Option.bind_eq_some_iff] at e2
        obtain ⟨⟨k2, u2⟩, d2, e2⟩ := e2
        simp only [Option.some.injEq, Prod.mk.injEq] at e2
        rw [← e2.2.2]
        exact Nat.le_trans (tkDot_len d2) (tkDot_len d1)
      · simp only [Option.some.injEq, Prod.mk.injEq] at e2
        rw [← e2.2.2]; exact Nat.le_refl _
    rw [List.length_tail] at k0
    simp only at h
    split at h
    · rw [Option.bind_eq_some_iff] at h
      obtain ⟨⟨t, t4⟩, e3, h⟩ := h
      have k3 := tkTime_len e3
      rw [List.length_tail] at k3
      simp only [Option.some.injEq, Prod.mk.injEq] at h
      rw [← h.2]; omega
    · simp only [Option.some.injEq, Prod.mk.injEq] at h
      rw [← h.2]; omega
  · cases h
set_option maxRecDepth 100000 in
set_option maxHeartbeats 8000000 in
theorem rule_yes (g : Nat) (l : List UInt8) (hl : l.length ≤ 1000) (wide : Bool) (w : World) (h : Psr g l wide w) (r : Rul) (ht : tkRule wide l = some r) :
    Calls Tryd.prog 36 #[.pointer (some ⟨g, 0, none⟩)] w fun e w' => e = .returned (.agg r.cells) ∧ Only g w w' := by
  have hgw : g < w.heap.size := (Array.getElem?_eq_some_iff.1 h).1
  have HR0 : Aside0 (RulAt g w.heap.size l wide w .zero (w.alloc (.cells Rul.zero.cells 27))) := ⟨(PsrTo.refl h).alloc _, blk_new _ _⟩
  have HRG := Aside0.mk (show w.heap.size ≠ g by omega)
  unfold tkRule at ht
  rw [Option.bind_eq_some_iff] at ht
  obtain ⟨⟨nm, l1⟩, e1, ht⟩ := ht
  simp only at ht
  rw [Option.bind_eq_some_iff] at ht
  obtain ⟨⟨b, l2⟩, e2, ht⟩ := ht
  simp only at ht
  have hl1 : l1.length ≤ 1000 := Nat.le_trans (tkName_len e1) hl
  obtain ⟨hb0, hb1, hl2⟩ := tkTime_bound e2
  have hl2' : l2.length ≤ 1000 := by omega
  have HN := Aside0.mk (fun W hW => name_yes g l hl wide W hW nm l1 e1)
  have HT := Aside0.mk (fun W hW => time_yes g true false l1 hl1 wide W hW b l2 e2)
  have HLE := Aside0.mk (Nat.le_refl w.heap.size)
  clear e1 e2 hl hl1 hl2 h hgw
  go_enter Tryd.func36, Tryd.ntmps36
  go_wp2_with fail
  refine (HN.out _ HR0.out.1.1).mono ?_
  rintro e w1 ⟨rfl, h1⟩
  have H1 := Aside0.mk (HR0.out.call h1 HRG.out)
  have c2 := H1.out.cell 2 (v := .string ⟨#[]⟩) rfl
  have f2 := H1.out.fr 2
  clear h1 HN HR0
  go_wp2_with fail
  have H2 := Aside0.mk (H1.out.put (i := 2) (v := .string ⟨nm.toArray⟩) (r' := ⟨⟨0, false, Tx nm⟩, .zero, false, .zero, .zero⟩) HLE.out HRG.out rfl)
  clear H1 c2 f2
  refine (HT.out _ H2.out.1.1).mono ?_
  rintro e w2 ⟨rfl, h2⟩
  have H3 := Aside0.mk (H2.out.call h2 HRG.out)
  have c0 := H3.out.cell 0 (v := .int .i64 0) rfl
  have f0 := H3.out.fr 0
  clear h2 HT H2
  have H4 := Aside0.mk (H3.out.put (i := 0) (v := .int .i64 (-b)) (r' := ⟨⟨-b, false, Tx nm⟩, .zero, false, .zero, .zero⟩) HLE.out HRG.out rfl)
  have p0 := H3.out.1.1.c0
  have hgR := HRG.out
  by_cases hne : l2 = []
  · rw [if_pos hne] at ht
    obtain rfl := Option.some.inj ht
    have hemp : l2.isEmpty = true := by simp [hne]
    clear hne ht
    go_upto_if 16 with (fail)
    clear c0 f0 H3 p0
    go_wp2_with (first | ((with_reducible refine gate_dst (N := 17) rfl ?_); refine wpList_load_row rfl 27 _ rfl w.heap.size rfl 27 (⟨⟨-b, false, Tx nm⟩, .zero, false, .zero, .zero⟩ : Rul).cells (0, 0) _ H4.out.2 Tryd.underlying27 rfl (by kernel_rfl) ?_) | ((with_reducible refine gate_store (t := 27) (p := 2) rfl ?_); refine wpList_store_row rfl 27 (.tmp 2) (.tmp 17) rfl w.heap.size (⟨⟨-b, false, Tx nm⟩, .zero, false, .zero, .zero⟩ : Rul).cells rfl rfl 27 _ H4.out.2 (by kernel_rfl) rfl (by simp [Rul.cells, Value.oneCell']) ?_))
    (try simp only [Exit.inBlock, Exit.then])
    refine bodyPost_ret (results_cell_row rfl _ _ w.heap.size 27 (⟨⟨-b, false, Tx nm⟩, .zero, false, .zero, .zero⟩ : Rul).cells (0, 0) _ rfl (setRow_heap _ _ _ _ _ _ H4.out.2) Tryd.underlying27 rfl (by kernel_rfl)) rfl ?_
    exact ⟨rfl, (H4.out.row HLE.out HRG.out).1.2⟩
  · rw [if_neg hne] at ht
    have hemp : l2.isEmpty = false := by simp [hne]
    clear hne
    rw [Option.bind_eq_some_iff] at ht
    obtain ⟨⟨dm, l3⟩, e3, ht⟩ := ht
    simp only at ht
    rw [Option.bind_eq_some_iff] at ht
    obtain ⟨⟨o, l4⟩, e4, ht⟩ := ht
    simp only at ht
    rw [Option.bind_eq_some_iff] at ht
    obtain ⟨⟨⟨a0, a1, a2, a3, a4⟩, l5⟩, e5, ht⟩ := ht
    simp only at ht
    rw [Option.bind_eq_some_iff] at ht
    obtain ⟨⟨⟨x0, x1, x2, x3, x4⟩, l6⟩, e6, ht⟩ := ht
    simp only at ht
    have h6 : l6 = [] := by
      by_cases q : l6 = []
      · exact q
      · rw [if_neg q] at ht; cases ht
    subst h6
    rw [if_pos rfl] at ht
    obtain ⟨F, hF⟩ : ∃ F : Rul, F = ⟨⟨-b, false, Tx nm⟩, ⟨o, true, Tx dm⟩, true, ⟨a0, a1, a2, a3, a4⟩, ⟨x0, x1, x2, x3, x4⟩⟩ := ⟨_, rfl⟩
    rw [← hF] at ht
    have hright : F.right wide = true := by
      cases q : F.right wide
      · rw [if_neg (by rw [q]; decide)] at ht; cases ht
      · rfl
    rw [if_pos hright] at ht
    obtain rfl := Option.some.inj ht
    have hl3 : l3.length ≤ 1000 := Nat.le_trans (tkName_len e3) hl2'
    have hl4 : l4.length ≤ 1000 := Nat.le_trans (tkOff_len e4) hl3
    have hl5 : l5.length ≤ 1000 := Nat.le_trans (tkChg_len e5) hl4
    have HN2 := Aside0.mk (fun W hW => name_yes g l2 hl2' wide W hW dm l3 e3)
    have HC1 : Aside0 (∀ W, Psr g l4 wide W → Calls Tryd.prog 55 #[.pointer (some ⟨g, 0, none⟩)] W fun e w' => e = .returned (.agg #[.int .i64 a0, .int .i64 a1, .int .i64 a2, .int .i64 a3, .int .i64 a4]) ∧ PsrTo g l5 wide W w') := ⟨fun W hW => change_yes g l4 hl4 wide W hW ⟨a0, a1, a2, a3, a4⟩ l5 e5⟩
    have HC2 : Aside0 (∀ W, Psr g l5 wide W → Calls Tryd.prog 55 #[.pointer (some ⟨g, 0, none⟩)] W fun e w' => e = .returned (.agg #[.int .i64 x0, .int .i64 x1, .int .i64 x2, .int .i64 x3, .int .i64 x4]) ∧ PsrTo g [] wide W w') := ⟨fun W hW => change_yes g l5 hl5 wide W hW ⟨x0, x1, x2, x3, x4⟩ [] e6⟩
    have HP : Aside0 (∀ W, Calls Tryd.prog 54 #[.string ⟨l3.toArray⟩, .string ⟨#[44]⟩] W fun e w' => e = .returned (.bool (eats 44 l3)) ∧ W = w') :=
      ⟨fun W => (Tryd.strings_HasPrefix ⟨l3.toArray⟩ ⟨#[44]⟩ W).mono fun e w' h => ⟨by rw [h.1]; simp only [List.toList_toArray]; rw [hasPrefix_one], h.2.symm⟩⟩
    have HRT : Aside0 (∀ W, Calls Tryd.prog 16 #[.agg #[.int .i64 (-b), .bool false, .string ⟨nm.toArray⟩, .int .i64 o, .bool true, .string ⟨dm.toArray⟩, .bool true, .int .i64 a0, .int .i64 a1, .int .i64 a2, .int .i64 a3, .int .i64 a4, .int .i64 x0, .int .i64 x1, .int .i64 x2, .int .i64 x3, .int .i64 x4], .bool wide] W fun e w' => e = .returned (.bool true) ∧ Below W.heap.size W w') :=
      ⟨fun W => posix_Right.calls 3 (-b) false (Tx nm) o true (Tx dm) true a0 a1 a2 a3 a4 x0 x1 x2 x3 x4 wide true W (by rw [rightR_eq 0]; rw [hF] at hright; exact congrArg some hright)⟩
    have HF := Aside0.mk hF
    clear e3 e5 e6 ht hright hF hl4 hl5 hl2'
    go_upto_if 16 with (fail)
    clear c0 f0 H3 p0
    have c6 := H4.out.cell 6 (v := .bool false) rfl
    have f6 := H4.out.fr 6
    go_wp2_with fail
    clear c6 f6
    have H5 := Aside0.mk (H4.out.put (i := 6) (v := .bool true) (r' := ⟨⟨-b, false, Tx nm⟩, .zero, true, .zero, .zero⟩) HLE.out HRG.out rfl)
    have H5D := Aside0.mk H5.out.drew
    have c0 := H5D.out.cell 0 (v := .int .i64 (-b)) rfl
    clear H4
    go_cut [] (fun wx => RulAt g w.heap.size l3 wide w ⟨⟨-b, false, Tx nm⟩, ⟨-b + 3600, true, Tx dm⟩, true, .zero, .zero⟩ wx)
    case first =>
      have hw : IntKind.i64.wrap (-b + 3600) = -b + 3600 := IntWalk.i64_in _ (by omega)
      clear hb0 hb1
      go_region_with (first | (go_at_call 52; refine (HN2.out _ H5D.out.1.1).mono ?_; rintro e wb ⟨rfl, hb⟩; have H6 := Aside0.mk (H5D.out.call hb HRG.out); have c0 := H6.out.cell 0 (v := .int .i64 (-b)) rfl; have c3 := H6.out.cell 3 (v := .int .i64 0) rfl; have c4 := H6.out.cell 4 (v := .bool false) rfl; have c5 := H6.out.cell 5 (v := .string ⟨#[]⟩) rfl; have f3 := H6.out.fr 3; have f4 := H6.out.fr 4; have f5 := H6.out.fr 5; clear hb))
      all_goals
        clear c3 c4 c5 f3 f4 f5
        go_wp2_with fail
        go_meet
        case rel => exact H6.out.put3 (i := 3) (j := 4) (k := 5) (r' := ⟨⟨-b, false, Tx nm⟩, ⟨-b + 3600, true, Tx dm⟩, true, .zero, .zero⟩) HLE.out HRG.out rfl
    case rest =>
    have H6 := Aside0.mk hcut
    clear hcut H5 H5D c0
    have p0 := H6.out.1.1.c0
    go_upto_if 32 with (first | (go_at_call 54; refine (HP.out _).mono ?_; rintro e w' ⟨rfl, rfl⟩))
    clear p0 HP
    go_cut [] (fun wx => RulAt g w.heap.size l4 wide w ⟨⟨-b, false, Tx nm⟩, ⟨o, true, Tx dm⟩, true, .zero, .zero⟩ wx)
    case first =>
      unfold tkOff at e4
      cases he : eats 44 l3
      · rw [he, if_neg (by decide), Option.bind_eq_some_iff] at e4
        obtain ⟨⟨d, l4'⟩, e4, e4'⟩ := e4
        simp only [Option.some.injEq, Prod.mk.injEq] at e4'
        obtain ⟨rfl, rfl⟩ := e4'
        obtain ⟨hd0, hd1, -⟩ := tkTime_bound e4
        have HT2 := Aside0.mk (fun W hW => time_yes g true false l3 hl3 wide W hW d l4' e4)
        clear he e4 hl3 hb0 hb1
        go_wp2_with fail
        refine (HT2.out _ H6.out.1.1).mono ?_
        rintro e wb ⟨rfl, hb⟩
        have H7 := Aside0.mk (H6.out.call hb HRG.out)
        have c3 := H7.out.cell 3 (v := .int .i64 (-b + 3600)) rfl
        have f3 := H7.out.fr 3
        clear hb HT2 H6
        go_wp2_with fail
        go_meet
        case rel => exact H7.out.put (i := 3) HLE.out HRG.out rfl
      · rw [he, if_pos rfl] at e4
        simp only [Option.some.injEq, Prod.mk.injEq] at e4
        obtain ⟨rfl, rfl⟩ := e4
        clear he
        go_wp2_with fail
        go_meet
        case rel => exact H6.out
    case rest =>
    have H7 := Aside0.mk hcut
    clear hcut H6 e4 hb0 hb1 hl3
    go_wp2_with fail
    refine (HC1.out _ H7.out.1.1).mono ?_
    rintro e w8 ⟨rfl, h8⟩
    have H8 := Aside0.mk (H7.out.call h8 HRG.out)
    have c7 := H8.out.cell 7 (v := .int .i64 0) rfl
    have f7 := H8.out.fr 7
    have c8 := H8.out.cell 8 (v := .int .i64 0) rfl
    have f8 := H8.out.fr 8
    have c9 := H8.out.cell 9 (v := .int .i64 0) rfl
    have f9 := H8.out.fr 9
    have c10 := H8.out.cell 10 (v := .int .i64 0) rfl
    have f10 := H8.out.fr 10
    have c11 := H8.out.cell 11 (v := .int .i64 0) rfl
    have f11 := H8.out.fr 11
    clear h8 HC1 H7
    go_upto_region 10 with (fail)
    have H9 := Aside0.mk (H8.out.put5 (i := 7) (j := 8) (k := 9) (m := 10) (n := 11) (u := .int .i64 a0) (v := .int .i64 a1) (x := .int .i64 a2) (y := .int .i64 a3) (z := .int .i64 a4) (r' := ⟨⟨-b, false, Tx nm⟩, ⟨o, true, Tx dm⟩, true, ⟨a0, a1, a2, a3, a4⟩, .zero⟩) HLE.out HRG.out rfl)
    clear H8 c7 c8 c9 c10 c11 f7 f8 f9 f10 f11
    go_cut [] (fun wx => RulAt g w.heap.size [] wide w (⟨⟨-b, false, Tx nm⟩, ⟨o, true, Tx dm⟩, true, ⟨a0, a1, a2, a3, a4⟩, ⟨x0, x1, x2, x3, x4⟩⟩ : Rul) wx)
    case first =>
      go_wp2_with fail
      refine (HC2.out _ H9.out.1.1).mono ?_
      rintro e w10 ⟨rfl, h10⟩
      have H10 := Aside0.mk (H9.out.call h10 HRG.out)
      have c12 := H10.out.cell 12 (v := .int .i64 0) rfl
      have f12 := H10.out.fr 12
      have c13 := H10.out.cell 13 (v := .int .i64 0) rfl
      have f13 := H10.out.fr 13
      have c14 := H10.out.cell 14 (v := .int .i64 0) rfl
      have f14 := H10.out.fr 14
      have c15 := H10.out.cell 15 (v := .int .i64 0) rfl
      have f15 := H10.out.fr 15
      have c16 := H10.out.cell 16 (v := .int .i64 0) rfl
      have f16 := H10.out.fr 16
      clear h10 HC2 H9
      go_wp2_with fail
      go_meet
      case rel => exact H10.out.put5 (i := 12) (j := 13) (k := 14) (m := 15) (n := 16) (u := .int .i64 x0) (v := .int .i64 x1) (x := .int .i64 x2) (y := .int .i64 x3) (z := .int .i64 x4) (r' := (⟨⟨-b, false, Tx nm⟩, ⟨o, true, Tx dm⟩, true, ⟨a0, a1, a2, a3, a4⟩, ⟨x0, x1, x2, x3, x4⟩⟩ : Rul)) HLE.out HRG.out rfl
    case rest =>
    have H11 := Aside0.mk hcut
    clear hcut H9 HC2
    go_upto_region 11 with (fail)
    have H12 := Aside0.mk H11.out.drew
    clear H11
    have p0 := H12.out.1.1.c0
    have p1 := H12.out.1.1.c1
    have c0 := H12.out.cell 0 (v := .int .i64 (-b)) rfl
    have c1 := H12.out.cell 1 (v := .bool false) rfl
    have c2 := H12.out.cell 2 (v := .string ⟨nm.toArray⟩) rfl
    have c3 := H12.out.cell 3 (v := .int .i64 o) rfl
    have c4 := H12.out.cell 4 (v := .bool true) rfl
    have c5 := H12.out.cell 5 (v := .string ⟨dm.toArray⟩) rfl
    have c6 := H12.out.cell 6 (v := .bool true) rfl
    have c7 := H12.out.cell 7 (v := .int .i64 a0) rfl
    have c8 := H12.out.cell 8 (v := .int .i64 a1) rfl
    have c9 := H12.out.cell 9 (v := .int .i64 a2) rfl
    have c10 := H12.out.cell 10 (v := .int .i64 a3) rfl
    have c11 := H12.out.cell 11 (v := .int .i64 a4) rfl
    have c12 := H12.out.cell 12 (v := .int .i64 x0) rfl
    have c13 := H12.out.cell 13 (v := .int .i64 x1) rfl
    have c14 := H12.out.cell 14 (v := .int .i64 x2) rfl
    have c15 := H12.out.cell 15 (v := .int .i64 x3) rfl
    have c16 := H12.out.cell 16 (v := .int .i64 x4) rfl
    go_region_with (first | (go_at_call 16; refine (HRT.out _).mono ?_; rintro e wb ⟨rfl, hb⟩; have H13 := Aside0.mk (H12.out.below hb); clear hb) | (go_at_call 56; refine (must_yes _).mono ?_; rintro e w3 ⟨rfl, rfl⟩))
    all_goals
      clear p0 p1 c0 c1 c2 c3 c4 c5 c6 c7 c8 c9 c10 c11 c12 c13 c14 c15 c16
      go_wp2_with (first | ((with_reducible refine gate_dst (N := 58) rfl ?_); refine wpList_load_row rfl 27 _ rfl w.heap.size rfl 27 (⟨⟨-b, false, Tx nm⟩, ⟨o, true, Tx dm⟩, true, ⟨a0, a1, a2, a3, a4⟩, ⟨x0, x1, x2, x3, x4⟩⟩ : Rul).cells (0, 0) _ H13.out.2 Tryd.underlying27 rfl (by kernel_rfl) ?_) | ((with_reducible refine gate_store (t := 27) (p := 2) rfl ?_); refine wpList_store_row rfl 27 (.tmp 2) (.tmp 58) rfl w.heap.size (⟨⟨-b, false, Tx nm⟩, ⟨o, true, Tx dm⟩, true, ⟨a0, a1, a2, a3, a4⟩, ⟨x0, x1, x2, x3, x4⟩⟩ : Rul).cells rfl rfl 27 _ H13.out.2 (by kernel_rfl) rfl (by simp [Rul.cells, Value.oneCell']) ?_))
      (try simp only [Exit.inBlock, Exit.then])
      refine bodyPost_ret (results_cell_row rfl _ _ w.heap.size 27 (⟨⟨-b, false, Tx nm⟩, ⟨o, true, Tx dm⟩, true, ⟨a0, a1, a2, a3, a4⟩, ⟨x0, x1, x2, x3, x4⟩⟩ : Rul).cells (0, 0) _ rfl (setRow_heap _ _ _ _ _ _ H13.out.2) Tryd.underlying27 rfl (by kernel_rfl)) rfl ?_
      exact ⟨by rw [HF.out], (H13.out.row HLE.out HRG.out).1.2⟩
end Go.Proofs.YtnbjneknicppcaaDoor.Fn

namespace Go.Proofs.YtnbjneknicppcaaDoor.Fn
set_option linter.unusedVariables false
set_option linter.unusedSimpArgs false
open Go.RowKit Go.Proofs.YtnbjneknicppcaaDoorW.PrintWords Go.Proofs.YtnbjneknicppcaaDoorW.PrintLast Go.Lib
theorem yields_row {P : Program} {o : Oper} {a : Act} {w : World} (ty : TypeId) (x : Operand) (ho : o.op = .load ty x)
    (g : Nat) (hx : a.eval x = .pointer (some ⟨g, 0, none⟩)) (t : TypeId) (cs : Array Value) (fr : Nat × Nat) (d : TypeDesc) (hg : w.heap[g]? = some (.cells cs t fr))
    (hu : P.underlying ty = some d) (hd : (match d with | .struct _ | .array _ _ => true | _ => false) = true) (hi : (P.info? ty).map (·.size) = some cs.size) :
    (execOp a.eval o).run P w = .ok (.value (.agg cs)) w := by
  unfold execOp
  simp only [ho, hx, Instr.loadAt, Instr.sureAddr, Sem.run_bind, Sem.run_pure, Result.andThen_ok, run_loadVar_row w g t ty cs fr d hg hu hd hi]
set_option maxRecDepth 100000 in
set_option maxHeartbeats 16000000 in
theorem rule_no (g : Nat) (l : List UInt8) (hl : l.length ≤ 1000) (wide : Bool) (w : World) (h : Psr g l wide w) (hG : G8 w) (hR : Room8 g) (ht : tkRule wide l = none) :
    Calls Tryd.prog 36 #[.pointer (some ⟨g, 0, none⟩)] w fun e w' => e = wrongE ∧ Only g w w' := by
  have hgw : g < w.heap.size := (Array.getElem?_eq_some_iff.1 h).1
  have HR0 : Aside0 (RulAt g w.heap.size l wide w .zero (w.alloc (.cells Rul.zero.cells 27))) := ⟨(PsrTo.refl h).alloc _, blk_new _ _⟩
  have HRG := Aside0.mk (show w.heap.size ≠ g by omega)
  have HG := Aside0.mk hG
  have HRm := Aside0.mk hR
  have HLE := Aside0.mk (Nat.le_refl w.heap.size)
  clear h hgw hG hR
  unfold tkRule at ht
  cases e1 : tkName l with
  | none =>
    have HN := Aside0.mk (fun W hW => name_no g l hl wide W hW e1)
    clear ht e1
    go_enter Tryd.func36, Tryd.ntmps36
    go_wp2_with fail
    refine (HN.out _ HR0.out.1.1).mono ?_
    rintro e w1 ⟨rfl, h1⟩
    exact ⟨rfl, rfl, HR0.out.1.2.trans h1⟩
  | some z =>
  obtain ⟨nm, l1⟩ := z
  rw [e1, Option.bind_some] at ht
  simp only at ht
  have hl1 : l1.length ≤ 1000 := Nat.le_trans (tkName_len e1) hl
  have HN := Aside0.mk (fun W hW => name_yes g l hl wide W hW nm l1 e1)
  clear e1 hl
  cases e2 : tkTime true false l1 with
  | none =>
    have HT := Aside0.mk (fun W hW hg => time_no g true false l1 hl1 wide W hW hg HRm.out e2)
    clear ht e2 hl1
    go_enter Tryd.func36, Tryd.ntmps36
    go_wp2_with fail
    refine (HN.out _ HR0.out.1.1).mono ?_
    rintro e w1 ⟨rfl, h1⟩
    have H1 := Aside0.mk (HR0.out.call h1 HRG.out)
    have c2 := H1.out.cell 2 (v := .string ⟨#[]⟩) rfl
    have f2 := H1.out.fr 2
    clear h1 HN HR0
    go_wp2_with fail
    have H2 := Aside0.mk (H1.out.put (i := 2) (v := .string ⟨nm.toArray⟩) (r' := ⟨⟨0, false, Tx nm⟩, .zero, false, .zero, .zero⟩) HLE.out HRG.out rfl)
    clear H1 c2 f2
    refine (HT.out _ H2.out.1.1 (H2.out.1.g8 HG.out HRm.out)).mono ?_
    rintro e w2 ⟨rfl, h2⟩
    exact ⟨rfl, rfl, H2.out.1.2.trans h2⟩
  | some z =>
  obtain ⟨b, l2⟩ := z
  rw [e2, Option.bind_some] at ht
  simp only at ht
  obtain ⟨hb0, hb1, hl2⟩ := tkTime_bound e2
  have hl2' : l2.length ≤ 1000 := by omega
  have HT := Aside0.mk (fun W hW => time_yes g true false l1 hl1 wide W hW b l2 e2)
  clear e2 hl1 hl2
  have hne : l2 ≠ [] := by intro q; rw [if_pos q] at ht; cases ht
  rw [if_neg hne] at ht
  have hemp : l2.isEmpty = false := by simp [hne]
  clear hne
  go_enter Tryd.func36, Tryd.ntmps36
  go_wp2_with fail
  refine (HN.out _ HR0.out.1.1).mono ?_
  rintro e w1 ⟨rfl, h1⟩
  have H1 := Aside0.mk (HR0.out.call h1 HRG.out)
  have c2 := H1.out.cell 2 (v := .string ⟨#[]⟩) rfl
  have f2 := H1.out.fr 2
  clear h1 HN HR0
  go_wp2_with fail
  have H2 := Aside0.mk (H1.out.put (i := 2) (v := .string ⟨nm.toArray⟩) (r' := ⟨⟨0, false, Tx nm⟩, .zero, false, .zero, .zero⟩) HLE.out HRG.out rfl)
  clear H1 c2 f2
  refine (HT.out _ H2.out.1.1).mono ?_
  rintro e w2 ⟨rfl, h2⟩
  have H3 := Aside0.mk (H2.out.call h2 HRG.out)
  have c0 := H3.out.cell 0 (v := .int .i64 0) rfl
  have f0 := H3.out.fr 0
  clear h2 HT H2
  have H4 := Aside0.mk (H3.out.put (i := 0) (v := .int .i64 (-b)) (r' := ⟨⟨-b, false, Tx nm⟩, .zero, false, .zero, .zero⟩) HLE.out HRG.out rfl)
  have p0 := H3.out.1.1.c0
  have hgR := HRG.out
  go_upto_if 16 with (fail)
  clear c0 f0 H3 p0
  have c6 := H4.out.cell 6 (v := .bool false) rfl
  have f6 := H4.out.fr 6
  go_wp2_with fail
  clear c6 f6
  have H5 := Aside0.mk (H4.out.put (i := 6) (v := .bool true) (r' := ⟨⟨-b, false, Tx nm⟩, .zero, true, .zero, .zero⟩) HLE.out HRG.out rfl)
  have H5D := Aside0.mk H5.out.drew
  have c0 := H5D.out.cell 0 (v := .int .i64 (-b)) rfl
  clear H4
  cases e3 : tkName l2 with
  | none =>
    have HN2 := Aside0.mk (fun W hW => name_no g l2 hl2' wide W hW e3)
    have hw : IntKind.i64.wrap (-b + 3600) = -b + 3600 := IntWalk.i64_in _ (by omega)
    clear ht e3
    refine wp_region_held_drew (S := fun w' => w'.cell? ⟨w.heap.size, 0, none⟩ = some (.int .i64 (-b))) (by kernel_rfl) c0 (fun hHeld => ?_)
    refine wpAnyH_take (i := 0) (v := ?v0_1) rfl (by kernel_rfl) (by kernel_rfl) (by kernel_rfl) (fun _ _ _ h => h) (Or.inl ⟨by kernel_rfl, ?y0_1⟩) (by assumption) ?r0_1
    case y0_1 => intro w hSw; (try dsimp only at hSw); go_simp; try with_reducible rfl
    try simp only [Act.put, List.setIfInBounds_toArray, List.set_cons_zero, List.set_cons_succ]
    refine wpAnyH_take (i := 2) (v := ?v2_2) rfl (by kernel_rfl) (by kernel_rfl) (by kernel_rfl) (fun _ _ _ h => h) (Or.inl ⟨by kernel_rfl, ?y2_2⟩) (by assumption) ?r2_2
    case y2_2 => intro w hSw; (try dsimp only at hSw); go_simp; try with_reducible rfl
    try simp only [Act.put, List.setIfInBounds_toArray, List.set_cons_zero, List.set_cons_succ]
    refine wpAnyH_take (i := 3) (v := ?v3_3) rfl (by kernel_rfl) (by kernel_rfl) (by kernel_rfl) (fun _ _ _ h => h) (Or.inl ⟨by kernel_rfl, ?y3_3⟩) (by assumption) ?r3_3
    case y3_3 => intro w hSw; (try dsimp only at hSw); go_simp; try with_reducible rfl
    try simp only [Act.put, List.setIfInBounds_toArray, List.set_cons_zero, List.set_cons_succ]
    refine wpAnyH_take (i := 4) (v := ?v4_4) rfl (by kernel_rfl) (by kernel_rfl) (by kernel_rfl) (fun _ _ _ h => h) (Or.inl ⟨by kernel_rfl, ?y4_4⟩) (by assumption) ?r4_4
    case y4_4 => intro w hSw; (try dsimp only at hSw); go_simp; try with_reducible rfl
    try simp only [Act.put, List.setIfInBounds_toArray, List.set_cons_zero, List.set_cons_succ]
    refine wpAnyH_take (i := 5) (v := ?v5_5) rfl (by kernel_rfl) (by kernel_rfl) (by kernel_rfl) (fun _ _ _ h => h) (Or.inl ⟨by kernel_rfl, ?y5_5⟩) (by assumption) ?r5_5
    case y5_5 => intro w hSw; (try dsimp only at hSw); go_simp; try with_reducible rfl
    try simp only [Act.put, List.setIfInBounds_toArray, List.set_cons_zero, List.set_cons_succ]
    refine wpAnyH_ready (rs := [1]) (by kernel_rfl) (by simp) ?_
    refine AllReadyH.cons rfl (fun K hK => ?_) AllReadyH.nil
    go_simp
    refine (HN2.out _ H5D.out.1.1).mono ?_
    rintro e wb ⟨rfl, hb⟩
    exact ⟨rfl, rfl, H5D.out.1.2.trans hb⟩
  | some z =>
  obtain ⟨dm, l3⟩ := z
  rw [e3, Option.bind_some] at ht
  simp only at ht
  have hl3 : l3.length ≤ 1000 := Nat.le_trans (tkName_len e3) hl2'
  have HN2 := Aside0.mk (fun W hW => name_yes g l2 hl2' wide W hW dm l3 e3)
  have HP : Aside0 (∀ W, Calls Tryd.prog 54 #[.string ⟨l3.toArray⟩, .string ⟨#[44]⟩] W fun e w' => e = .returned (.bool (eats 44 l3)) ∧ W = w') :=
    ⟨fun W => (Tryd.strings_HasPrefix ⟨l3.toArray⟩ ⟨#[44]⟩ W).mono fun e w' h => ⟨by rw [h.1]; simp only [List.toList_toArray]; rw [hasPrefix_one], h.2.symm⟩⟩
  clear e3
  go_cut [] (fun wx => RulAt g w.heap.size l3 wide w ⟨⟨-b, false, Tx nm⟩, ⟨-b + 3600, true, Tx dm⟩, true, .zero, .zero⟩ wx)
  case first =>
    have hw : IntKind.i64.wrap (-b + 3600) = -b + 3600 := IntWalk.i64_in _ (by omega)
    clear hb0 hb1
    go_region_with (first | (go_at_call 52; refine (HN2.out _ H5D.out.1.1).mono ?_; rintro e wb ⟨rfl, hb⟩; have H6 := Aside0.mk (H5D.out.call hb HRG.out); have c0 := H6.out.cell 0 (v := .int .i64 (-b)) rfl; have c3 := H6.out.cell 3 (v := .int .i64 0) rfl; have c4 := H6.out.cell 4 (v := .bool false) rfl; have c5 := H6.out.cell 5 (v := .string ⟨#[]⟩) rfl; have f3 := H6.out.fr 3; have f4 := H6.out.fr 4; have f5 := H6.out.fr 5; clear hb))
    all_goals
      clear c3 c4 c5 f3 f4 f5
      go_wp2_with fail
      go_meet
      case rel => exact H6.out.put3 (i := 3) (j := 4) (k := 5) (r' := ⟨⟨-b, false, Tx nm⟩, ⟨-b + 3600, true, Tx dm⟩, true, .zero, .zero⟩) HLE.out HRG.out rfl
  case rest =>
  have H6 := Aside0.mk hcut
  clear hcut H5 H5D c0
  have p0 := H6.out.1.1.c0
  cases e4 : tkOff (-b) l3 with
  | none =>
    clear ht
    unfold tkOff at e4
    have he : eats 44 l3 = false := by
      cases q : eats 44 l3
      · rfl
      · rw [q, if_pos rfl] at e4; cases e4
    rw [he, if_neg (by decide)] at e4
    have e4' : tkTime true false l3 = none := by
      cases q : tkTime true false l3 with
      | none => rfl
      | some z => rw [q] at e4; cases e4
    have HT2 := Aside0.mk (fun W hW hg => time_no g true false l3 hl3 wide W hW hg HRm.out e4')
    rw [he] at HP
    clear he e4 e4'
    go_wp2_with (first | (go_at_call 54; refine (HP.out _).mono ?_; rintro e w' ⟨rfl, rfl⟩))
    refine (HT2.out _ H6.out.1.1 (H6.out.1.g8 HG.out HRm.out)).mono ?_
    rintro e wb ⟨rfl, hb⟩
    exact ⟨rfl, rfl, H6.out.1.2.trans hb⟩
  | some z =>
  obtain ⟨o, l4⟩ := z
  rw [e4, Option.bind_some] at ht
  simp only at ht
  have hl4 : l4.length ≤ 1000 := Nat.le_trans (tkOff_len e4) hl3
  go_upto_if 32 with (first | (go_at_call 54; refine (HP.out _).mono ?_; rintro e w' ⟨rfl, rfl⟩))
  clear p0 HP
  go_cut [] (fun wx => RulAt g w.heap.size l4 wide w ⟨⟨-b, false, Tx nm⟩, ⟨o, true, Tx dm⟩, true, .zero, .zero⟩ wx)
  case first =>
    unfold tkOff at e4
    cases he : eats 44 l3
    · rw [he, if_neg (by decide), Option.bind_eq_some_iff] at e4
      obtain ⟨⟨d, l4'⟩, e4, e4'⟩ := e4
      simp only [Option.some.injEq, Prod.mk.injEq] at e4'
      obtain ⟨rfl, rfl⟩ := e4'
      obtain ⟨hd0, hd1, -⟩ := tkTime_bound e4
      have HT2 := Aside0.mk (fun W hW => time_yes g true false l3 hl3 wide W hW d l4' e4)
      clear he e4 hl3 hb0 hb1
      go_wp2_with fail
      refine (HT2.out _ H6.out.1.1).mono ?_
      rintro e wb ⟨rfl, hb⟩
      have H7 := Aside0.mk (H6.out.call hb HRG.out)
      have c3 := H7.out.cell 3 (v := .int .i64 (-b + 3600)) rfl
      have f3 := H7.out.fr 3
      clear hb HT2 H6
      go_wp2_with fail
      go_meet
      case rel => exact H7.out.put (i := 3) HLE.out HRG.out rfl
    · rw [he, if_pos rfl] at e4
      simp only [Option.some.injEq, Prod.mk.injEq] at e4
      obtain ⟨rfl, rfl⟩ := e4
      clear he
      go_wp2_with fail
      go_meet
      case rel => exact H6.out
  case rest =>
  have H7 := Aside0.mk hcut
  clear hcut H6 e4 hb0 hb1 hl3
  cases e5 : tkChg wide l4 with
  | none =>
    have HC1 := Aside0.mk (fun W hW hg => change_no g l4 hl4 wide W hW hg HRm.out e5)
    clear e5 ht
    go_wp2_with fail
    refine (HC1.out _ H7.out.1.1 (H7.out.1.g8 HG.out HRm.out)).mono ?_
    rintro e w8 ⟨rfl, h8⟩
    exact ⟨rfl, rfl, H7.out.1.2.trans h8⟩
  | some z =>
  obtain ⟨⟨a0, a1, a2, a3, a4⟩, l5⟩ := z
  rw [e5, Option.bind_some] at ht
  simp only at ht
  have hl5 : l5.length ≤ 1000 := Nat.le_trans (tkChg_len e5) hl4
  have HC1 : Aside0 (∀ W, Psr g l4 wide W → Calls Tryd.prog 55 #[.pointer (some ⟨g, 0, none⟩)] W fun e w' => e = .returned (.agg #[.int .i64 a0, .int .i64 a1, .int .i64 a2, .int .i64 a3, .int .i64 a4]) ∧ PsrTo g l5 wide W w') := ⟨fun W hW => change_yes g l4 hl4 wide W hW ⟨a0, a1, a2, a3, a4⟩ l5 e5⟩
  clear e5 hl4
  go_wp2_with fail
  refine (HC1.out _ H7.out.1.1).mono ?_
  rintro e w8 ⟨rfl, h8⟩
  have H8 := Aside0.mk (H7.out.call h8 HRG.out)
  have c7 := H8.out.cell 7 (v := .int .i64 0) rfl
  have f7 := H8.out.fr 7
  have c8 := H8.out.cell 8 (v := .int .i64 0) rfl
  have f8 := H8.out.fr 8
  have c9 := H8.out.cell 9 (v := .int .i64 0) rfl
  have f9 := H8.out.fr 9
  have c10 := H8.out.cell 10 (v := .int .i64 0) rfl
  have f10 := H8.out.fr 10
  have c11 := H8.out.cell 11 (v := .int .i64 0) rfl
  have f11 := H8.out.fr 11
  clear h8 HC1 H7
  cases e6 : tkChg wide l5 with
  | none =>
    have HC2 := Aside0.mk (fun W hW hg => change_no g l5 hl5 wide W hW hg HRm.out e6)
    clear e6 ht
    go_upto_region 10 with (fail)
    have H9 := Aside0.mk (H8.out.put5 (i := 7) (j := 8) (k := 9) (m := 10) (n := 11) (u := .int .i64 a0) (v := .int .i64 a1) (x := .int .i64 a2) (y := .int .i64 a3) (z := .int .i64 a4) (r' := ⟨⟨-b, false, Tx nm⟩, ⟨o, true, Tx dm⟩, true, ⟨a0, a1, a2, a3, a4⟩, .zero⟩) HLE.out HRG.out rfl)
    clear H8 c7 c8 c9 c10 c11 f7 f8 f9 f10 f11
    go_wp2_with fail
    refine (HC2.out _ H9.out.1.1 (H9.out.1.g8 HG.out HRm.out)).mono ?_
    rintro e w8 ⟨rfl, h8⟩
    exact ⟨rfl, rfl, H9.out.1.2.trans h8⟩
  | some z =>
  obtain ⟨⟨x0, x1, x2, x3, x4⟩, l6⟩ := z
  rw [e6, Option.bind_some] at ht
  simp only at ht
  have HC2 : Aside0 (∀ W, Psr g l5 wide W → Calls Tryd.prog 55 #[.pointer (some ⟨g, 0, none⟩)] W fun e w' => e = .returned (.agg #[.int .i64 x0, .int .i64 x1, .int .i64 x2, .int .i64 x3, .int .i64 x4]) ∧ PsrTo g l6 wide W w') := ⟨fun W hW => change_yes g l5 hl5 wide W hW ⟨x0, x1, x2, x3, x4⟩ l6 e6⟩
  clear e6 hl5
  go_upto_region 10 with (fail)
  have H9 := Aside0.mk (H8.out.put5 (i := 7) (j := 8) (k := 9) (m := 10) (n := 11) (u := .int .i64 a0) (v := .int .i64 a1) (x := .int .i64 a2) (y := .int .i64 a3) (z := .int .i64 a4) (r' := ⟨⟨-b, false, Tx nm⟩, ⟨o, true, Tx dm⟩, true, ⟨a0, a1, a2, a3, a4⟩, .zero⟩) HLE.out HRG.out rfl)
  clear H8 c7 c8 c9 c10 c11 f7 f8 f9 f10 f11
  go_cut [] (fun wx => RulAt g w.heap.size l6 wide w (⟨⟨-b, false, Tx nm⟩, ⟨o, true, Tx dm⟩, true, ⟨a0, a1, a2, a3, a4⟩, ⟨x0, x1, x2, x3, x4⟩⟩ : Rul) wx)
  case first =>
    go_wp2_with fail
    refine (HC2.out _ H9.out.1.1).mono ?_
    rintro e w10 ⟨rfl, h10⟩
    have H10 := Aside0.mk (H9.out.call h10 HRG.out)
    have c12 := H10.out.cell 12 (v := .int .i64 0) rfl
    have f12 := H10.out.fr 12
    have c13 := H10.out.cell 13 (v := .int .i64 0) rfl
    have f13 := H10.out.fr 13
    have c14 := H10.out.cell 14 (v := .int .i64 0) rfl
    have f14 := H10.out.fr 14
    have c15 := H10.out.cell 15 (v := .int .i64 0) rfl
    have f15 := H10.out.fr 15
    have c16 := H10.out.cell 16 (v := .int .i64 0) rfl
    have f16 := H10.out.fr 16
    clear h10 HC2 H9
    go_wp2_with fail
    go_meet
    case rel => exact H10.out.put5 (i := 12) (j := 13) (k := 14) (m := 15) (n := 16) (u := .int .i64 x0) (v := .int .i64 x1) (x := .int .i64 x2) (y := .int .i64 x3) (z := .int .i64 x4) (r' := (⟨⟨-b, false, Tx nm⟩, ⟨o, true, Tx dm⟩, true, ⟨a0, a1, a2, a3, a4⟩, ⟨x0, x1, x2, x3, x4⟩⟩ : Rul)) HLE.out HRG.out rfl
  case rest =>
  have H11 := Aside0.mk hcut
  clear hcut H9 HC2
  go_upto_region 11 with (fail)
  have H12 := Aside0.mk H11.out.drew
  clear H11
  have p0 := H12.out.1.1.c0
  have p1 := H12.out.1.1.c1
  by_cases hq : l6 = []
  · subst hq
    rw [if_pos rfl] at ht
    have hright : (⟨⟨-b, false, Tx nm⟩, ⟨o, true, Tx dm⟩, true, ⟨a0, a1, a2, a3, a4⟩, ⟨x0, x1, x2, x3, x4⟩⟩ : Rul).right wide = false := by
      cases q : (⟨⟨-b, false, Tx nm⟩, ⟨o, true, Tx dm⟩, true, ⟨a0, a1, a2, a3, a4⟩, ⟨x0, x1, x2, x3, x4⟩⟩ : Rul).right wide
      · rfl
      · rw [if_pos q] at ht; cases ht
    have HRT : Aside0 (∀ W, Calls Tryd.prog 16 #[.agg #[.int .i64 (-b), .bool false, .string ⟨nm.toArray⟩, .int .i64 o, .bool true, .string ⟨dm.toArray⟩, .bool true, .int .i64 a0, .int .i64 a1, .int .i64 a2, .int .i64 a3, .int .i64 a4, .int .i64 x0, .int .i64 x1, .int .i64 x2, .int .i64 x3, .int .i64 x4], .bool wide] W fun e w' => e = .returned (.bool false) ∧ Below W.heap.size W w') :=
      ⟨fun W => posix_Right.calls 3 (-b) false (Tx nm) o true (Tx dm) true a0 a1 a2 a3 a4 x0 x1 x2 x3 x4 wide false W (by rw [rightR_eq 0]; exact congrArg some hright)⟩
    clear ht hright
    have HRT2 : Aside0 (∀ W, Calls Tryd.prog 16 #[.agg (⟨⟨-b, false, Tx nm⟩, ⟨o, true, Tx dm⟩, true, ⟨a0, a1, a2, a3, a4⟩, ⟨x0, x1, x2, x3, x4⟩⟩ : Rul).cells, .bool wide] W fun e w' => e = .returned (.bool false) ∧ Below W.heap.size W w') := HRT
    clear HRT
    refine wp_region_held_drew (S := fun w' => w'.cell? ⟨g, 0, none⟩ = some (.string ⟨#[]⟩) ∧ w'.cell? ⟨g, 1, none⟩ = some (.bool wide) ∧ w'.heap[w.heap.size]? = some (.cells (⟨⟨-b, false, Tx nm⟩, ⟨o, true, Tx dm⟩, true, ⟨a0, a1, a2, a3, a4⟩, ⟨x0, x1, x2, x3, x4⟩⟩ : Rul).cells 27 (0, 0))) (by kernel_rfl) ⟨p0, p1, H12.out.2⟩ (fun hHeld => ?_)
    refine wpAnyH_take (i := 0) (v := ?v0_6) rfl (by kernel_rfl) (by kernel_rfl) (by kernel_rfl) (fun _ _ _ h => h) (Or.inl ⟨by kernel_rfl, ?y0_6⟩) (by assumption) ?r0_6
    case y0_6 => intro w5 hSw; obtain ⟨hs0, hs1, -⟩ := hSw; go_simp; try with_reducible rfl
    try simp only [Act.put, List.setIfInBounds_toArray, List.set_cons_zero, List.set_cons_succ]
    refine wpAnyH_take (i := 1) (v := ?v1_7) rfl (by kernel_rfl) (by kernel_rfl) (by kernel_rfl) (fun _ _ _ h => h) (Or.inl ⟨by kernel_rfl, ?y1_7⟩) (by assumption) ?r1_7
    case y1_7 => intro w5 hSw; obtain ⟨hs0, hs1, -⟩ := hSw; go_simp; try with_reducible rfl
    try simp only [Act.put, List.setIfInBounds_toArray, List.set_cons_zero, List.set_cons_succ]
    refine wpAnyH_take (i := 2) (v := ?v2_8) rfl (by kernel_rfl) (by kernel_rfl) (by kernel_rfl) (fun _ _ _ h => h) (Or.inl ⟨by kernel_rfl, ?y2_8⟩) (by assumption) ?r2_8
    case y2_8 => intro w5 hSw; obtain ⟨hs0, hs1, -⟩ := hSw; go_simp; try with_reducible rfl
    try simp only [Act.put, List.setIfInBounds_toArray, List.set_cons_zero, List.set_cons_succ]
    refine wpAnyH_take (i := 3) (v := ?v3_9) rfl (by kernel_rfl) (by kernel_rfl) (by kernel_rfl) (fun _ _ _ h => h) (Or.inl ⟨by kernel_rfl, ?y3_9⟩) (by assumption) ?r3_9
    case y3_9 => intro w5 hSw; obtain ⟨hs0, hs1, -⟩ := hSw; go_simp; try with_reducible rfl
    try simp only [Act.put, List.setIfInBounds_toArray, List.set_cons_zero, List.set_cons_succ]
    refine wpAnyH_take (i := 4) (v := ?v4_10) rfl (by kernel_rfl) (by kernel_rfl) (by kernel_rfl) (fun _ _ _ h => h) (Or.inl ⟨by kernel_rfl, ?y4_10⟩) (by assumption) ?r4_10
    case y4_10 => intro w5 hSw; obtain ⟨hs0, hs1, -⟩ := hSw; go_simp; try with_reducible rfl
    try simp only [Act.put, List.setIfInBounds_toArray, List.set_cons_zero, List.set_cons_succ]
    refine wpAnyH_take (i := 5) (v := ?v5_11) rfl (by kernel_rfl) (by kernel_rfl) (by kernel_rfl) (fun _ _ _ h => h) (Or.inl ⟨by kernel_rfl, ?y5_11⟩) (by assumption) ?r5_11
    case y5_11 => intro w5 hSw; obtain ⟨hs0, hs1, -⟩ := hSw; go_simp; try with_reducible rfl
    try simp only [Act.put, List.setIfInBounds_toArray, List.set_cons_zero, List.set_cons_succ]
    refine wpAnyH_take (i := 6) (v := .agg (⟨⟨-b, false, Tx nm⟩, ⟨o, true, Tx dm⟩, true, ⟨a0, a1, a2, a3, a4⟩, ⟨x0, x1, x2, x3, x4⟩⟩ : Rul).cells) rfl (by kernel_rfl) (by kernel_rfl) (by kernel_rfl) (fun _ _ _ h => h) (Or.inl ⟨by kernel_rfl, ?y6_12⟩) (by assumption) ?r6_12
    case y6_12 => intro w5 hSw; exact yields_row 27 _ rfl w.heap.size rfl 27 _ (0, 0) _ hSw.2.2 Tryd.underlying27 rfl (by kernel_rfl)
    try simp only [Act.put, List.setIfInBounds_toArray, List.set_cons_zero, List.set_cons_succ]
    refine wpAnyH_take (i := 7) (v := ?v7_13) rfl (by kernel_rfl) (by kernel_rfl) (by kernel_rfl) (fun _ _ _ h => h) (Or.inl ⟨by kernel_rfl, ?y7_13⟩) (by assumption) ?r7_13
    case y7_13 => intro w5 hSw; obtain ⟨hs0, hs1, -⟩ := hSw; go_simp; try with_reducible rfl
    try simp only [Act.put, List.setIfInBounds_toArray, List.set_cons_zero, List.set_cons_succ]
    refine wpAnyH_take (i := 8) (v := ?v8_14) rfl (by kernel_rfl) (by kernel_rfl) (by kernel_rfl) (fun _ _ _ h => h) (Or.inl ⟨by kernel_rfl, ?y8_14⟩) (by assumption) ?r8_14
    case y8_14 => intro w5 hSw; obtain ⟨hs0, hs1, -⟩ := hSw; go_simp; try with_reducible rfl
    try simp only [Act.put, List.setIfInBounds_toArray, List.set_cons_zero, List.set_cons_succ]
    refine wpAnyH_take (i := 9) (v := ?v9_15) rfl (by kernel_rfl) (by kernel_rfl) (by kernel_rfl) (fun _ _ _ h => h) (Or.inl ⟨by kernel_rfl, ?y9_15⟩) (by assumption) ?r9_15
    case y9_15 => intro w5 hSw; obtain ⟨hs0, hs1, -⟩ := hSw; go_simp; try with_reducible rfl
    try simp only [Act.put, List.setIfInBounds_toArray, List.set_cons_zero, List.set_cons_succ]
    refine wpAnyH_take (i := 10) (v := ?v10_16) rfl (by kernel_rfl) (by kernel_rfl) (by kernel_rfl) (fun _ _ _ h => h) (Or.inl ⟨by kernel_rfl, ?y10_16⟩) (by assumption) ?r10_16
    case y10_16 => intro w5 hSw; obtain ⟨hs0, hs1, -⟩ := hSw; go_simp; try with_reducible rfl
    try simp only [Act.put, List.setIfInBounds_toArray, List.set_cons_zero, List.set_cons_succ]
    refine wpAnyH_ready (rs := [11]) (by kernel_rfl) (by simp) ?_
    refine AllReadyH.cons rfl (fun K hK => ?_) AllReadyH.nil
    go_simp
    refine (HRT2.out _).mono ?_
    rintro e wb ⟨rfl, hb⟩
    have H13 := Aside0.mk (H12.out.below hb)
    refine hK.out _ _ ⟨H13.out.1.1.c0, H13.out.1.1.c1, H13.out.2⟩ (fun hHeld2 => ?_)
    clear hK
    try simp only [Act.put, List.setIfInBounds_toArray, List.set_cons_zero, List.set_cons_succ]
    refine wpAnyH_take (i := 12) (v := ?v12_17) rfl (by kernel_rfl) (by kernel_rfl) (by kernel_rfl) (fun _ _ _ h => h) (Or.inl ⟨by kernel_rfl, ?y12_17⟩) (by assumption) ?r12_17
    case y12_17 => intro w5 hSw; obtain ⟨hs0, hs1, -⟩ := hSw; go_simp; try with_reducible rfl
    try simp only [Act.put, List.setIfInBounds_toArray, List.set_cons_zero, List.set_cons_succ]
    refine wpAnyH_ready (rs := [13]) (by kernel_rfl) (by simp) ?_
    refine AllReadyH.cons rfl (fun K hK => ?_) AllReadyH.nil
    go_simp
    refine (must_no _).mono ?_
    rintro e w3 ⟨rfl, rfl⟩
    exact ⟨rfl, rfl, H13.out.1.2⟩
  · have hemp2 : l6.isEmpty = false := by simp [hq]
    clear ht hq
    refine wp_region_held_drew (S := fun w' => w'.cell? ⟨g, 0, none⟩ = some (.string ⟨l6.toArray⟩)) (by kernel_rfl) p0 (fun hHeld => ?_)
    refine wpAnyH_take (i := 0) (v := ?v0_18) rfl (by kernel_rfl) (by kernel_rfl) (by kernel_rfl) (fun _ _ _ h => h) (Or.inl ⟨by kernel_rfl, ?y0_18⟩) (by assumption) ?r0_18
    case y0_18 => intro w hSw; (try dsimp only at hSw); go_simp; try with_reducible rfl
    try simp only [Act.put, List.setIfInBounds_toArray, List.set_cons_zero, List.set_cons_succ]
    refine wpAnyH_take (i := 1) (v := ?v1_19) rfl (by kernel_rfl) (by kernel_rfl) (by kernel_rfl) (fun _ _ _ h => h) (Or.inl ⟨by kernel_rfl, ?y1_19⟩) (by assumption) ?r1_19
    case y1_19 => intro w hSw; (try dsimp only at hSw); go_simp; try with_reducible rfl
    try simp only [Act.put, List.setIfInBounds_toArray, List.set_cons_zero, List.set_cons_succ]
    refine wpAnyH_take (i := 2) (v := ?v2_20) rfl (by kernel_rfl) (by kernel_rfl) (by kernel_rfl) (fun _ _ _ h => h) (Or.inl ⟨by kernel_rfl, ?y2_20⟩) (by assumption) ?r2_20
    case y2_20 => intro w hSw; (try dsimp only at hSw); go_simp; try with_reducible rfl
    try simp only [Act.put, List.setIfInBounds_toArray, List.set_cons_zero, List.set_cons_succ]
    refine wpAnyH_take (i := 3) (v := ?v3_21) rfl (by kernel_rfl) (by kernel_rfl) (by kernel_rfl) (fun _ _ _ h => h) (Or.inl ⟨by kernel_rfl, ?y3_21⟩) (by assumption) ?r3_21
    case y3_21 => intro w hSw; (try dsimp only at hSw); go_simp; try with_reducible rfl
    try simp only [Act.put, List.setIfInBounds_toArray, List.set_cons_zero, List.set_cons_succ]
    refine wpAnyH_take (i := 4) (v := ?v4_22) rfl (by kernel_rfl) (by kernel_rfl) (by kernel_rfl) (fun _ _ _ h => h) (Or.inl ⟨by kernel_rfl, ?y4_22⟩) (by assumption) ?r4_22
    case y4_22 => intro w hSw; (try dsimp only at hSw); go_simp; try with_reducible rfl
    try simp only [Act.put, List.setIfInBounds_toArray, List.set_cons_zero, List.set_cons_succ]
    refine wpAnyH_take (i := 5) (v := ?v5_23) rfl (by kernel_rfl) (by kernel_rfl) (by kernel_rfl) (fun _ _ _ h => h) (Or.inl ⟨by kernel_rfl, ?y5_23⟩) (by assumption) ?r5_23
    case y5_23 => intro w hSw; (try dsimp only at hSw); go_simp; try with_reducible rfl
    try simp only [Act.put, List.setIfInBounds_toArray, List.set_cons_zero, List.set_cons_succ]
    refine wpAnyH_take (i := 6) (v := undef) rfl (by kernel_rfl) (by kernel_rfl) (by kernel_rfl) (fun _ _ _ h => h) (Or.inr ⟨by kernel_rfl, rfl⟩) (by assumption) ?r6_24
    try simp only [Act.put, List.setIfInBounds_toArray, List.set_cons_zero, List.set_cons_succ]
    refine wpAnyH_take (i := 7) (v := undef) rfl (by kernel_rfl) (by kernel_rfl) (by kernel_rfl) (fun _ _ _ h => h) (Or.inr ⟨by kernel_rfl, rfl⟩) (by assumption) ?r7_25
    try simp only [Act.put, List.setIfInBounds_toArray, List.set_cons_zero, List.set_cons_succ]
    refine wpAnyH_take (i := 8) (v := undef) rfl (by kernel_rfl) (by kernel_rfl) (by kernel_rfl) (fun _ _ _ h => h) (Or.inr ⟨by kernel_rfl, rfl⟩) (by assumption) ?r8_26
    try simp only [Act.put, List.setIfInBounds_toArray, List.set_cons_zero, List.set_cons_succ]
    refine wpAnyH_take (i := 9) (v := undef) rfl (by kernel_rfl) (by kernel_rfl) (by kernel_rfl) (fun _ _ _ h => h) (Or.inr ⟨by kernel_rfl, rfl⟩) (by assumption) ?r9_27
    try simp only [Act.put, List.setIfInBounds_toArray, List.set_cons_zero, List.set_cons_succ]
    refine wpAnyH_take (i := 10) (v := undef) rfl (by kernel_rfl) (by kernel_rfl) (by kernel_rfl) (fun _ _ _ h => h) (Or.inr ⟨by kernel_rfl, rfl⟩) (by assumption) ?r10_28
    try simp only [Act.put, List.setIfInBounds_toArray, List.set_cons_zero, List.set_cons_succ]
    refine wpAnyH_take (i := 11) (v := undef) rfl (by kernel_rfl) (by kernel_rfl) (by kernel_rfl) (fun _ _ _ h => h) (Or.inr ⟨by kernel_rfl, rfl⟩) (by assumption) ?r11_29
    try simp only [Act.put, List.setIfInBounds_toArray, List.set_cons_zero, List.set_cons_succ]
    refine wpAnyH_take (i := 12) (v := ?v12_30) rfl (by kernel_rfl) (by kernel_rfl) (by kernel_rfl) (fun _ _ _ h => h) (Or.inl ⟨by kernel_rfl, ?y12_30⟩) (by assumption) ?r12_30
    case y12_30 => intro w hSw; (try dsimp only at hSw); go_simp; try with_reducible rfl
    try simp only [Act.put, List.setIfInBounds_toArray, List.set_cons_zero, List.set_cons_succ]
    refine wpAnyH_ready (rs := [13]) (by kernel_rfl) (by simp) ?_
    refine AllReadyH.cons rfl (fun K hK => ?_) AllReadyH.nil
    go_simp
    refine (must_no _).mono ?_
    rintro e w3 ⟨rfl, rfl⟩
    exact ⟨rfl, rfl, H12.out.1.2⟩
end Go.Proofs.YtnbjneknicppcaaDoor.Fn

namespace Go.Proofs.YtnbjneknicppcaaDoor.Fn
set_option linter.unusedVariables false
set_option linter.unusedSimpArgs false
open Go.RowKit Go.Proofs.YtnbjneknicppcaaDoorW.PrintWords Go.Proofs.YtnbjneknicppcaaDoorW.PrintLast Go.Lib
theorem catch_idle (p q : Addr) (w : World) :
    CallsD Tryd.prog 35 #[.pointer (some p), .pointer (some q)] .returning w fun e u' w' => e = .returned (.tuple #[]) ∧ u' = .returning ∧ w = w' := by
  refine callsD_of_wpS Tryd.func35 rfl fun c₀ cs hu => ?_
  apply wpS_seq
  apply wpS_region
  simp [wpOpsS, go_sem, recoverD, hu, Tryd.ntmps35, Exit.thenS]
  have hcs : c₀ = { c₀ with mode := .returning } := by cases c₀; simp_all
  clear hu
  generalize c₀ = c1 at hcs
  refine wpS_of_wp ?_
  go_wp2
  exact ⟨rfl, .returning, congrArg (· :: cs) hcs, _, results_none rfl _ _ _, rfl, rfl, rfl⟩
set_option maxRecDepth 100000 in
set_option maxHeartbeats 4000000 in
theorem catch_wrong (A B : Nat) (old : Array Value) (v0 : Value) (w : World) (hA : w.heap[A]? = some (.cells old 27 (0, 0))) (hB : w.heap[B]? = some (.cells #[v0] 30 (0, 0))) (ho : old.size = 17) (hAB : A ≠ B) :
    CallsD Tryd.prog 35 #[.pointer (some ⟨A, 0, none⟩), .pointer (some ⟨B, 0, none⟩)] (.panicking [{ v := .iface 62 (.agg #[]), recovered := false }]) w fun e u' w' =>
      e = .returned (.tuple #[]) ∧ u' = .panicking [{ v := .iface 62 (.agg #[]), recovered := true }] ∧ w'.heap[A]? = some (.cells Rul.zero.cells 27 (0, 0)) ∧ w'.heap[B]? = some (.cells #[.int .i64 4] 30 (0, 0)) ∧ ∀ C, C ≤ A → C ≤ B → C ≤ w.heap.size → Below C w w' := by
  refine callsD_of_wpS Tryd.func35 rfl fun c₀ cs hu => ?_
  apply wpS_seq
  apply wpS_region
  simp [wpOpsS, go_sem, recoverD, hu, Tryd.ntmps35, Exit.thenS]
  clear hu
  have hta : ∀ w, (Instr.typeAssert (.iface 62 (.agg #[])) 20 62 true).run Tryd.prog w = .ok (.tuple #[.agg #[], .bool true]) w := fun _ => by kernel_rfl
  have hBB : ((w.alloc (.cells #[] 62)).setRow A Rul.zero.cells).heap[B]? = some (.cells #[v0] 30 (0, 0)) := (setRow_other _ A B _ (Ne.symm hAB)).trans (blk_alloc hB _)
  have hAA : ((w.alloc (.cells #[] 62)).setRow A Rul.zero.cells).heap[A]? = some (.cells Rul.zero.cells 27 (0, 0)) := setRow_heap _ _ _ _ _ _ (blk_alloc hA _)
  have hc := (blk_cell hBB 0).trans rfl
  have hf := blk_frozen hBB 0
  have HAA := Aside0.mk hAA
  have HBB := Aside0.mk hBB
  clear hAA hBB
  refine wpS_of_wp ?_
  go_wp2_with ((with_reducible refine gate_store (t := 27) (p := 0) rfl ?_); refine wpList_store_row rfl 27 (.tmp 0) (.tmp 11) rfl A Rul.zero.cells rfl rfl 27 _ (blk_alloc hA _) (by kernel_rfl) (ho.trans rfl) (by simp [Rul.cells, Value.oneCell']) ?_)
  refine ⟨rfl, _, rfl, _, results_none rfl _ _ _, rfl, rfl, blk_far HAA.out (by simpa using hAB) _, blk_put HBB.out 0 _ rfl, fun C h1 h2 h3 => ?_⟩
  have k1 : Below C w (w.alloc (.cells #[] 62)) := (Below.refl C w).alloc h3 _
  have k2 : Below C (w.alloc (.cells #[] 62)) ((w.alloc (.cells #[] 62)).setRow A Rul.zero.cells) := ⟨rfl, rfl, rfl, by rw [size_setRow]; exact Nat.le_refl _, fun k hk => setRow_other _ A k _ (by omega)⟩
  exact (k1.trans k2).setCell (p := ⟨B, 0, none⟩) h2 _
theorem results_Parse (tmps : Array Value) (w : World) (A B : Nat) (cs : Array Value) (n : Int) (hs : cs.size = 17) (hp : tmps.getD 4 undef = .pointer (some ⟨A, 0, none⟩)) (hq : tmps.getD 5 undef = .pointer (some ⟨B, 0, none⟩))
    (hA : w.heap[A]? = some (.cells cs 27 (0, 0))) (hc : w.cell? ⟨B, 0, none⟩ = some (.int .i64 n)) :
    (results Tryd.f18 tmps).run Tryd.prog w = .ok (.tuple #[.agg cs, .int .i64 n]) w := by
  have hp' : tmps[4]?.getD undef = .pointer (some ⟨A, 0, none⟩) := by simpa using hp
  have hq' : tmps[5]?.getD undef = .pointer (some ⟨B, 0, none⟩) := by simpa using hq
  have h1 := run_loadVar_row (P := Tryd.prog) w A 27 27 cs (0, 0) _ hA Tryd.underlying27 rfl (by rw [hs]; kernel_rfl)
  have h2 : (loadVar 30 ⟨B, 0, none⟩).run Tryd.prog w = .ok (.int .i64 n) w := by simp [go_sem, hc]
  simp [results, Tryd.results18, hp', hq', asAddr, h1, h2]
theorem makeFunc_run (fn : Fn) (first cap : Array Value) (w : World) : (Instr.makeFunc fn first cap).run Tryd.prog w = .ok (.func fn first cap) w := rfl
set_option maxRecDepth 100000 in
set_option maxHeartbeats 4000000 in
theorem Parse_yes (l : List UInt8) (hl : l.length ≤ 1000) (wide : Bool) (w : World) (r : Rul) (ht : tkRule wide l = some r) :
    Calls Tryd.prog 18 #[.string ⟨l.toArray⟩, .bool wide] w fun e w' => e = .returned (.tuple #[.agg r.cells, .int .i64 0]) ∧ Below w.heap.size w w' := by
  have HR := Aside0.mk (fun W g hW => rule_yes g l hl wide W hW r ht)
  clear ht hl
  have hmf := makeFunc_run
  go_enter_defers Tryd.func18, Tryd.ntmps18
  go_wp2_with fail
  have hP : Psr (w.heap.size + 1 + 1) l wide (((w.alloc (.cells Rul.zero.cells 27)).alloc (.cells #[.int .i64 0] 30)).alloc (.cells #[.string ⟨l.toArray⟩, .bool wide] 65)) := by
    have := blk_new ((w.alloc (.cells Rul.zero.cells 27)).alloc (.cells #[.int .i64 0] 30)) (.cells #[.string ⟨l.toArray⟩, .bool wide] 65)
    simpa [Psr] using this
  have hA : (((w.alloc (.cells Rul.zero.cells 27)).alloc (.cells #[.int .i64 0] 30)).alloc (.cells #[.string ⟨l.toArray⟩, .bool wide] 65)).heap[w.heap.size]? = some (.cells Rul.zero.cells 27 (0, 0)) := blk_alloc (blk_alloc (blk_new w _) _) _
  have hB : (((w.alloc (.cells Rul.zero.cells 27)).alloc (.cells #[.int .i64 0] 30)).alloc (.cells #[.string ⟨l.toArray⟩, .bool wide] 65)).heap[w.heap.size + 1]? = some (.cells #[.int .i64 0] 30 (0, 0)) := blk_alloc (by have := blk_new (w.alloc (.cells Rul.zero.cells 27)) (.cells #[.int .i64 0] 30); simpa using this) _
  refine (HR.out _ _ hP).mono ?_
  rintro e w1 ⟨rfl, h1⟩
  have hA1 := h1.old hA (by omega)
  have hB1 := h1.old hB (by omega)
  have HBw := Aside0.mk ((below_alloc (below_alloc (below_alloc (Below.refl _ _) _) _) _).trans (h1.below (B := w.heap.size) (by omega) (by simp; omega)))
  have HA := Aside0.mk (setRow_heap _ _ _ r.cells _ _ hA1)
  have hBB : (w1.setRow w.heap.size r.cells).heap[w.heap.size + 1]? = some (.cells #[.int .i64 0] 30 (0, 0)) := (setRow_other _ _ _ _ (by omega)).trans hB1
  have HB := Aside0.mk hBB
  have hc := (blk_cell hBB 0).trans rfl
  have hf := blk_frozen hBB 0
  clear hP hA hB h1 hBB hB1 HR
  go_wp2_with ((with_reducible refine gate_store (t := 27) (p := 4) rfl ?_); refine wpList_store_row rfl 27 (.tmp 4) (.tmp 11) rfl w.heap.size r.cells rfl rfl 27 _ hA1 (by kernel_rfl) rfl (by simp [Rul.cells, Value.oneCell']) ?_)
  refine leaves_cons (f := 35) (args := #[.pointer (some ⟨w.heap.size, 0, none⟩), .pointer (some ⟨w.heap.size + 1, 0, none⟩)]) (by simp) (by simp [go_sem]) ?_
  refine (catch_idle ⟨w.heap.size, 0, none⟩ ⟨w.heap.size + 1, 0, none⟩ _).mono ?_
  rintro e u' w'' ⟨rfl, rfl, rfl⟩
  refine ⟨_, results_Parse _ _ w.heap.size (w.heap.size + 1) r.cells 0 rfl rfl rfl (blk_far HA.out (by simp) _) ((blk_cell (blk_put HB.out 0 _ rfl) 0).trans rfl), rfl, ?_⟩
  have kk : Below w.heap.size w1 (w1.setRow w.heap.size r.cells) := ⟨rfl, rfl, rfl, by rw [size_setRow]; exact Nat.le_refl _, fun k hk => setRow_other _ _ k _ (by omega)⟩
  exact (HBw.out.trans kk).setCell (p := ⟨w.heap.size + 1, 0, none⟩) (by simp) _
set_option maxRecDepth 100000 in
set_option maxHeartbeats 4000000 in
theorem Parse_no (l : List UInt8) (hl : l.length ≤ 1000) (wide : Bool) (w : World) (hG : G8 w) (ht : tkRule wide l = none) :
    Calls Tryd.prog 18 #[.string ⟨l.toArray⟩, .bool wide] w fun e w' => e = .returned (.tuple #[.agg Rul.zero.cells, .int .i64 4]) ∧ Below w.heap.size w w' := by
  have HR := Aside0.mk (fun W g hW hg hr => rule_no g l hl wide W hW hg hr ht)
  have HG := Aside0.mk hG
  clear ht hl hG
  have hmf := makeFunc_run
  go_enter_defers Tryd.func18, Tryd.ntmps18
  go_wp2_with fail
  have hP : Psr (w.heap.size + 1 + 1) l wide (((w.alloc (.cells Rul.zero.cells 27)).alloc (.cells #[.int .i64 0] 30)).alloc (.cells #[.string ⟨l.toArray⟩, .bool wide] 65)) := by
    have := blk_new ((w.alloc (.cells Rul.zero.cells 27)).alloc (.cells #[.int .i64 0] 30)) (.cells #[.string ⟨l.toArray⟩, .bool wide] 65)
    simpa [Psr] using this
  have hA : (((w.alloc (.cells Rul.zero.cells 27)).alloc (.cells #[.int .i64 0] 30)).alloc (.cells #[.string ⟨l.toArray⟩, .bool wide] 65)).heap[w.heap.size]? = some (.cells Rul.zero.cells 27 (0, 0)) := blk_alloc (blk_alloc (blk_new w _) _) _
  have hB : (((w.alloc (.cells Rul.zero.cells 27)).alloc (.cells #[.int .i64 0] 30)).alloc (.cells #[.string ⟨l.toArray⟩, .bool wide] 65)).heap[w.heap.size + 1]? = some (.cells #[.int .i64 0] 30 (0, 0)) := blk_alloc (by have := blk_new (w.alloc (.cells Rul.zero.cells 27)) (.cells #[.int .i64 0] 30); simpa using this) _
  have hw0 := below_alloc (below_alloc (below_alloc (Below.refl w.heap.size w) (.cells Rul.zero.cells 27)) (.cells #[.int .i64 0] 30)) (.cells #[.string ⟨l.toArray⟩, .bool wide] 65)
  refine (HR.out _ _ hP (HG.out.below hw0) (HG.out.room.mono (by omega))).mono ?_
  rintro e w1 ⟨rfl, h1⟩
  have hA1 := h1.old hA (by omega)
  have hB1 := h1.old hB (by omega)
  have hs1 : w.heap.size ≤ w1.heap.size := by have := h1.size; simp at this; omega
  have hBw := hw0.trans (h1.below (B := w.heap.size) (by omega) (by simp; omega))
  refine leaves_cons (f := 35) (args := #[.pointer (some ⟨w.heap.size, 0, none⟩), .pointer (some ⟨w.heap.size + 1, 0, none⟩)]) (by simp) (by simp [go_sem]) ?_
  refine (catch_wrong w.heap.size (w.heap.size + 1) _ _ _ hA1 hB1 rfl (by omega)).mono ?_
  rintro e u' w'' ⟨rfl, rfl, g1, g2, g3⟩
  refine ⟨_, results_Parse _ _ w.heap.size (w.heap.size + 1) Rul.zero.cells 4 rfl rfl rfl g1 ((blk_cell g2 0).trans rfl), rfl, ?_⟩
  exact hBw.trans (g3 w.heap.size (Nat.le_refl _) (by omega) hs1)
end Go.Proofs.YtnbjneknicppcaaDoor.Fn

namespace Go.Proofs.YtnbjneknicppcaaDoor.Fn
set_option linter.unusedVariables false
set_option linter.unusedSimpArgs false
open Go.RowKit Go.Proofs.YtnbjneknicppcaaDoorW.PrintWords Go.Proofs.YtnbjneknicppcaaDoorW.PrintLast Go.Lib
theorem chg_bounds (c0 : Int) (c1 : Int) (c2 : Int) (c3 : Int) (c4 : Int) (wide : Bool) (h : chgB c0 c1 c2 c3 c4 wide = true) : (0 ≤ c1 ∧ c1 < 1000) ∧ (0 ≤ c2 ∧ c2 < 1000) ∧ (0 ≤ c3 ∧ c3 < 1000) ∧ c4.natAbs ≤ 604799 := by
  unfold chgB dateB inB at h
  simp only [Bool.and_eq_true, Bool.or_eq_true, decide_eq_true_eq] at h
  obtain ⟨h1, h2⟩ := h
  have ht : c4.natAbs ≤ 604799 := by omega
  have k : ∀ p : Prop, ((c2 = 0 ∧ c3 = 0) ∧ 0 ≤ c1 ∧ c1 ≤ 365 → p) → ((1 ≤ c1 ∧ c1 ≤ 12) ∧ (1 ≤ c2 ∧ c2 ≤ 5) ∧ 0 ≤ c3 ∧ c3 ≤ 6 → p) → p := by
    intro p f g
    split at h2
    · simp at h2; exact f ⟨h2.1, by omega, h2.2.2⟩
    · split at h2
      · simp at h2; exact f ⟨h2.1, h2.2⟩
      · split at h2
        · simp at h2; exact g h2
        · cases h2
  exact ⟨k _ (fun h => by omega) (fun h => by omega), k _ (fun h => by omega) (fun h => by omega), k _ (fun h => by omega) (fun h => by omega), ht⟩
theorem prName_len (l : List UInt8) : (prName l).length ≤ l.length + 2 := by unfold prName; split <;> simp
theorem prTime_len (n : Int) : (prTime n).length ≤ 10 := by
  have h := dec3_len (n.natAbs / 3600)
  unfold prTime
  simp only [List.length_append]
  split <;> split <;> split <;> simp [two] <;> omega
theorem prChg_len (c : Chg) : (prChg c).length ≤ 24 := by
  have h1 := prDay_len c
  have h2 := prTime_len c.time
  unfold prChg
  split <;> simp <;> omega
theorem PrtTo.old {B b g : Nat} {l : List UInt8} {w w1 : World} {o : Obj} (h : PrtTo B b l w w1) (hb : w.heap[g]? = some o) (hg : g < B) : w1.heap[g]? = some o := (h.2.1.block g hg).trans hb
set_option maxRecDepth 1000000 in
set_option maxHeartbeats 4000000 in
theorem Print_no (s0 : Int) (s1 : Bool) (s2 : ByteArray) (d0 : Int) (d1 : Bool) (d2 : ByteArray) (bo : Bool) (a0 : Int) (a1 : Int) (a2 : Int) (a3 : Int) (a4 : Int) (e0 : Int) (e1 : Int) (e2 : Int) (e3 : Int) (e4 : Int) (wide : Bool) (hr : rightB s0 s1 s2 d0 d1 d2 bo a0 a1 a2 a3 a4 e0 e1 e2 e3 e4 wide = false) (w : World) :
    Calls Tryd.prog 15 #[.agg #[.int .i64 s0, .bool s1, .string s2, .int .i64 d0, .bool d1, .string d2, .bool bo, .int .i64 a0, .int .i64 a1, .int .i64 a2, .int .i64 a3, .int .i64 a4, .int .i64 e0, .int .i64 e1, .int .i64 e2, .int .i64 e3, .int .i64 e4], .bool wide] w fun e w' => e = .returned (.tuple #[.string ⟨#[]⟩, .int .i64 1]) ∧ Below w.heap.size w w' := by
  have HR := Aside0.mk (fun W => posix_Right.calls 3 s0 s1 s2 d0 d1 d2 bo a0 a1 a2 a3 a4 e0 e1 e2 e3 e4 wide false W (by rw [rightR_eq 0, hr]))
  clear hr
  go_enter Tryd.func15, Tryd.ntmps15
  go_wp2_with ((with_reducible refine gate_dst (N := 7) rfl ?_); refine wpList_load_row rfl 27 _ rfl (w.heap.size) rfl 27 #[.int .i64 s0, .bool s1, .string s2, .int .i64 d0, .bool d1, .string d2, .bool bo, .int .i64 a0, .int .i64 a1, .int .i64 a2, .int .i64 a3, .int .i64 a4, .int .i64 e0, .int .i64 e1, .int .i64 e2, .int .i64 e3, .int .i64 e4] (0, 0) _ (blk_new _ _) Tryd.underlying27 rfl (by kernel_rfl) ?_)
  refine (HR.out _).mono ?_
  rintro e w1 ⟨rfl, hb1⟩
  have HB := Aside0.mk ((below_alloc (Below.refl _ _) _).trans (hb1.mono (by simp)))
  clear hb1 HR
  go_wp2_with fail
  go_ret2
  exact ⟨rfl, HB.out⟩
set_option maxRecDepth 1000000 in
set_option maxHeartbeats 8000000 in
theorem Print_yes (s0 : Int) (s1 : Bool) (nm : List UInt8) (d0 : Int) (d1 : Bool) (dm : List UInt8) (bo : Bool) (a0 a1 a2 a3 a4 e0 e1 e2 e3 e4 : Int) (wide : Bool)
    (hr : rightB s0 s1 ⟨nm.toArray⟩ d0 d1 ⟨dm.toArray⟩ bo a0 a1 a2 a3 a4 e0 e1 e2 e3 e4 wide = true) (w : World) (hG : G8 w) :
    Calls Tryd.prog 15 #[.agg #[.int .i64 s0, .bool s1, .string ⟨nm.toArray⟩, .int .i64 d0, .bool d1, .string ⟨dm.toArray⟩, .bool bo, .int .i64 a0, .int .i64 a1, .int .i64 a2, .int .i64 a3, .int .i64 a4, .int .i64 e0, .int .i64 e1, .int .i64 e2, .int .i64 e3, .int .i64 e4], .bool wide] w fun e w' =>
      e = .returned (.tuple #[.string ⟨(prRule ⟨⟨s0, s1, Tx nm⟩, ⟨d0, d1, Tx dm⟩, bo, ⟨a0, a1, a2, a3, a4⟩, ⟨e0, e1, e2, e3, e4⟩⟩).toArray⟩, .int .i64 0]) ∧ Below w.heap.size w w' := by
  have HR := Aside0.mk (fun W => posix_Right.calls 3 s0 s1 ⟨nm.toArray⟩ d0 d1 ⟨dm.toArray⟩ bo a0 a1 a2 a3 a4 e0 e1 e2 e3 e4 wide true W (by rw [rightR_eq 0, hr]))
  have HG := Aside0.mk hG
  unfold rightB at hr
  simp only [Bool.and_eq_true, inB, decide_eq_true_eq, namedL_eq, Tx_list] at hr
  obtain ⟨hs1, hn, hs, hr⟩ := hr
  have HN := Aside0.mk hn
  have hnl : nm.length ≤ 20 := by unfold namedL at hn; simp only [Bool.and_eq_true, decide_eq_true_eq] at hn; exact hn.1.2
  have HNL := Aside0.mk (show (prName nm).length ≤ 22 by have := prName_len nm; omega)
  obtain ⟨hs0, hs0'⟩ := hs
  have HRR := Aside0.mk hr
  clear hn hnl hs1 hG hr
  go_enter Tryd.func15, Tryd.ntmps15
  go_wp2_with ((with_reducible refine gate_dst (N := 7) rfl ?_); refine wpList_load_row rfl 27 _ rfl (w.heap.size) rfl 27 #[.int .i64 s0, .bool s1, .string ⟨nm.toArray⟩, .int .i64 d0, .bool d1, .string ⟨dm.toArray⟩, .bool bo, .int .i64 a0, .int .i64 a1, .int .i64 a2, .int .i64 a3, .int .i64 a4, .int .i64 e0, .int .i64 e1, .int .i64 e2, .int .i64 e3, .int .i64 e4] (0, 0) _ (blk_new _ _) Tryd.underlying27 rfl (by kernel_rfl) ?_)
  refine (HR.out _).mono ?_
  rintro e w1 ⟨rfl, hb1⟩
  have BR1 := Aside0.mk (blk_alloc (blk_below (blk_new _ _) hb1) (.cells #[.pointer none, .slice none 0 0] 54))
  have HB1 := Aside0.mk ((below_alloc (Below.refl _ _) _).trans (hb1.mono (by simp)))
  have hg1 : w.heap.size < w1.heap.size := by have := hb1.size; simp at this; omega
  have HG1 := Aside0.mk (HG.out.below HB1.out)
  have HRm := Aside0.mk HG1.out.room
  have HP0 := Aside0.mk (Prt.fresh w1)
  have HGg := Aside0.mk hg1
  have HGa := Aside0.mk (HG1.out.below (below_alloc (Below.refl _ _) (.cells #[.pointer none, .slice none 0 0] 54)))
  have f2 := (blk_cell BR1.out 2).trans rfl
  simp only [List.getElem?_toArray, List.getElem?_cons_succ, List.getElem?_cons_zero] at f2
  clear hb1 HR hg1
  go_wp2_with fail
  refine (pName_calls w1.heap.size w1.heap.size [] nm _ HP0.out HN.out (by simp) (by simp)).mono ?_
  rintro e w2 ⟨rfl, h2⟩
  rw [List.nil_append] at h2
  have BR2 := Aside0.mk (h2.old BR1.out HGg.out)
  have H2 := Aside0.mk h2
  have f0 := (blk_cell BR2.out 0).trans rfl
  simp only [List.getElem?_toArray, List.getElem?_cons_succ, List.getElem?_cons_zero] at f0
  clear h2 f2
  go_wp2_with fail
  refine (pTime_calls _ _ (prName nm) (-s0) _ H2.out.1 (by omega) (by have := HNL.out; omega) (Nat.le_trans (by simp) H2.out.size) (H2.out.g8 HGa.out HRm.out) HRm.out).mono ?_
  rintro e w3 ⟨rfl, h3⟩
  have BR3 := Aside0.mk (h3.old BR2.out HGg.out)
  have H3 := Aside0.mk (H2.out.trans h3)
  have f6 := (blk_cell BR3.out 6).trans rfl
  simp only [List.getElem?_toArray, List.getElem?_cons_succ, List.getElem?_cons_zero] at f6
  have HL3 := Aside0.mk (show (prName nm ++ prTime (-s0)).length ≤ 32 by have := HNL.out; have := prTime_len (-s0); simp; omega)
  have HNE := Aside0.mk (show prName nm ++ prTime (-s0) ≠ [] by unfold prTime dec3; simp; intro _ _; split <;> (try split) <;> simp)
  clear h3 f0
  cases bo
  · have HE := Aside0.mk (show prRule ⟨⟨s0, s1, Tx nm⟩, ⟨d0, d1, Tx dm⟩, false, ⟨a0, a1, a2, a3, a4⟩, ⟨e0, e1, e2, e3, e4⟩⟩ = prName nm ++ prTime (-s0) by unfold prRule; simp)
    go_wp2_with fail
    refine (pb_String _ _ _ _ H3.out.1 HNE.out (by have := HL3.out; omega)).mono ?_
    rintro e w4 ⟨rfl, h4⟩
    have HF := Aside0.mk (HB1.out.trans ((((below_alloc (Below.refl _ _) _).trans H3.out.2.1).trans h4).mono HB1.out.size))
    clear h4
    go_wp2
    go_ret2
    exact ⟨by rw [HE.out]; rfl, HF.out⟩
  · have hr := HRR.out
    rw [if_pos rfl] at hr
    simp only [Bool.and_eq_true, decide_eq_true_eq] at hr
    obtain ⟨hd1, hm, ⟨hd0, hd0'⟩, hca, hce⟩ := hr
    obtain ⟨va1, va2, va3, va4⟩ := chg_bounds a0 a1 a2 a3 a4 wide hca
    obtain ⟨ve1, ve2, ve3, ve4⟩ := chg_bounds e0 e1 e2 e3 e4 wide hce
    have VA := Aside0.mk (And.intro va1 (And.intro va2 (And.intro va3 va4)))
    have VE := Aside0.mk (And.intro ve1 (And.intro ve2 (And.intro ve3 ve4)))
    have HM := Aside0.mk hm
    have hml : dm.length ≤ 20 := by unfold namedL at hm; simp only [Bool.and_eq_true, decide_eq_true_eq] at hm; exact hm.1.2
    have HML := Aside0.mk (show (prName dm).length ≤ 22 by have := prName_len dm; omega)
    clear HRR hd1 hm hca hce va1 va2 va3 va4 ve1 ve2 ve3 ve4 hml
    have f5 := (blk_cell BR3.out 5).trans rfl
    simp only [List.getElem?_toArray, List.getElem?_cons_succ, List.getElem?_cons_zero] at f5
    obtain ⟨L3, hL3⟩ : ∃ L, L = prName nm ++ prTime (-s0) := ⟨_, rfl⟩
    have HD3 := Aside0.mk hL3
    rw [← hL3] at HL3 HNE H3
    clear hL3
    go_wp2_with fail
    refine (pName_calls _ _ L3 dm _ H3.out.1 HM.out (by have := HL3.out; omega) (Nat.le_trans (by simp) H3.out.size)).mono ?_
    rintro e w4 ⟨rfl, h4⟩
    have BR4 := Aside0.mk (h4.old BR3.out HGg.out)
    have H4 := Aside0.mk (H3.out.trans h4)
    have f0 := (blk_cell BR4.out 0).trans rfl
    have f3 := (blk_cell BR4.out 3).trans rfl
    have f7 := (blk_cell BR4.out 7).trans rfl
    simp only [List.getElem?_toArray, List.getElem?_cons_succ, List.getElem?_cons_zero] at f0 f3
    clear h4 f5 f6 f7
    by_cases hq : d0 = s0 + 3600
    · have q1 : (d0 != s0 + 3600) = false := by simp [hq]
      have HE := Aside0.mk (show prRule ⟨⟨s0, s1, Tx nm⟩, ⟨d0, d1, Tx dm⟩, true, ⟨a0, a1, a2, a3, a4⟩, ⟨e0, e1, e2, e3, e4⟩⟩ = L3 ++ prName dm ++ prChg ⟨a0, a1, a2, a3, a4⟩ ++ prChg ⟨e0, e1, e2, e3, e4⟩ by unfold prRule; rw [HD3.out, if_pos rfl, if_neg (by simp [hq])]; simp)
      obtain ⟨L4, hL4⟩ : ∃ L, L = L3 ++ prName dm := ⟨_, rfl⟩
      have HL4 := Aside0.mk (show L4.length ≤ 54 by rw [hL4]; have := HL3.out; have := HML.out; simp; omega)
      rw [← hL4] at H4 HE
      clear hq hL4
      have g7 := (blk_cell BR4.out 7).trans rfl
      have g8 := (blk_cell BR4.out 8).trans rfl
      have g9 := (blk_cell BR4.out 9).trans rfl
      have g10 := (blk_cell BR4.out 10).trans rfl
      have g11 := (blk_cell BR4.out 11).trans rfl
      simp only [List.getElem?_toArray, List.getElem?_cons_succ, List.getElem?_cons_zero] at g7 g8 g9 g10 g11
      go_wp2_with fail
      refine (pChg_calls _ _ L4 ⟨a0, a1, a2, a3, a4⟩ _ H4.out.1 VA.out.1 VA.out.2.1 VA.out.2.2.1 VA.out.2.2.2 (by have := HL4.out; omega) (Nat.le_trans (by simp) H4.out.size) (H4.out.g8 HGa.out HRm.out) HRm.out).mono ?_
      rintro e w6 ⟨rfl, h6⟩
      have BR6 := Aside0.mk (h6.old BR4.out HGg.out)
      have H6 := Aside0.mk (H4.out.trans h6)
      clear h6 g7 g8 g9 g10 g11
      have g7 := (blk_cell BR6.out 12).trans rfl
      have g8 := (blk_cell BR6.out 13).trans rfl
      have g9 := (blk_cell BR6.out 14).trans rfl
      have g10 := (blk_cell BR6.out 15).trans rfl
      have g11 := (blk_cell BR6.out 16).trans rfl
      simp only [List.getElem?_toArray, List.getElem?_cons_succ, List.getElem?_cons_zero] at g7 g8 g9 g10 g11
      have HL6 := Aside0.mk (show (L4 ++ prChg ⟨a0, a1, a2, a3, a4⟩).length ≤ 90 by have := HL4.out; have := prChg_len ⟨a0, a1, a2, a3, a4⟩; rw [List.length_append]; omega)
      go_wp2_with fail
      refine (pChg_calls _ _ (L4 ++ prChg ⟨a0, a1, a2, a3, a4⟩) ⟨e0, e1, e2, e3, e4⟩ _ H6.out.1 VE.out.1 VE.out.2.1 VE.out.2.2.1 VE.out.2.2.2 (by have := HL6.out; omega) (Nat.le_trans (by simp) H6.out.size) (H6.out.g8 HGa.out HRm.out) HRm.out).mono ?_
      rintro e w7 ⟨rfl, h7⟩
      have H7 := Aside0.mk (H6.out.trans h7)
      rw [← HE.out] at H7
      clear h7 g7 g8 g9 g10 g11
      have HLE := Aside0.mk (show (prRule ⟨⟨s0, s1, Tx nm⟩, ⟨d0, d1, Tx dm⟩, true, ⟨a0, a1, a2, a3, a4⟩, ⟨e0, e1, e2, e3, e4⟩⟩).length ≤ 1000 by rw [HE.out, List.length_append]; have := HL6.out; have := prChg_len ⟨e0, e1, e2, e3, e4⟩; omega)
      have HNZ := Aside0.mk (show prRule ⟨⟨s0, s1, Tx nm⟩, ⟨d0, d1, Tx dm⟩, true, ⟨a0, a1, a2, a3, a4⟩, ⟨e0, e1, e2, e3, e4⟩⟩ ≠ [] by rw [HE.out]; intro h; have := congrArg List.length h; simp [prChg] at this)
      go_wp2_with fail
      refine (pb_String _ _ _ _ H7.out.1 HNZ.out (by have := HLE.out; omega)).mono ?_
      rintro e w8 ⟨rfl, h8⟩
      have HF := Aside0.mk (HB1.out.trans ((((below_alloc (Below.refl _ _) _).trans H7.out.2.1).trans h8).mono HB1.out.size))
      clear h8
      go_wp2
      go_ret2
      exact ⟨rfl, HF.out⟩
    · have q1 : (d0 != s0 + 3600) = true := by simp [hq]
      have HE := Aside0.mk (show prRule ⟨⟨s0, s1, Tx nm⟩, ⟨d0, d1, Tx dm⟩, true, ⟨a0, a1, a2, a3, a4⟩, ⟨e0, e1, e2, e3, e4⟩⟩ = L3 ++ prName dm ++ prTime (-d0) ++ prChg ⟨a0, a1, a2, a3, a4⟩ ++ prChg ⟨e0, e1, e2, e3, e4⟩ by unfold prRule; rw [HD3.out, if_pos rfl, if_pos hq]; simp)
      obtain ⟨L4, hL4⟩ : ∃ L, L = L3 ++ prName dm ++ prTime (-d0) := ⟨_, rfl⟩
      have HL4 := Aside0.mk (show L4.length ≤ 64 by rw [hL4]; have := HL3.out; have := HML.out; have := prTime_len (-d0); simp; omega)
      have HL5 := Aside0.mk (show (L3 ++ prName dm).length ≤ 1000 by have := HL3.out; have := HML.out; simp; omega)
      rw [← hL4] at HE
      have HD4 := Aside0.mk hL4
      clear hq hL4
      go_wp2_with fail
      refine (pTime_calls _ _ (L3 ++ prName dm) (-d0) _ H4.out.1 (by omega) HL5.out (Nat.le_trans (by simp) H4.out.size) (H4.out.g8 HGa.out HRm.out) HRm.out).mono ?_
      rintro e w5 ⟨rfl, h5⟩
      rw [← HD4.out] at h5
      have BR4 := Aside0.mk (h5.old BR4.out HGg.out)
      have H4 := Aside0.mk (H4.out.trans h5)
      clear h5 f0 f3
      have g7 := (blk_cell BR4.out 7).trans rfl
      have g8 := (blk_cell BR4.out 8).trans rfl
      have g9 := (blk_cell BR4.out 9).trans rfl
      have g10 := (blk_cell BR4.out 10).trans rfl
      have g11 := (blk_cell BR4.out 11).trans rfl
      simp only [List.getElem?_toArray, List.getElem?_cons_succ, List.getElem?_cons_zero] at g7 g8 g9 g10 g11
      go_wp2_with fail
      refine (pChg_calls _ _ L4 ⟨a0, a1, a2, a3, a4⟩ _ H4.out.1 VA.out.1 VA.out.2.1 VA.out.2.2.1 VA.out.2.2.2 (by have := HL4.out; omega) (Nat.le_trans (by simp) H4.out.size) (H4.out.g8 HGa.out HRm.out) HRm.out).mono ?_
      rintro e w6 ⟨rfl, h6⟩
      have BR6 := Aside0.mk (h6.old BR4.out HGg.out)
      have H6 := Aside0.mk (H4.out.trans h6)
      clear h6 g7 g8 g9 g10 g11
      have g7 := (blk_cell BR6.out 12).trans rfl
      have g8 := (blk_cell BR6.out 13).trans rfl
      have g9 := (blk_cell BR6.out 14).trans rfl
      have g10 := (blk_cell BR6.out 15).trans rfl
      have g11 := (blk_cell BR6.out 16).trans rfl
      simp only [List.getElem?_toArray, List.getElem?_cons_succ, List.getElem?_cons_zero] at g7 g8 g9 g10 g11
      have HL6 := Aside0.mk (show (L4 ++ prChg ⟨a0, a1, a2, a3, a4⟩).length ≤ 90 by have := HL4.out; have := prChg_len ⟨a0, a1, a2, a3, a4⟩; rw [List.length_append]; omega)
      go_wp2_with fail
      refine (pChg_calls _ _ (L4 ++ prChg ⟨a0, a1, a2, a3, a4⟩) ⟨e0, e1, e2, e3, e4⟩ _ H6.out.1 VE.out.1 VE.out.2.1 VE.out.2.2.1 VE.out.2.2.2 (by have := HL6.out; omega) (Nat.le_trans (by simp) H6.out.size) (H6.out.g8 HGa.out HRm.out) HRm.out).mono ?_
      rintro e w7 ⟨rfl, h7⟩
      have H7 := Aside0.mk (H6.out.trans h7)
      rw [← HE.out] at H7
      clear h7 g7 g8 g9 g10 g11
      have HLE := Aside0.mk (show (prRule ⟨⟨s0, s1, Tx nm⟩, ⟨d0, d1, Tx dm⟩, true, ⟨a0, a1, a2, a3, a4⟩, ⟨e0, e1, e2, e3, e4⟩⟩).length ≤ 1000 by rw [HE.out, List.length_append]; have := HL6.out; have := prChg_len ⟨e0, e1, e2, e3, e4⟩; omega)
      have HNZ := Aside0.mk (show prRule ⟨⟨s0, s1, Tx nm⟩, ⟨d0, d1, Tx dm⟩, true, ⟨a0, a1, a2, a3, a4⟩, ⟨e0, e1, e2, e3, e4⟩⟩ ≠ [] by rw [HE.out]; intro h; have := congrArg List.length h; simp [prChg] at this)
      go_wp2_with fail
      refine (pb_String _ _ _ _ H7.out.1 HNZ.out (by have := HLE.out; omega)).mono ?_
      rintro e w8 ⟨rfl, h8⟩
      have HF := Aside0.mk (HB1.out.trans ((((below_alloc (Below.refl _ _) _).trans H7.out.2.1).trans h8).mono HB1.out.size))
      clear h8
      go_wp2
      go_ret2
      exact ⟨rfl, HF.out⟩
end Go.Proofs.YtnbjneknicppcaaDoor.Fn
