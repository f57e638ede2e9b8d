/- Part 5 of the texts for LRuleShift: contracts and plain laws that it leans on. -/
import Derived.Test.YtgbehcahdgamoaaDoorZRuleShift4
import Derived.Laws.CopyOwn
namespace Go.Proofs.YtgbehcahdgamoaaDoor.Fn
open Go.RowKit Go.Proofs.YtgbehcahdgamoaaDoorW.PrintWords Go.Proofs.YtgbehcahdgamoaaDoorW.PrintLast Go.Proofs.YtgbehcahdgamoaaDoorW.PrintMore Go.Lib Go.Sort

/-- One of two values. -/
def pickV (b : Bool) (x y : Value) : Value := if b = true then x else y

/-- A slice of turns that reads as a list. -/
def CellsT (w : World) (g : Nat) (xs : List (Int × Bool)) : Prop := ∀ i, i < xs.length → w.cell? ⟨g, i * 2, none⟩ = some (.int .i64 (xs[i]?.getD default).1) ∧ w.cell? ⟨g, i * 2 + 1, none⟩ = some (.bool (xs[i]?.getD default).2)
theorem CellsT.below {w w' : World} {g : Nat} {xs : List (Int × Bool)} (h : CellsT w g xs) (hb : Below w.heap.size w w') : CellsT w' g xs := fun i hi =>
  ⟨(hb.cell (p := ⟨g, i * 2, none⟩) (World.block_lt_of_cell? _ _ (h i hi).1)).trans (h i hi).1, (hb.cell (p := ⟨g, i * 2 + 1, none⟩) (World.block_lt_of_cell? _ _ (h i hi).2)).trans (h i hi).2⟩

theorem contT_calls (W : World) (B g cap : Nat) (xs : List (Int × Bool)) (h0 : 0 < xs.length) (h6 : xs.length ≤ 6) (hl : W.cell? ⟨B, 0, none⟩ = some (.slice (some ⟨g, 0, none⟩) xs.length cap)) (hc : CellsT W g xs) :
    Calls Tryd.prog 36 #[.slice (some ⟨g, 0, none⟩) xs.length cap, .func (.func 37) #[] #[.pointer (some ⟨B, 0, none⟩)]] W fun e w' => e = .returned (.bool (xs.any fun x => x.2 && x.1 == firstT xs)) ∧ Below W.heap.size W w' := by
  have hp := atFirst W B g xs.length cap (firstT xs) h0 hl (by have := (hc 0 h0).1; simpa [firstT] using this)
  have h := AnyQ.slices_ContainsFunc Tryd.contTurn 2 Tryd.isAgg62 Tryd.sizeOf62 encT (fun _ => rfl) (fun x => x.2 && x.1 == firstT xs) 37 #[.pointer (some ⟨B, 0, none⟩)] (enters_of Tryd.func37 (by kernel_rfl) rfl) g 0 xs.length cap xs W hp (Nat.le_refl _) (by omega)
    (World.block_lt_of_cell? _ _ (hc 0 h0).1) (by
      intro j hj i v hv
      have e : xs[j]! = xs[j]?.getD default := by simp [hj]
      rw [e] at hv
      match i, hv with
      | 0, hv => simp [encT] at hv; subst hv; simpa using (hc j hj).1
      | 1, hv => simp [encT] at hv; subst hv; simpa using (hc j hj).2
      | i + 2, hv => simp [encT] at hv)
  rw [List.take_length] at h
  exact h

set_option maxRecDepth 100000 in
set_option maxHeartbeats 2000000 in
theorem At_two (k : Nat) (xs : List (Int × Bool)) (s0 : Int) (s1 : Bool) (s2 : ByteArray) (d0 : Int) (d1 : Bool) (d2 : ByteArray) (a0 : Int) (a1 : Int) (a2 : Int) (a3 : Int) (a4 : Int) (e0 : Int) (e1 : Int) (e2 : Int) (e3 : Int) (e4 : Int) (t : Int) (w : World) (hG : GL w) (h : posix_Right.f k s0 s1 s2 d0 d1 d2 true a0 a1 a2 a3 a4 e0 e1 e2 e3 e4 true = some true)
    (v0 v1 : Int) (v2 : Bool) (hv : number_Div.f t 86400 = some (v0, v1, v2)) (y m d : Int) (hd : civil_Date.f v0 = some (y, m, d, 0)) (hL : 0 < xs.length) (hL2 : xs.length ≤ 6)
    (hT : ∀ W, GL W → Calls Tryd.prog 35 #[.agg #[.int .i64 s0, .bool s1, .string s2, .int .i64 d0, .bool d1, .string d2, .bool true, .int .i64 a0, .int .i64 a1, .int .i64 a2, .int .i64 a3, .int .i64 a4, .int .i64 e0, .int .i64 e1, .int .i64 e2, .int .i64 e3, .int .i64 e4], .int .i64 y] W fun e w' => ∃ g cap : Nat, e = .returned (.slice (some ⟨g, 0, none⟩) xs.length cap) ∧ CellsT w' g xs ∧ Below W.heap.size W w') :
    Calls Tryd.prog 16 #[.agg #[.int .i64 s0, .bool s1, .string s2, .int .i64 d0, .bool d1, .string d2, .bool true, .int .i64 a0, .int .i64 a1, .int .i64 a2, .int .i64 a3, .int .i64 a4, .int .i64 e0, .int .i64 e1, .int .i64 e2, .int .i64 e3, .int .i64 e4], .int .i64 t] w fun e w' => e = .returned (.tuple #[pickV (dstT t xs) (.agg #[.int .i64 d0, .bool d1, .string d2]) (.agg #[.int .i64 s0, .bool s1, .string s2]), .int .i64 0]) ∧ Below w.heap.size w w' := by
  have HC := Aside0.mk (fun W => posix_Right.calls k s0 s1 s2 d0 d1 d2 true a0 a1 a2 a3 a4 e0 e1 e2 e3 e4 true true W h)
  have HV := Aside0.mk (fun W => number_Div.calls t 86400 v0 v1 v2 W hv)
  have HD := Aside0.mk (fun W => civil_Date.calls v0 y m d 0 W hd)
  have HT := Aside0.mk hT
  have HG := Aside0.mk hG
  clear h hv hd hG hT
  go_enter Tryd.func16, Tryd.ntmps16
  go_wp2_with ((with_reducible refine gate_dst (N := 17) rfl ?_); refine wpList_load_row rfl 27 _ rfl w.heap.size rfl 27 #[.int .i64 s0, .bool s1, .string s2, .int .i64 d0, .bool d1, .string d2, .bool true, .int .i64 a0, .int .i64 a1, .int .i64 a2, .int .i64 a3, .int .i64 a4, .int .i64 e0, .int .i64 e1, .int .i64 e2, .int .i64 e3, .int .i64 e4] (0, 0) _ (blk_alloc (blk_new _ _) _) Tryd.underlying27 rfl (by kernel_rfl) ?_)
  refine (HC.out _).mono ?_
  rintro e w1 ⟨rfl, hb1⟩
  have BK := blk_below (blk_new _ _) hb1
  simp only [World.size_alloc] at BK
  have BR := blk_below (blk_alloc (blk_new _ _) _) hb1
  have HBw := Aside0.mk ((below_alloc (below_alloc (Below.refl _ _) _) _).trans (hb1.mono (by simp; omega)))
  have hr6 : w1.cell? ⟨w.heap.size, 6, none⟩ = some (.bool true) := (blk_cell BR 6).trans rfl
  have BK1 := Aside0.mk BK
  have BR1 := Aside0.mk BR
  clear hb1 BK HC BR
  go_wp2_with (first | ((with_reducible refine gate_dst (N := 43) rfl ?_); refine wpList_load_row rfl 27 _ rfl w.heap.size rfl 27 #[.int .i64 s0, .bool s1, .string s2, .int .i64 d0, .bool d1, .string d2, .bool true, .int .i64 a0, .int .i64 a1, .int .i64 a2, .int .i64 a3, .int .i64 a4, .int .i64 e0, .int .i64 e1, .int .i64 e2, .int .i64 e3, .int .i64 e4] (0, 0) _ (blk_drewN BR1.out _) Tryd.underlying27 rfl (by kernel_rfl) ?_) | (go_at_call 34; refine (HV.out _).mono ?_; rintro e w' ⟨rfl, ⟨nd, rfl⟩⟩) | (go_at_call 21; refine (HD.out _).mono ?_; rintro e w' ⟨rfl, ⟨nd, rfl⟩⟩))
  refine (HT.out _ (HG.out.below (by repeat (first | exact HBw.out | apply pw_below_drewN | apply below_drew1 | apply below_alloc | refine below_set ?_ (by omega))))).mono ?_
  rintro e w2 ⟨g, cap, rfl, hct, hb2⟩
  have hb2' : Below w1.heap.size w1 w2 := (pw_below_drewN (Below.refl _ _) _).trans (hb2.mono (Nat.le_refl _))
  have BK := blk_below BK1.out hb2'
  have BR := blk_below BR1.out hb2'
  have HBw2 := Aside0.mk (HBw.out.trans (hb2'.mono HBw.out.size))
  have HCT := Aside0.mk hct
  clear hb2 hb2' BK1 BR1 HBw HT HV HD HG hct hr6
  have BK2 := Aside0.mk BK
  have BR2 := Aside0.mk BR
  clear BK BR
  go_wp2_with fail
  refine (contT_calls _ w2.heap.size g cap xs hL hL2 (by go_simp) (HCT.out.below (below_alloc (Below.refl _ _) _))).mono ?_
  rintro e w3 ⟨rfl, hb3⟩
  have hb3' : Below w2.heap.size w2 w3 := (below_alloc (Below.refl _ _) _).trans (hb3.mono (by simp))
  have hl3 : w3.cell? ⟨w2.heap.size, 0, none⟩ = some (.slice (some ⟨g, 0, none⟩) xs.length cap) := (hb3.cell (p := ⟨w2.heap.size, 0, none⟩) (by simp)).trans (by go_simp)
  have HCT3 := Aside0.mk (HCT.out.below hb3')
  have HBw3 := Aside0.mk (HBw2.out.trans (hb3'.mono HBw2.out.size))
  have BK3 := Aside0.mk (blk_below BK2.out hb3')
  have BR3 := Aside0.mk (blk_below BR2.out hb3')
  clear hb3 hb3' HCT HBw2 BK2 BR2
  obtain ⟨b0, hb0⟩ : ∃ b0, b0 = !(xs.any fun x => x.2 && x.1 == firstT xs) := ⟨_, rfl⟩
  have HB0 := Aside0.mk hb0
  go_wp2_with fail
  rw [← hb0]
  clear hb0
  go_loopw [14, 52] (fun ds i wr => ∃ (j : Nat), j ≤ xs.length ∧ i = .int .i64 j ∧ ds = .bool (foldT t (xs.take j) b0) ∧ Below w3.heap.size w3 wr) (fun _ i _ => (xs.length - intOf i).toNat)
  case atStart => exact ⟨0, by omega, rfl, rfl, Below.refl _ _⟩
  case round =>
    obtain ⟨j, hj, rfl, rfl, hb⟩ := hrel
    have hsz := hb.size
    by_cases hlt : j < xs.length
    · have hcc := (HCT3.out.below hb) j hlt
      obtain ⟨hc0, hc1⟩ := hcc
      have HS := Aside0.mk (foldT_step t xs b0 j hlt)
      generalize xs[j]?.getD default = x at hc0 hc1 HS
      obtain ⟨a, b⟩ := x
      have HB := Aside0.mk hb
      clear hb
      by_cases hle : a ≤ t
      · have HS2 : Aside0 (foldT t (xs.take (j + 1)) b0 = b) := ⟨by rw [HS.out, if_pos hle]⟩
        clear HS
        go_wp2
        go_roundw
        case rel => exact ⟨j + 1, by omega, by go_num, by rw [HS2.out], (by repeat (first | exact HB.out | apply pw_below_drewN | apply below_drew1 | apply below_alloc | refine below_set ?_ (by omega)))⟩
        case measure => simp [intOf]; omega
      · have HS2 : Aside0 (foldT t (xs.take (j + 1)) b0 = foldT t (xs.take j) b0) := ⟨by rw [HS.out, if_neg hle]⟩
        clear HS
        go_wp2
        go_roundw
        case rel => exact ⟨j + 1, by omega, by go_num, by rw [HS2.out], (by repeat (first | exact HB.out | apply pw_below_drewN | apply below_drew1 | apply below_alloc | refine below_set ?_ (by omega)))⟩
        case measure => simp [intOf]; omega
    · obtain rfl : j = xs.length := by omega
      have HBr := Aside0.mk (HBw3.out.trans (hb.mono HBw3.out.size))
      have BKr := blk_below BK3.out hb
      have BRr := blk_below BR3.out hb
      have BK4 := Aside0.mk BKr
      have hds : foldT t (xs.take xs.length) b0 = dstT t xs := by rw [List.take_length, HB0.out]; rfl
      have hk0_ : wr.cell? ⟨w.heap.size+1, 0, none⟩ = some (.int .i64 0) := (blk_cell BKr 0).trans rfl
      have hk1_ : wr.cell? ⟨w.heap.size+1, 1, none⟩ = some (.bool false) := (blk_cell BKr 1).trans rfl
      have hk2_ : wr.cell? ⟨w.heap.size+1, 2, none⟩ = some (.string (⟨#[]⟩ : ByteArray)) := (blk_cell BKr 2).trans rfl
      have hf0_ : wr.frozen? ⟨w.heap.size+1, 0, none⟩ = false := blk_frozen BKr 0
      have hf1_ : wr.frozen? ⟨w.heap.size+1, 1, none⟩ = false := blk_frozen BKr 1
      have hf2_ : wr.frozen? ⟨w.heap.size+1, 2, none⟩ = false := blk_frozen BKr 2
      have hr0 : wr.cell? ⟨w.heap.size, 0, none⟩ = some (.int .i64 s0) := (blk_cell BRr 0).trans rfl
      have hr1 : wr.cell? ⟨w.heap.size, 1, none⟩ = some (.bool s1) := (blk_cell BRr 1).trans rfl
      have hr2 : wr.cell? ⟨w.heap.size, 2, none⟩ = some (.string s2) := (blk_cell BRr 2).trans rfl
      have hr3 : wr.cell? ⟨w.heap.size, 3, none⟩ = some (.int .i64 d0) := (blk_cell BRr 3).trans rfl
      have hr4 : wr.cell? ⟨w.heap.size, 4, none⟩ = some (.bool d1) := (blk_cell BRr 4).trans rfl
      have hr5 : wr.cell? ⟨w.heap.size, 5, none⟩ = some (.string d2) := (blk_cell BRr 5).trans rfl
      clear BKr BRr hb hlt hj HCT3 HBw3 BK3 BR3
      rw [hds]
      clear hds HB0
      generalize hr : dstT t xs = r
      have HR := Aside0.mk hr
      clear hr
      cases r
      · go_wp2
        refine bodyPost_ret (results_ct rfl _ _ (w.heap.size+1) 23 #[.int .i64 (s0), .bool s1, .string s2] (0, 0) _ rfl (by (with_reducible repeat (first | refine blk_drewN ?_ _ | refine blk_drew ?_ | refine blk_alloc ?_ _)); refine blk_put (cs := #[.int .i64 (s0), .bool s1, .string (⟨#[]⟩ : ByteArray)]) ?_ 2 _ rfl; (with_reducible repeat (first | refine blk_drewN ?_ _ | refine blk_drew ?_ | refine blk_alloc ?_ _)); refine blk_put (cs := #[.int .i64 (s0), .bool false, .string (⟨#[]⟩ : ByteArray)]) ?_ 1 _ rfl; (with_reducible repeat (first | refine blk_drewN ?_ _ | refine blk_drew ?_ | refine blk_alloc ?_ _)); refine blk_put (cs := #[.int .i64 0, .bool false, .string (⟨#[]⟩ : ByteArray)]) ?_ 0 _ rfl; (with_reducible repeat (first | refine blk_drewN ?_ _ | refine blk_drew ?_ | refine blk_alloc ?_ _)); exact BK4.out) Tryd.underlying23 rfl (by kernel_rfl)) rfl ?_
        exact ⟨by rw [HR.out]; rfl, (by repeat (first | exact HBr.out | apply pw_below_drewN | apply below_drew1 | apply below_alloc | refine below_set ?_ (by omega)))⟩
      · go_wp2
        refine bodyPost_ret (results_ct rfl _ _ (w.heap.size+1) 23 #[.int .i64 (d0), .bool d1, .string d2] (0, 0) _ rfl (by (with_reducible repeat (first | refine blk_drewN ?_ _ | refine blk_drew ?_ | refine blk_alloc ?_ _)); refine blk_put (cs := #[.int .i64 (d0), .bool d1, .string (⟨#[]⟩ : ByteArray)]) ?_ 2 _ rfl; (with_reducible repeat (first | refine blk_drewN ?_ _ | refine blk_drew ?_ | refine blk_alloc ?_ _)); refine blk_put (cs := #[.int .i64 (d0), .bool false, .string (⟨#[]⟩ : ByteArray)]) ?_ 1 _ rfl; (with_reducible repeat (first | refine blk_drewN ?_ _ | refine blk_drew ?_ | refine blk_alloc ?_ _)); refine blk_put (cs := #[.int .i64 0, .bool false, .string (⟨#[]⟩ : ByteArray)]) ?_ 0 _ rfl; (with_reducible repeat (first | refine blk_drewN ?_ _ | refine blk_drew ?_ | refine blk_alloc ?_ _)); exact BK4.out) Tryd.underlying23 rfl (by kernel_rfl)) rfl ?_
        exact ⟨by rw [HR.out]; rfl, (by repeat (first | exact HBr.out | apply pw_below_drewN | apply below_drew1 | apply below_alloc | refine below_set ?_ (by omega)))⟩

theorem rowsT_three (T : Int → Int × Int × Int) (y : Int) : rowsT T (y - 1) 3 = rowT (T (y - 1)) ++ rowT (T y) ++ rowT (T (y + 1)) := by
  simp only [rowsT]
  rw [show y - 1 + ((0 : Nat) : Int) = y - 1 from by omega, show y - 1 + ((1 : Nat) : Int) = y from by omega, show y - 1 + ((2 : Nat) : Int) = y + 1 from by omega]
  simp

theorem rule_At.calls (k : Nat) (s0 : Int) (s1 : Bool) (s2 : ByteArray) (d0 : Int) (d1 : Bool) (d2 : ByteArray) (bo : Bool) (a0 : Int) (a1 : Int) (a2 : Int) (a3 : Int) (a4 : Int) (e0 : Int) (e1 : Int) (e2 : Int) (e3 : Int) (e4 : Int) (t q0 : Int) (q1 : Bool) (q2 : ByteArray) (q3 : Int) (w : World) (hG : GL w) (h : rule_At.f k s0 s1 s2 d0 d1 d2 bo a0 a1 a2 a3 a4 e0 e1 e2 e3 e4 t = some (q0, q1, q2, q3)) :
    Calls Tryd.prog 16 #[.agg #[.int .i64 s0, .bool s1, .string s2, .int .i64 d0, .bool d1, .string d2, .bool bo, .int .i64 a0, .int .i64 a1, .int .i64 a2, .int .i64 a3, .int .i64 a4, .int .i64 e0, .int .i64 e1, .int .i64 e2, .int .i64 e3, .int .i64 e4], .int .i64 t] w fun e w' => e = .returned (.tuple #[.agg #[.int .i64 q0, .bool q1, .string q2], .int .i64 q3]) ∧ Below w.heap.size w w' := by
  unfold rule_At.f at h
  replace h := Option.bind_eq_some_iff.mp h
  obtain ⟨ok, hok, h⟩ := h
  cases ok
  · rw [if_pos rfl] at h
    simp only [Option.some.injEq, Prod.mk.injEq] at h
    obtain ⟨rfl, rfl, rfl, rfl⟩ := h
    exact At_wrong k s0 s1 s2 d0 d1 d2 bo a0 a1 a2 a3 a4 e0 e1 e2 e3 e4 t w hok
  · rw [if_neg (by decide)] at h
    by_cases hbo : bo = false
    · rw [if_pos hbo] at h
      simp only [Option.some.injEq, Prod.mk.injEq] at h
      obtain ⟨rfl, rfl, rfl, rfl⟩ := h
      exact At_one k s0 s1 s2 d0 d1 d2 a0 a1 a2 a3 a4 e0 e1 e2 e3 e4 t w bo hbo hok
    · rw [if_neg hbo] at h
      have hbo : bo = true := by simpa using hbo
      replace h := Option.bind_eq_some_iff.mp h
      obtain ⟨⟨v0, v1, v2⟩, hv, h⟩ := h
      replace h := Option.bind_eq_some_iff.mp h
      obtain ⟨⟨y, m, d, er⟩, hd, h⟩ := h
      simp only at h
      by_cases her : er = 0
      · subst her
        rw [if_pos rfl] at h
        by_cases hy : -4611686018427387904 < y ∧ y < 4611686018427387904
        · rw [if_pos hy] at h
          replace h := Option.bind_eq_some_iff.mp h
          obtain ⟨T0, hT0, h⟩ := h
          replace h := Option.bind_eq_some_iff.mp h
          obtain ⟨T1, hT1, h⟩ := h
          replace h := Option.bind_eq_some_iff.mp h
          obtain ⟨T2, hT2, h⟩ := h
          obtain ⟨T, f0, f1, f2⟩ : ∃ T : Int → Int × Int × Int, T (y - 1) = T0 ∧ T y = T1 ∧ T (y + 1) = T2 :=
            ⟨fun z => if z = y - 1 then T0 else if z = y then T1 else T2, by simp, by dsimp only; rw [if_neg (by omega), if_pos rfl], by dsimp only; rw [if_neg (by omega), if_neg (by omega)]⟩
          subst f0 f1 f2
          rw [← rowsT_three T y] at h
          by_cases hne : 0 < (rowsT T (y - 1) 3).length
          · rw [if_pos hne] at h
            have hT : ∀ j : Nat, j < 3 → rule_Turns.f k s0 s1 s2 d0 d1 d2 bo a0 a1 a2 a3 a4 e0 e1 e2 e3 e4 (y - 1 + j) = some (T (y - 1 + j)) := by
              intro j hj
              rcases (show j = 0 ∨ j = 1 ∨ j = 2 by omega) with rfl | rfl | rfl
              · rw [show y - 1 + ((0 : Nat) : Int) = y - 1 from by omega]; exact hT0
              · rw [show y - 1 + ((1 : Nat) : Int) = y from by omega]; exact hT1
              · rw [show y - 1 + ((2 : Nat) : Int) = y + 1 from by omega]; exact hT2
            subst hbo
            have H := At_two k (sortT (rowsT T (y - 1) 3)) s0 s1 s2 d0 d1 d2 a0 a1 a2 a3 a4 e0 e1 e2 e3 e4 t w hG hok v0 v1 v2 hv y m d hd (by rw [sortT_len]; exact hne) (by rw [sortT_len]; exact rowsT_len T (y - 1) 3)
              (fun W hGW => (turns_calls k T s0 s1 s2 d0 d1 d2 true a0 a1 a2 a3 a4 e0 e1 e2 e3 e4 y W hGW hy.1 hy.2 hT hne).mono fun e w' ⟨g, cap, he, _, _, hH, hb⟩ => ⟨g, cap, by rw [sortT_len]; exact he, fun i hi => cells_T hH i hi, hb⟩)
            refine H.mono fun e w' ⟨he, hb⟩ => ⟨?_, hb⟩
            rw [he]
            by_cases hds : dstT t (sortT (rowsT T (y - 1) 3)) = true
            · rw [if_pos hds] at h
              simp only [Option.some.injEq, Prod.mk.injEq] at h
              obtain ⟨rfl, rfl, rfl, rfl⟩ := h
              rw [pickV, if_pos hds]
            · rw [if_neg hds] at h
              simp only [Option.some.injEq, Prod.mk.injEq] at h
              obtain ⟨rfl, rfl, rfl, rfl⟩ := h
              rw [pickV, if_neg hds]
          · rw [if_neg hne] at h
            cases h
        · rw [if_neg hy] at h
          cases h
      · rw [if_neg her] at h
        simp only [Option.some.injEq, Prod.mk.injEq] at h
        obtain ⟨rfl, rfl, rfl, rfl⟩ := h
        exact At_err k s0 s1 s2 d0 d1 d2 a0 a1 a2 a3 a4 e0 e1 e2 e3 e4 t w bo hbo hok v0 v1 v2 hv y m d er hd her

theorem rule_At.mono : ∀ s0 s1 s2 d0 d1 d2 bo a0 a1 a2 a3 a4 e0 e1 e2 e3 e4 t k, LeO (rule_At.f k s0 s1 s2 d0 d1 d2 bo a0 a1 a2 a3 a4 e0 e1 e2 e3 e4 t) (rule_At.f (k + 1) s0 s1 s2 d0 d1 d2 bo a0 a1 a2 a3 a4 e0 e1 e2 e3 e4 t) := by
  intro s0 s1 s2 d0 d1 d2 bo a0 a1 a2 a3 a4 e0 e1 e2 e3 e4 t k
  unfold rule_At.f
  repeat' first
      | (with_reducible exact posix_Right.mono _ _ _ _ _ _ _ _ _ _ _ _ _ _ _ _ _ _ _)
      | (with_reducible exact rule_Turns.mono _ _ _ _ _ _ _ _ _ _ _ _ _ _ _ _ _ _ _)
      | (with_reducible exact LeO.refl _)
      | (with_reducible exact LeO.none _)
      | (with_reducible refine LeO.ite ?_ ?_)
      | (with_reducible refine LeO.bind ?_ (fun _ => ?_))
end Go.Proofs.YtgbehcahdgamoaaDoor.Fn

namespace Go.Proofs.YtgbehcahdgamoaaDoor.Fn
open Go.RowKit Go.Proofs.YtgbehcahdgamoaaDoorW.PrintWords Go.Proofs.YtgbehcahdgamoaaDoorW.PrintLast Go.Proofs.YtgbehcahdgamoaaDoorW.PrintMore Go.Sort

theorem ltT_iff (x y : Int × Bool) : ltOf cfT x y = true ↔ x.1 < y.1 ∨ x.1 = y.1 ∧ x.2 = false ∧ y.2 = true := by
  obtain ⟨a, b⟩ := x
  obtain ⟨c, d⟩ := y
  unfold ltOf cfT
  simp only [decide_eq_true_eq]
  by_cases h1 : a < c
  · simp [h1]
  · by_cases h2 : c < a
    · simp [h1, h2]; omega
    · obtain rfl : a = c := by omega
      cases b <;> cases d <;> simp
theorem ltT_false (x y : Int × Bool) : ltOf cfT x y = false ↔ y.1 < x.1 ∨ x.1 = y.1 ∧ ¬ (x.2 = false ∧ y.2 = true) := by
  rw [← Bool.not_eq_true, ltT_iff]
  constructor
  · intro h
    by_cases e : x.1 = y.1
    · exact .inr ⟨e, fun g => h (.inr ⟨e, g.1, g.2⟩)⟩
    · exact .inl (by
        rcases Int.lt_trichotomy x.1 y.1 with g | g | g
        · exact absurd (.inl g) h
        · exact absurd g e
        · exact g)
  · rintro (h | ⟨e, h⟩) (g | ⟨g, g1, g2⟩)
    · omega
    · omega
    · omega
    · exact h ⟨g1, g2⟩
theorem swoT : SWO (ltOf cfT) where
  irrefl x := by rw [ltT_false]; exact .inr ⟨rfl, fun g => by rw [g.1] at g; simp at g⟩
  trans x y z h1 h2 := by
    rw [ltT_iff] at h1 h2 ⊢
    rcases h1 with h1 | ⟨h1, h3, h4⟩ <;> rcases h2 with h2 | ⟨h2, h5, h6⟩
    · exact .inl (by omega)
    · exact .inl (by omega)
    · exact .inl (by omega)
    · rw [h4] at h5; cases h5
  ntrans x y z h1 h2 := by
    rw [ltT_false] at h1 h2 ⊢
    rcases h1 with h1 | ⟨h1, h3⟩ <;> rcases h2 with h2 | ⟨h2, h5⟩
    · exact .inl (by omega)
    · exact .inl (by omega)
    · exact .inl (by omega)
    · refine .inr ⟨by omega, ?_⟩
      rintro ⟨g1, g2⟩
      cases hy : y.2
      · exact h5 ⟨hy, g2⟩
      · exact h3 ⟨g1, hy⟩

theorem sortT_perm (l : List (Int × Bool)) : (sortT l).Perm l := by
  have h := (insertionSort_holds (lt := ltOf cfT) swoT l.toArray 0 l.length (by omega) (by simp)).1.2.2
  have e1 : (l.toArray.extract 0 l.length).toList = l := by simp
  have e2 : ((Sort.insertionSort (ltOf cfT) l.toArray 0 l.length).extract 0 l.length).toList = sortT l := by
    unfold sortT
    rw [Array.extract_eq_self_of_le (by rw [size_insertionSort]; simp)]
  rw [e1, e2] at h
  exact h
theorem sortT_sorted (l : List (Int × Bool)) : (sortT l).Pairwise fun x y => ltOf cfT y x = false := by
  have h := (insertionSort_holds (lt := ltOf cfT) swoT l.toArray 0 l.length (by omega) (by simp)).2
  rw [List.pairwise_iff_getElem]
  intro i j hi hj hij
  have hl := sortT_len l
  have := h i j (by omega) hij (by omega)
  rw [getElem!_pos _ i (by rw [size_insertionSort]; simp; omega), getElem!_pos _ j (by rw [size_insertionSort]; simp; omega)] at this
  simpa [sortT] using this

theorem foldT_none (t : Int) : ∀ (S : List (Int × Bool)) (b : Bool), (∀ x ∈ S, t < x.1) → foldT t S b = b
  | [], b, _ => rfl
  | a :: S, b, h => by
    have ha := h a (List.mem_cons_self ..)
    show foldT t S (if a.1 ≤ t then a.2 else b) = b
    rw [if_neg (by omega)]
    exact foldT_none t S b fun x hx => h x (List.mem_cons_of_mem _ hx)
theorem foldT_some (t : Int) : ∀ (S : List (Int × Bool)) (b : Bool), S.Pairwise (fun x y => ltOf cfT y x = false) → (∃ x ∈ S, x.1 ≤ t) →
    ∃ x ∈ S, x.1 ≤ t ∧ foldT t S b = x.2 ∧ ∀ y ∈ S, y.1 ≤ t → ltOf cfT x y = false
  | [], b, _, ⟨x, hx, _⟩ => by cases hx
  | a :: S, b, hS, ⟨x, hx, hxt⟩ => by
    have hp := List.pairwise_cons.1 hS
    show ∃ x ∈ a :: S, x.1 ≤ t ∧ foldT t S (if a.1 ≤ t then a.2 else b) = x.2 ∧ _
    by_cases he : ∃ x ∈ S, x.1 ≤ t
    · obtain ⟨z, hz, hzt, hf, hm⟩ := foldT_some t S (if a.1 ≤ t then a.2 else b) hp.2 he
      refine ⟨z, List.mem_cons_of_mem _ hz, hzt, hf, fun y hy hyt => ?_⟩
      rcases List.mem_cons.1 hy with rfl | hy
      · exact hp.1 z hz
      · exact hm y hy hyt
    · have hn : ∀ x ∈ S, t < x.1 := fun x hx => by
        rcases Int.lt_or_le t x.1 with g | g
        · exact g
        · exact absurd ⟨x, hx, g⟩ he
      have hxa : x = a := by
        rcases List.mem_cons.1 hx with h | h
        · exact h
        · have := hn x h; omega
      subst hxa
      refine ⟨x, List.mem_cons_self .., hxt, ?_, fun y hy hyt => ?_⟩
      · rw [if_pos hxt]; exact foldT_none t S x.2 hn
      · rcases List.mem_cons.1 hy with rfl | hy
        · exact swoT.irrefl y
        · have := hn y hy; omega

/-- Some turn is not behind t: the last of them tells; of two at a time the start. -/
theorem dst_some (t : Int) (l : List (Int × Bool)) (h : ∃ x ∈ l, x.1 ≤ t) :
    ∃ x ∈ l, x.1 ≤ t ∧ dstT t (sortT l) = x.2 ∧ ∀ y ∈ l, y.1 ≤ t → y.1 < x.1 ∨ x.1 = y.1 ∧ ¬ (x.2 = false ∧ y.2 = true) := by
  have hp := sortT_perm l
  obtain ⟨z, hz, hzt⟩ := h
  obtain ⟨x, hx, hxt, hf, hm⟩ := foldT_some t (sortT l) (!((sortT l).any fun x => x.2 && x.1 == firstT (sortT l))) (sortT_sorted l) ⟨z, hp.mem_iff.2 hz, hzt⟩
  exact ⟨x, hp.mem_iff.1 hx, hxt, hf, fun y hy hyt => (ltT_false x y).1 (hm y (hp.mem_iff.2 hy) hyt)⟩
/-- All turns are behind t: what the first one ends. -/
theorem dst_none (t : Int) (l : List (Int × Bool)) (hl : l ≠ []) (h : ∀ x ∈ l, t < x.1) :
    ∃ m, (∃ z ∈ l, z.1 = m) ∧ (∀ y ∈ l, m ≤ y.1) ∧ dstT t (sortT l) = !(l.any fun x => x.2 && x.1 == m) := by
  have hp := sortT_perm l
  have hs := sortT_sorted l
  unfold dstT
  rw [foldT_none t (sortT l) _ (fun x hx => h x (hp.mem_iff.1 hx)), hp.any_eq]
  match hS : sortT l with
  | [] => rw [hS] at hp; exact absurd hp.nil_eq.symm hl
  | a :: S =>
    rw [hS] at hs hp
    have hpc := List.pairwise_cons.1 hs
    refine ⟨a.1, ⟨a, hp.mem_iff.1 (List.mem_cons_self ..), rfl⟩, fun y hy => ?_, rfl⟩
    rcases List.mem_cons.1 (hp.mem_iff.2 hy) with rfl | hy
    · exact Int.le_refl _
    · have := (ltT_false y a).1 (hpc.1 y hy)
      omega
end Go.Proofs.YtgbehcahdgamoaaDoor.Fn

namespace Go.Proofs.YtgbehcahdgamoaaDoor.Fn
open Go.RowKit Go.Proofs.YtgbehcahdgamoaaDoorW.PrintWords Go.Proofs.YtgbehcahdgamoaaDoorW.PrintLast Go.Proofs.YtgbehcahdgamoaaDoorW.PrintMore

/-- The turns of a year. -/
def turnsN (s0 : Int) (s1 : Bool) (s2 : ByteArray) (d0 : Int) (d1 : Bool) (d2 : ByteArray) (bo : Bool) (a0 : Int) (a1 : Int) (a2 : Int) (a3 : Int) (a4 : Int) (e0 : Int) (e1 : Int) (e2 : Int) (e3 : Int) (e4 : Int) (y : Int) : Int × Int × Int := if turnsB s0 s1 s2 d0 d1 d2 bo a0 a1 a2 a3 a4 e0 e1 e2 e3 e4 y = true then (startN y s0 a0 a1 a2 a3 a4, startN y d0 e0 e1 e2 e3 e4, 0) else (0, 0, 1)
/-- The turns around a year. -/
def yearRows (s0 : Int) (s1 : Bool) (s2 : ByteArray) (d0 : Int) (d1 : Bool) (d2 : ByteArray) (bo : Bool) (a0 : Int) (a1 : Int) (a2 : Int) (a3 : Int) (a4 : Int) (e0 : Int) (e1 : Int) (e2 : Int) (e3 : Int) (e4 : Int) (y : Int) : List (Int × Bool) := rowT (turnsN s0 s1 s2 d0 d1 d2 bo a0 a1 a2 a3 a4 e0 e1 e2 e3 e4 (y - 1)) ++ rowT (turnsN s0 s1 s2 d0 d1 d2 bo a0 a1 a2 a3 a4 e0 e1 e2 e3 e4 y) ++ rowT (turnsN s0 s1 s2 d0 d1 d2 bo a0 a1 a2 a3 a4 e0 e1 e2 e3 e4 (y + 1))
theorem rowT_turns (s0 : Int) (s1 : Bool) (s2 : ByteArray) (d0 : Int) (d1 : Bool) (d2 : ByteArray) (bo : Bool) (a0 : Int) (a1 : Int) (a2 : Int) (a3 : Int) (a4 : Int) (e0 : Int) (e1 : Int) (e2 : Int) (e3 : Int) (e4 : Int) (y : Int) : rowT (turnsN s0 s1 s2 d0 d1 d2 bo a0 a1 a2 a3 a4 e0 e1 e2 e3 e4 y) = if turnsB s0 s1 s2 d0 d1 d2 bo a0 a1 a2 a3 a4 e0 e1 e2 e3 e4 y = true then [(startN y d0 e0 e1 e2 e3 e4, false), (startN y s0 a0 a1 a2 a3 a4, true)] else [] := by
  unfold rowT turnsN
  split <;> simp

theorem at_eq (k : Nat) (s0 : Int) (s1 : Bool) (s2 : ByteArray) (d0 : Int) (d1 : Bool) (d2 : ByteArray) (bo : Bool) (a0 : Int) (a1 : Int) (a2 : Int) (a3 : Int) (a4 : Int) (e0 : Int) (e1 : Int) (e2 : Int) (e3 : Int) (e4 : Int) (t : Int) (ht : IsI64 t) : rule_At.f (k + 4) s0 s1 s2 d0 d1 d2 bo a0 a1 a2 a3 a4 e0 e1 e2 e3 e4 t = some (
    if rightB s0 s1 s2 d0 d1 d2 bo a0 a1 a2 a3 a4 e0 e1 e2 e3 e4 true = false then (0, false, ⟨#[]⟩, 1) else if bo = false then (s0, s1, s2, 0) else if mayB (dY (t / 86400)) = true then
      (if dstT t (sortT (yearRows s0 s1 s2 d0 d1 d2 bo a0 a1 a2 a3 a4 e0 e1 e2 e3 e4 (dY (t / 86400)))) = true then (d0, d1, d2, 0) else (s0, s1, s2, 0)) else (0, false, ⟨#[]⟩, 2)) := by
  unfold rule_At.f
  unfold IsI64 at ht
  rw [rightR_eq (k + 1), div_eq t 86400 (by omega) (by omega) ⟨by omega, by omega⟩]
  simp only [Option.bind_some]
  have hle : t / 86400 ≤ 9223372036854056339 := by omega
  rw [date_eq (t / 86400) ⟨by omega, by omega⟩]
  simp only [hle, true_and, Option.bind_some]
  cases hr : rightB s0 s1 s2 d0 d1 d2 bo a0 a1 a2 a3 a4 e0 e1 e2 e3 e4 true
  · rfl
  · cases bo
    · rfl
    · simp only [Bool.true_eq_false, if_false]
      cases hm : mayB (dY (t / 86400))
      · rfl
      · simp only [if_true]
        have hm2 := hm
        unfold mayB at hm2
        simp only [Bool.and_eq_true, decide_eq_true_eq] at hm2
        rw [if_pos ⟨by omega, by omega⟩]
        rw [turns_eq k, turns_eq k, turns_eq k]
        simp only [Option.bind_some]
        have ht1 : turnsB s0 s1 s2 d0 d1 d2 true a0 a1 a2 a3 a4 e0 e1 e2 e3 e4 (dY (t / 86400)) = true := by unfold turnsB; rw [hr, hm]; rfl
        have hpos : 0 < (yearRows s0 s1 s2 d0 d1 d2 true a0 a1 a2 a3 a4 e0 e1 e2 e3 e4 (dY (t / 86400))).length := by
          unfold yearRows
          rw [rowT_turns (y := dY (t / 86400)), if_pos ht1]
          simp
          omega
        show (if 0 < (yearRows s0 s1 s2 d0 d1 d2 true a0 a1 a2 a3 a4 e0 e1 e2 e3 e4 (dY (t / 86400))).length then _ else _) = _
        rw [if_pos hpos]
        show (if dstT t (sortT (yearRows s0 s1 s2 d0 d1 d2 true a0 a1 a2 a3 a4 e0 e1 e2 e3 e4 (dY (t / 86400)))) = true then _ else _) = _
        split <;> rfl
end Go.Proofs.YtgbehcahdgamoaaDoor.Fn

namespace Go.Proofs.YtgbehcahdgamoaaDoor.Fn
open Go.RowKit Go.Proofs.YtgbehcahdgamoaaDoorW.PrintWords Go.Proofs.YtgbehcahdgamoaaDoorW.PrintLast Go.Proofs.YtgbehcahdgamoaaDoorW.PrintMore Go.Lib Go.Sort

/-- The outer loop of the sort, by so many rounds: it can be run. -/
def insO {α : Type} [Inhabited α] (lt : α → α → Bool) (a b : Nat) : Nat → Nat → Array α → Array α
  | 0, _, d => d
  | n + 1, i, d => if i < b then insO lt a b n (i + 1) (insInner lt a i d) else d
theorem insO_eq {α : Type} [Inhabited α] (lt : α → α → Bool) (a b : Nat) : ∀ (n i : Nat) (d : Array α), b - i ≤ n → insOuter lt a b i d = insO lt a b n i d
  | 0, i, d, h => by unfold insOuter insO; rw [if_neg (by omega)]
  | n + 1, i, d, h => by
    unfold insOuter insO
    split
    · rw [insO_eq lt a b n (i + 1) _ (by omega)]
    · rfl
theorem sortT_run (l : List (Int × Bool)) : sortT l = (insO (ltOf cfT) 0 l.length l.length 1 l.toArray).toList := by
  unfold sortT Sort.insertionSort
  rw [insO_eq (ltOf cfT) 0 l.length l.length (0 + 1) _ (by omega)]

def estS : ByteArray := ⟨#[69, 83, 84]⟩
def edtS : ByteArray := ⟨#[69, 68, 84]⟩
theorem shown_right : posix_Right.f 8 (-18000) false estS (-14400) true edtS true 3 3 2 0 7200 3 11 1 0 7200 true = some true := by decide +kernel
theorem shown_turns (y a b : Int) (h : y = 2006 ∧ a = 1142146800 ∧ b = 1162706400 ∨ y = 2007 ∧ a = 1173596400 ∧ b = 1194156000 ∨ y = 2008 ∧ a = 1205046000 ∧ b = 1225605600) :
    rule_Turns.f 8 (-18000) false estS (-14400) true edtS true 3 3 2 0 7200 3 11 1 0 7200 y = some (a, b, 0) := by
  rcases h with ⟨rfl, rfl, rfl⟩ | ⟨rfl, rfl, rfl⟩ | ⟨rfl, rfl, rfl⟩ <;> decide +kernel
theorem shown_day : rule_Day.f 8 2000 1 60 0 0 0 = some (11017, 0) := by decide +kernel
theorem shown_none : rule_At.f 8 0 false ⟨#[]⟩ 0 false ⟨#[]⟩ false 0 0 0 0 0 0 0 0 0 0 0 = some (0, false, ⟨#[]⟩, 1) := by decide +kernel

/-- What a rule tells at a moment, out of its three years. -/
theorem shown_at (t : Int) (dst : Bool) (h : t = 1173596400 ∧ dst = true ∨ t = 1173596399 ∧ dst = false) :
    rule_At.f 8 (-18000) false estS (-14400) true edtS true 3 3 2 0 7200 3 11 1 0 7200 t = some (if dst = true then (-14400, true, edtS, 0) else (-18000, false, estS, 0)) := by
  have h1 := shown_turns 2006 1142146800 1162706400 (by omega)
  have h2 := shown_turns 2007 1173596400 1194156000 (by omega)
  have h3 := shown_turns 2008 1205046000 1225605600 (by omega)
  have hd : ∀ v : Int × Int × Bool, number_Div.f t 86400 = some v → civil_Date.f v.1 = some (2007, 3, 11, 0) := by
    rcases h with ⟨rfl, _⟩ | ⟨rfl, _⟩
    · intro v hv
      obtain rfl := Option.some.inj ((show number_Div.f 1173596400 86400 = some (13583, 25200, true) by decide +kernel).symm.trans hv)
      decide +kernel
    · intro v hv
      obtain rfl := Option.some.inj ((show number_Div.f 1173596399 86400 = some (13583, 25199, true) by decide +kernel).symm.trans hv)
      decide +kernel
  obtain ⟨v, hv⟩ : ∃ v, number_Div.f t 86400 = some v := by
    rcases h with ⟨rfl, _⟩ | ⟨rfl, _⟩
    · exact ⟨(13583, 25200, true), by decide +kernel⟩
    · exact ⟨(13583, 25199, true), by decide +kernel⟩
  unfold rule_At.f
  rw [shown_right]
  simp only [Option.bind_some, Bool.true_eq_false, if_false]
  rw [hv]
  simp only [Option.bind_some]
  rw [hd v hv]
  simp only [Option.bind_some, if_true]
  rw [if_pos (by decide), show (2007 : Int) - 1 = 2006 from rfl, show (2007 : Int) + 1 = 2008 from rfl, h1, h2, h3]
  simp only [Option.bind_some]
  rw [if_pos (by decide), sortT_run]
  rcases h with ⟨rfl, rfl⟩ | ⟨rfl, rfl⟩ <;> decide +kernel
end Go.Proofs.YtgbehcahdgamoaaDoor.Fn

namespace Go.Proofs.YtgbehcahdgamoaaDoor.Fn
open Go.RowKit Go.Proofs.YtgbehcahdgamoaaDoorW.PrintWords Go.Proofs.YtgbehcahdgamoaaDoorW.PrintLast Go.Proofs.YtgbehcahdgamoaaDoorW.PrintMore Go.Lib Go.Sort

abbrev shownC : Array Value := #[.int .i64 (-18000), .bool false, .string ⟨#[69, 83, 84]⟩, .int .i64 (-14400), .bool true, .string ⟨#[69, 68, 84]⟩, .bool true, .int .i64 3, .int .i64 3, .int .i64 2, .int .i64 0, .int .i64 7200, .int .i64 3, .int .i64 11, .int .i64 1, .int .i64 0, .int .i64 7200]

set_option maxRecDepth 100000 in
set_option maxHeartbeats 2000000 in
theorem longcaselaw09_shown_calls (w : World) (hG : GL w) :
    Calls Tryd.prog 11 #[] w fun e w' => e = .returned (.bool true) ∧ Below w.heap.size w w' := by
  have HG := Aside0.mk hG
  clear hG
  have HT := Aside0.mk (fun W hG => rule_Turns.calls 8 (-18000) false estS (-14400) true edtS true 3 3 2 0 7200 3 11 1 0 7200 2007 1173596400 1194156000 0 W hG (shown_turns 2007 1173596400 1194156000 (by omega)))
  have HA := Aside0.mk (fun W hG => rule_At.calls 8 (-18000) false estS (-14400) true edtS true 3 3 2 0 7200 3 11 1 0 7200 1173596400 (-14400) true edtS 0 W hG (shown_at 1173596400 true (.inl ⟨rfl, rfl⟩)))
  have HB := Aside0.mk (fun W hG => rule_At.calls 8 (-18000) false estS (-14400) true edtS true 3 3 2 0 7200 3 11 1 0 7200 1173596399 (-18000) false estS 0 W hG (shown_at 1173596399 false (.inr ⟨rfl, rfl⟩)))
  have HN := Aside0.mk (fun W hG => rule_At.calls 8 0 false ⟨#[]⟩ 0 false ⟨#[]⟩ false 0 0 0 0 0 0 0 0 0 0 0 0 false ⟨#[]⟩ 1 W hG shown_none)
  have HD := Aside0.mk (fun W hG => rule_Day.calls 8 2000 1 60 0 0 0 11017 0 W hG shown_day)
  go_enter Tryd.func11, Tryd.ntmps11
  go_wp2_with ((with_reducible refine gate_dst (N := 19) rfl ?_); refine wpList_load_row rfl 27 _ rfl w.heap.size rfl 27 shownC (0, 0) _ (blk_new _ _) Tryd.underlying27 rfl (by kernel_rfl) ?_)
  refine (HT.out _ (HG.out.below (below_alloc (Below.refl _ _) _))).mono ?_
  rintro e w1 ⟨rfl, hb1⟩
  have BR1 := Aside0.mk (blk_below (blk_new _ _) hb1)
  have HB1 := Aside0.mk ((below_alloc (Below.refl _ _) _).trans (hb1.mono (by simp)))
  clear hb1 HT
  go_wp2_with ((with_reducible refine gate_dst (N := 25) rfl ?_); refine wpList_load_row rfl 27 _ rfl w.heap.size rfl 27 shownC (0, 0) _ BR1.out Tryd.underlying27 rfl (by kernel_rfl) ?_)
  refine (HA.out _ (HG.out.below HB1.out)).mono ?_
  rintro e w2 ⟨rfl, hb2⟩
  have BR2 := Aside0.mk (blk_below BR1.out hb2)
  have HB2 := Aside0.mk (HB1.out.trans (hb2.mono HB1.out.size))
  clear hb2 HA BR1 HB1
  go_wp2_with ((with_reducible refine gate_dst (N := 30) rfl ?_); refine wpList_load_row rfl 27 _ rfl w.heap.size rfl 27 shownC (0, 0) _ (blk_alloc BR2.out _) Tryd.underlying27 rfl (by kernel_rfl) ?_)
  refine (HB.out _ (HG.out.below (below_alloc HB2.out _))).mono ?_
  rintro e w3 ⟨rfl, hb3⟩
  have BK3 := Aside0.mk (blk_below (blk_new _ _) hb3)
  have HB3 := Aside0.mk ((below_alloc HB2.out _).trans (hb3.mono (by have := HB2.out.size; simp; omega)))
  clear hb3 HB BR2 HB2
  go_wp2_with fail
  refine (HN.out _ (HG.out.below (below_alloc HB3.out _))).mono ?_
  rintro e w4 ⟨rfl, hb4⟩
  have BK4 := Aside0.mk (blk_below (blk_alloc BK3.out _) hb4)
  have BL4 := Aside0.mk (blk_below (blk_new _ _) hb4)
  have HB4 := Aside0.mk ((below_alloc HB3.out _).trans (hb4.mono (by have := HB3.out.size; simp; omega)))
  clear hb4 HN BK3 HB3
  go_wp2_with fail
  refine (HD.out _ (HG.out.below (below_alloc HB4.out _))).mono ?_
  rintro e w5 ⟨rfl, hb5⟩
  have hk := blk_cell (blk_below (blk_alloc BK4.out _) hb5) 2
  have hl := blk_cell (blk_below (blk_alloc BL4.out _) hb5) 2
  have HB5 := Aside0.mk ((below_alloc HB4.out _).trans (hb5.mono (by have := HB4.out.size; simp; omega)))
  clear hb5 HD BK4 BL4 HB4
  simp only [List.getElem?_toArray, List.getElem?_cons_succ, List.getElem?_cons_zero] at hk hl
  have e1 : edtS.toList = [69, 68, 84] := by decide +kernel
  have e2 : estS.toList = [69, 83, 84] := by decide +kernel
  go_wp2
  go_ret
  exact ⟨rfl, HB5.out⟩
/-- The small case, for the printed texts. -/
def longcaselaw09_shown.f : Option Bool := some true
theorem longcaselaw09_shown.calls (r : Bool) (w : World) (hG : GL w) (h : longcaselaw09_shown.f = some r) :
    Calls Tryd.prog 11 #[] w fun e w' => e = .returned (.bool r) ∧ Below w.heap.size w w' := by
  obtain rfl := Option.some.inj h
  exact longcaselaw09_shown_calls w hG
end Go.Proofs.YtgbehcahdgamoaaDoor.Fn

namespace Go.Proofs.YtgbehcahdgamoaaDoor.Fn
open Go.RowKit Go.Proofs.YtgbehcahdgamoaaDoorW.PrintWords Go.Proofs.YtgbehcahdgamoaaDoorW.PrintLast Go.Proofs.YtgbehcahdgamoaaDoorW.PrintMore

/-- A row that is stored whole into a block that was just laid: the world behind it has a name. -/
theorem fresh_store {w w1 : World} {B : Nat} (z cells : Array Value) (t : TypeId) (hb : Below B w w1) (hB : B ≤ w1.heap.size) :
    ∃ W2 : World, (w1.alloc (.cells z t)).setRow w1.heap.size cells = W2 ∧ W2.heap[w1.heap.size]? = some (.cells cells t (0, 0)) ∧ (∀ (g : Nat) (o : Obj), w1.heap[g]? = some o → W2.heap[g]? = some o) ∧ Below B w W2 :=
  ⟨_, rfl, setRow_heap _ _ _ cells _ _ (blk_new w1 (.cells z t)), fun _ _ h => (setRow_other _ _ _ cells (Nat.ne_of_lt (blk_lt h))).trans (blk_alloc h _), below_setRow (hb.alloc hB _) hB cells⟩

set_option maxRecDepth 100000 in
set_option maxHeartbeats 2000000 in
theorem shift_ok (k : Nat) (s0 : Int) (s1 : Bool) (s2 : ByteArray) (d0 : Int) (d1 : Bool) (d2 : ByteArray) (bo : Bool) (a0 : Int) (a1 : Int) (a2 : Int) (a3 : Int) (a4 : Int) (e0 : Int) (e1 : Int) (e2 : Int) (e3 : Int) (e4 : Int) (by_ y p1 p2 q1 q2 : Int) (w : World) (hG : GL w) (h1 : rule_Turns.f k s0 s1 s2 d0 d1 d2 bo a0 a1 a2 a3 a4 e0 e1 e2 e3 e4 y = some (p1, p2, 0)) (h2 : rule_Turns.f k (wrap64 (s0 + Int.tmod by_ 1001)) s1 s2 (wrap64 (d0 + Int.tmod by_ 1001)) d1 d2 bo a0 a1 a2 a3 a4 e0 e1 e2 e3 e4 y = some (q1, q2, 0)) (g1_ : wrap64 (p1 - q1) = Int.tmod by_ 1001) (g2_ : wrap64 (p2 - q2) = Int.tmod by_ 1001) :
    Calls Tryd.prog 9 #[.agg #[.int .i64 s0, .bool s1, .string s2, .int .i64 d0, .bool d1, .string d2, .bool bo, .int .i64 a0, .int .i64 a1, .int .i64 a2, .int .i64 a3, .int .i64 a4, .int .i64 e0, .int .i64 e1, .int .i64 e2, .int .i64 e3, .int .i64 e4], .int .i64 by_, .int .i64 y] w fun e w' => e = .returned (.bool true) ∧ Below w.heap.size w w' := by
  have HG := Aside0.mk hG
  have HS := Aside0.mk (fun W hG => longcaselaw09_shown_calls W hG)
  have HA := Aside0.mk (fun W hG => rule_Turns.calls k s0 s1 s2 d0 d1 d2 bo a0 a1 a2 a3 a4 e0 e1 e2 e3 e4 y p1 p2 0 W hG h1)
  have HC := Aside0.mk (fun W hG => rule_Turns.calls k (wrap64 (s0 + Int.tmod by_ 1001)) s1 s2 (wrap64 (d0 + Int.tmod by_ 1001)) d1 d2 bo a0 a1 a2 a3 a4 e0 e1 e2 e3 e4 y q1 q2 0 W hG h2)
  clear hG h1 h2
  have f1 : (wrap64 (p1 - q1) == Int.tmod by_ 1001) = true := by simpa using g1_
  have f2 : (wrap64 (p2 - q2) == Int.tmod by_ 1001) = true := by simpa using g2_
  clear g1_ g2_
  go_enter Tryd.func9, Tryd.ntmps9
  go_wp2_with fail
  refine (HS.out _ (HG.out.below (below_alloc (Below.refl _ _) _))).mono ?_
  rintro e w1 ⟨rfl, hb1⟩
  have BR1 := Aside0.mk (blk_below (blk_new _ _) hb1)
  have HB1 := Aside0.mk ((below_alloc (Below.refl _ _) _).trans (hb1.mono (by simp)))
  clear hb1 HS
  go_wp2_with (first | ((with_reducible refine gate_dst (N := 18) rfl ?_); refine wpList_load_row rfl 27 _ rfl (w.heap.size) rfl 27 #[.int .i64 s0, .bool s1, .string s2, .int .i64 d0, .bool d1, .string d2, .bool bo, .int .i64 a0, .int .i64 a1, .int .i64 a2, .int .i64 a3, .int .i64 a4, .int .i64 e0, .int .i64 e1, .int .i64 e2, .int .i64 e3, .int .i64 e4] (0, 0) _ BR1.out Tryd.underlying27 rfl (by kernel_rfl) ?_) | ((with_reducible refine gate_store (t := 27) (p := 8) rfl ?_); refine wpList_store_row rfl 27 (.tmp 8) (.tmp 18) rfl w1.heap.size #[.int .i64 s0, .bool s1, .string s2, .int .i64 d0, .bool d1, .string d2, .bool bo, .int .i64 a0, .int .i64 a1, .int .i64 a2, .int .i64 a3, .int .i64 a4, .int .i64 e0, .int .i64 e1, .int .i64 e2, .int .i64 e3, .int .i64 e4] rfl rfl 27 _ (blk_new _ _) (by kernel_rfl) rfl (by simp [Value.oneCell']) ?_; obtain ⟨W2, eW, hs1, hs2, hs3⟩ := fresh_store #[.int .i64 0, .bool false, .string ⟨#[]⟩, .int .i64 0, .bool false, .string ⟨#[]⟩, .bool false, .int .i64 0, .int .i64 0, .int .i64 0, .int .i64 0, .int .i64 0, .int .i64 0, .int .i64 0, .int .i64 0, .int .i64 0, .int .i64 0] #[.int .i64 s0, .bool s1, .string s2, .int .i64 d0, .bool d1, .string d2, .bool bo, .int .i64 a0, .int .i64 a1, .int .i64 a2, .int .i64 a3, .int .i64 a4, .int .i64 e0, .int .i64 e1, .int .i64 e2, .int .i64 e3, .int .i64 e4] 27 HB1.out HB1.out.size; rw [eW]; clear eW; have HS1 := Aside0.mk hs1; have HR2 := Aside0.mk (hs2 _ _ BR1.out); have HB2 := Aside0.mk hs3; have hc0 := blk_cell HS1.out 0; have hc3 := blk_cell HS1.out 3; have hf0 := blk_frozen HS1.out 0; have hf3 := blk_frozen HS1.out 3; have hr0 : W2.cell? ⟨w.heap.size, 0, none⟩ = some (.int .i64 s0) := (blk_cell HR2.out 0).trans rfl; have hr3 : W2.cell? ⟨w.heap.size, 3, none⟩ = some (.int .i64 d0) := (blk_cell HR2.out 3).trans rfl; have hne : w.heap.size ≠ w1.heap.size := Nat.ne_of_lt (blk_lt BR1.out); have hne2 : w1.heap.size ≠ w.heap.size := hne.symm; have HNE := Aside0.mk hne; clear hs1 hs2 hs3) | ((with_reducible refine gate_dst (N := 34) rfl ?_); refine wpList_load_row rfl 27 _ rfl (w.heap.size) rfl 27 #[.int .i64 s0, .bool s1, .string s2, .int .i64 d0, .bool d1, .string d2, .bool bo, .int .i64 a0, .int .i64 a1, .int .i64 a2, .int .i64 a3, .int .i64 a4, .int .i64 e0, .int .i64 e1, .int .i64 e2, .int .i64 e3, .int .i64 e4] (0, 0) _ (blk_far (blk_far HR2.out HNE.out _) HNE.out _) Tryd.underlying27 rfl (by kernel_rfl) ?_))
  have HBS := Aside0.mk ((HB2.out.setCell (p := ⟨w1.heap.size, 0, none⟩) HB1.out.size (.int .i64 (wrap64 (s0 + Int.tmod by_ 1001)))).setCell (p := ⟨w1.heap.size, 3, none⟩) HB1.out.size (.int .i64 (wrap64 (d0 + Int.tmod by_ 1001))))
  have HS2 := Aside0.mk (blk_put (cs' := #[.int .i64 (wrap64 (s0 + Int.tmod by_ 1001)), .bool s1, .string s2, .int .i64 (wrap64 (d0 + Int.tmod by_ 1001)), .bool d1, .string d2, .bool bo, .int .i64 a0, .int .i64 a1, .int .i64 a2, .int .i64 a3, .int .i64 a4, .int .i64 e0, .int .i64 e1, .int .i64 e2, .int .i64 e3, .int .i64 e4]) (blk_put (cs' := #[.int .i64 (wrap64 (s0 + Int.tmod by_ 1001)), .bool s1, .string s2, .int .i64 d0, .bool d1, .string d2, .bool bo, .int .i64 a0, .int .i64 a1, .int .i64 a2, .int .i64 a3, .int .i64 a4, .int .i64 e0, .int .i64 e1, .int .i64 e2, .int .i64 e3, .int .i64 e4]) HS1.out 0 (.int .i64 (wrap64 (s0 + Int.tmod by_ 1001))) rfl) 3 (.int .i64 (wrap64 (d0 + Int.tmod by_ 1001))) rfl)
  refine (HA.out _ (HG.out.below HBS.out)).mono ?_
  rintro e w2 ⟨rfl, hb2⟩
  have BS2 := Aside0.mk (blk_below HS2.out hb2)
  have HB3 := Aside0.mk (HBS.out.trans (hb2.mono HBS.out.size))
  clear hb2 HA hr0 hr3 hc0 hc3 hf0 hf3 hne hne2 HS1 HR2 HB2 HBS HS2
  go_wp2_with ((with_reducible refine gate_dst (N := 41) rfl ?_); refine wpList_load_row rfl 27 _ rfl (w1.heap.size) rfl 27 #[.int .i64 (wrap64 (s0 + Int.tmod by_ 1001)), .bool s1, .string s2, .int .i64 (wrap64 (d0 + Int.tmod by_ 1001)), .bool d1, .string d2, .bool bo, .int .i64 a0, .int .i64 a1, .int .i64 a2, .int .i64 a3, .int .i64 a4, .int .i64 e0, .int .i64 e1, .int .i64 e2, .int .i64 e3, .int .i64 e4] (0, 0) _ BS2.out Tryd.underlying27 rfl (by kernel_rfl) ?_)
  refine (HC.out _ (HG.out.below HB3.out)).mono ?_
  rintro e w3 ⟨rfl, hb3⟩
  have HB4 := Aside0.mk (HB3.out.trans (hb3.mono HB3.out.size))
  clear hb3 HC
  go_wp2
  go_ret
  exact ⟨rfl, HB4.out⟩

set_option maxRecDepth 100000 in
set_option maxHeartbeats 2000000 in
theorem shift_fst (k : Nat) (s0 : Int) (s1 : Bool) (s2 : ByteArray) (d0 : Int) (d1 : Bool) (d2 : ByteArray) (bo : Bool) (a0 : Int) (a1 : Int) (a2 : Int) (a3 : Int) (a4 : Int) (e0 : Int) (e1 : Int) (e2 : Int) (e3 : Int) (e4 : Int) (by_ y p1 p2 : Int) (w : World) (hG : GL w) (h1 : rule_Turns.f k s0 s1 s2 d0 d1 d2 bo a0 a1 a2 a3 a4 e0 e1 e2 e3 e4 y = some (p1, p2, 0)) (h2 : rule_Turns.f k (wrap64 (s0 + Int.tmod by_ 1001)) s1 s2 (wrap64 (d0 + Int.tmod by_ 1001)) d1 d2 bo a0 a1 a2 a3 a4 e0 e1 e2 e3 e4 y = some (0, 0, 1)) :
    Calls Tryd.prog 9 #[.agg #[.int .i64 s0, .bool s1, .string s2, .int .i64 d0, .bool d1, .string d2, .bool bo, .int .i64 a0, .int .i64 a1, .int .i64 a2, .int .i64 a3, .int .i64 a4, .int .i64 e0, .int .i64 e1, .int .i64 e2, .int .i64 e3, .int .i64 e4], .int .i64 by_, .int .i64 y] w fun e w' => e = .returned (.bool true) ∧ Below w.heap.size w w' := by
  have HG := Aside0.mk hG
  have HS := Aside0.mk (fun W hG => longcaselaw09_shown_calls W hG)
  have HA := Aside0.mk (fun W hG => rule_Turns.calls k s0 s1 s2 d0 d1 d2 bo a0 a1 a2 a3 a4 e0 e1 e2 e3 e4 y p1 p2 0 W hG h1)
  have HC := Aside0.mk (fun W hG => rule_Turns.calls k (wrap64 (s0 + Int.tmod by_ 1001)) s1 s2 (wrap64 (d0 + Int.tmod by_ 1001)) d1 d2 bo a0 a1 a2 a3 a4 e0 e1 e2 e3 e4 y 0 0 1 W hG h2)
  clear hG h1 h2
  go_enter Tryd.func9, Tryd.ntmps9
  go_wp2_with fail
  refine (HS.out _ (HG.out.below (below_alloc (Below.refl _ _) _))).mono ?_
  rintro e w1 ⟨rfl, hb1⟩
  have BR1 := Aside0.mk (blk_below (blk_new _ _) hb1)
  have HB1 := Aside0.mk ((below_alloc (Below.refl _ _) _).trans (hb1.mono (by simp)))
  clear hb1 HS
  go_wp2_with (first | ((with_reducible refine gate_dst (N := 18) rfl ?_); refine wpList_load_row rfl 27 _ rfl (w.heap.size) rfl 27 #[.int .i64 s0, .bool s1, .string s2, .int .i64 d0, .bool d1, .string d2, .bool bo, .int .i64 a0, .int .i64 a1, .int .i64 a2, .int .i64 a3, .int .i64 a4, .int .i64 e0, .int .i64 e1, .int .i64 e2, .int .i64 e3, .int .i64 e4] (0, 0) _ BR1.out Tryd.underlying27 rfl (by kernel_rfl) ?_) | ((with_reducible refine gate_store (t := 27) (p := 8) rfl ?_); refine wpList_store_row rfl 27 (.tmp 8) (.tmp 18) rfl w1.heap.size #[.int .i64 s0, .bool s1, .string s2, .int .i64 d0, .bool d1, .string d2, .bool bo, .int .i64 a0, .int .i64 a1, .int .i64 a2, .int .i64 a3, .int .i64 a4, .int .i64 e0, .int .i64 e1, .int .i64 e2, .int .i64 e3, .int .i64 e4] rfl rfl 27 _ (blk_new _ _) (by kernel_rfl) rfl (by simp [Value.oneCell']) ?_; obtain ⟨W2, eW, hs1, hs2, hs3⟩ := fresh_store #[.int .i64 0, .bool false, .string ⟨#[]⟩, .int .i64 0, .bool false, .string ⟨#[]⟩, .bool false, .int .i64 0, .int .i64 0, .int .i64 0, .int .i64 0, .int .i64 0, .int .i64 0, .int .i64 0, .int .i64 0, .int .i64 0, .int .i64 0] #[.int .i64 s0, .bool s1, .string s2, .int .i64 d0, .bool d1, .string d2, .bool bo, .int .i64 a0, .int .i64 a1, .int .i64 a2, .int .i64 a3, .int .i64 a4, .int .i64 e0, .int .i64 e1, .int .i64 e2, .int .i64 e3, .int .i64 e4] 27 HB1.out HB1.out.size; rw [eW]; clear eW; have HS1 := Aside0.mk hs1; have HR2 := Aside0.mk (hs2 _ _ BR1.out); have HB2 := Aside0.mk hs3; have hc0 := blk_cell HS1.out 0; have hc3 := blk_cell HS1.out 3; have hf0 := blk_frozen HS1.out 0; have hf3 := blk_frozen HS1.out 3; have hr0 : W2.cell? ⟨w.heap.size, 0, none⟩ = some (.int .i64 s0) := (blk_cell HR2.out 0).trans rfl; have hr3 : W2.cell? ⟨w.heap.size, 3, none⟩ = some (.int .i64 d0) := (blk_cell HR2.out 3).trans rfl; have hne : w.heap.size ≠ w1.heap.size := Nat.ne_of_lt (blk_lt BR1.out); have hne2 : w1.heap.size ≠ w.heap.size := hne.symm; have HNE := Aside0.mk hne; clear hs1 hs2 hs3) | ((with_reducible refine gate_dst (N := 34) rfl ?_); refine wpList_load_row rfl 27 _ rfl (w.heap.size) rfl 27 #[.int .i64 s0, .bool s1, .string s2, .int .i64 d0, .bool d1, .string d2, .bool bo, .int .i64 a0, .int .i64 a1, .int .i64 a2, .int .i64 a3, .int .i64 a4, .int .i64 e0, .int .i64 e1, .int .i64 e2, .int .i64 e3, .int .i64 e4] (0, 0) _ (blk_far (blk_far HR2.out HNE.out _) HNE.out _) Tryd.underlying27 rfl (by kernel_rfl) ?_))
  have HBS := Aside0.mk ((HB2.out.setCell (p := ⟨w1.heap.size, 0, none⟩) HB1.out.size (.int .i64 (wrap64 (s0 + Int.tmod by_ 1001)))).setCell (p := ⟨w1.heap.size, 3, none⟩) HB1.out.size (.int .i64 (wrap64 (d0 + Int.tmod by_ 1001))))
  have HS2 := Aside0.mk (blk_put (cs' := #[.int .i64 (wrap64 (s0 + Int.tmod by_ 1001)), .bool s1, .string s2, .int .i64 (wrap64 (d0 + Int.tmod by_ 1001)), .bool d1, .string d2, .bool bo, .int .i64 a0, .int .i64 a1, .int .i64 a2, .int .i64 a3, .int .i64 a4, .int .i64 e0, .int .i64 e1, .int .i64 e2, .int .i64 e3, .int .i64 e4]) (blk_put (cs' := #[.int .i64 (wrap64 (s0 + Int.tmod by_ 1001)), .bool s1, .string s2, .int .i64 d0, .bool d1, .string d2, .bool bo, .int .i64 a0, .int .i64 a1, .int .i64 a2, .int .i64 a3, .int .i64 a4, .int .i64 e0, .int .i64 e1, .int .i64 e2, .int .i64 e3, .int .i64 e4]) HS1.out 0 (.int .i64 (wrap64 (s0 + Int.tmod by_ 1001))) rfl) 3 (.int .i64 (wrap64 (d0 + Int.tmod by_ 1001))) rfl)
  refine (HA.out _ (HG.out.below HBS.out)).mono ?_
  rintro e w2 ⟨rfl, hb2⟩
  have BS2 := Aside0.mk (blk_below HS2.out hb2)
  have HB3 := Aside0.mk (HBS.out.trans (hb2.mono HBS.out.size))
  clear hb2 HA hr0 hr3 hc0 hc3 hf0 hf3 hne hne2 HS1 HR2 HB2 HBS HS2
  go_wp2_with ((with_reducible refine gate_dst (N := 41) rfl ?_); refine wpList_load_row rfl 27 _ rfl (w1.heap.size) rfl 27 #[.int .i64 (wrap64 (s0 + Int.tmod by_ 1001)), .bool s1, .string s2, .int .i64 (wrap64 (d0 + Int.tmod by_ 1001)), .bool d1, .string d2, .bool bo, .int .i64 a0, .int .i64 a1, .int .i64 a2, .int .i64 a3, .int .i64 a4, .int .i64 e0, .int .i64 e1, .int .i64 e2, .int .i64 e3, .int .i64 e4] (0, 0) _ BS2.out Tryd.underlying27 rfl (by kernel_rfl) ?_)
  refine (HC.out _ (HG.out.below HB3.out)).mono ?_
  rintro e w3 ⟨rfl, hb3⟩
  have HB4 := Aside0.mk (HB3.out.trans (hb3.mono HB3.out.size))
  clear hb3 HC
  go_wp2
  go_ret
  exact ⟨rfl, HB4.out⟩

set_option maxRecDepth 100000 in
set_option maxHeartbeats 2000000 in
theorem shift_snd (k : Nat) (s0 : Int) (s1 : Bool) (s2 : ByteArray) (d0 : Int) (d1 : Bool) (d2 : ByteArray) (bo : Bool) (a0 : Int) (a1 : Int) (a2 : Int) (a3 : Int) (a4 : Int) (e0 : Int) (e1 : Int) (e2 : Int) (e3 : Int) (e4 : Int) (by_ y q1 q2 : Int) (w : World) (hG : GL w) (h1 : rule_Turns.f k s0 s1 s2 d0 d1 d2 bo a0 a1 a2 a3 a4 e0 e1 e2 e3 e4 y = some (0, 0, 1)) (h2 : rule_Turns.f k (wrap64 (s0 + Int.tmod by_ 1001)) s1 s2 (wrap64 (d0 + Int.tmod by_ 1001)) d1 d2 bo a0 a1 a2 a3 a4 e0 e1 e2 e3 e4 y = some (q1, q2, 0)) :
    Calls Tryd.prog 9 #[.agg #[.int .i64 s0, .bool s1, .string s2, .int .i64 d0, .bool d1, .string d2, .bool bo, .int .i64 a0, .int .i64 a1, .int .i64 a2, .int .i64 a3, .int .i64 a4, .int .i64 e0, .int .i64 e1, .int .i64 e2, .int .i64 e3, .int .i64 e4], .int .i64 by_, .int .i64 y] w fun e w' => e = .returned (.bool true) ∧ Below w.heap.size w w' := by
  have HG := Aside0.mk hG
  have HS := Aside0.mk (fun W hG => longcaselaw09_shown_calls W hG)
  have HA := Aside0.mk (fun W hG => rule_Turns.calls k s0 s1 s2 d0 d1 d2 bo a0 a1 a2 a3 a4 e0 e1 e2 e3 e4 y 0 0 1 W hG h1)
  have HC := Aside0.mk (fun W hG => rule_Turns.calls k (wrap64 (s0 + Int.tmod by_ 1001)) s1 s2 (wrap64 (d0 + Int.tmod by_ 1001)) d1 d2 bo a0 a1 a2 a3 a4 e0 e1 e2 e3 e4 y q1 q2 0 W hG h2)
  clear hG h1 h2
  go_enter Tryd.func9, Tryd.ntmps9
  go_wp2_with fail
  refine (HS.out _ (HG.out.below (below_alloc (Below.refl _ _) _))).mono ?_
  rintro e w1 ⟨rfl, hb1⟩
  have BR1 := Aside0.mk (blk_below (blk_new _ _) hb1)
  have HB1 := Aside0.mk ((below_alloc (Below.refl _ _) _).trans (hb1.mono (by simp)))
  clear hb1 HS
  go_wp2_with (first | ((with_reducible refine gate_dst (N := 18) rfl ?_); refine wpList_load_row rfl 27 _ rfl (w.heap.size) rfl 27 #[.int .i64 s0, .bool s1, .string s2, .int .i64 d0, .bool d1, .string d2, .bool bo, .int .i64 a0, .int .i64 a1, .int .i64 a2, .int .i64 a3, .int .i64 a4, .int .i64 e0, .int .i64 e1, .int .i64 e2, .int .i64 e3, .int .i64 e4] (0, 0) _ BR1.out Tryd.underlying27 rfl (by kernel_rfl) ?_) | ((with_reducible refine gate_store (t := 27) (p := 8) rfl ?_); refine wpList_store_row rfl 27 (.tmp 8) (.tmp 18) rfl w1.heap.size #[.int .i64 s0, .bool s1, .string s2, .int .i64 d0, .bool d1, .string d2, .bool bo, .int .i64 a0, .int .i64 a1, .int .i64 a2, .int .i64 a3, .int .i64 a4, .int .i64 e0, .int .i64 e1, .int .i64 e2, .int .i64 e3, .int .i64 e4] rfl rfl 27 _ (blk_new _ _) (by kernel_rfl) rfl (by simp [Value.oneCell']) ?_; obtain ⟨W2, eW, hs1, hs2, hs3⟩ := fresh_store #[.int .i64 0, .bool false, .string ⟨#[]⟩, .int .i64 0, .bool false, .string ⟨#[]⟩, .bool false, .int .i64 0, .int .i64 0, .int .i64 0, .int .i64 0, .int .i64 0, .int .i64 0, .int .i64 0, .int .i64 0, .int .i64 0, .int .i64 0] #[.int .i64 s0, .bool s1, .string s2, .int .i64 d0, .bool d1, .string d2, .bool bo, .int .i64 a0, .int .i64 a1, .int .i64 a2, .int .i64 a3, .int .i64 a4, .int .i64 e0, .int .i64 e1, .int .i64 e2, .int .i64 e3, .int .i64 e4] 27 HB1.out HB1.out.size; rw [eW]; clear eW; have HS1 := Aside0.mk hs1; have HR2 := Aside0.mk (hs2 _ _ BR1.out); have HB2 := Aside0.mk hs3; have hc0 := blk_cell HS1.out 0; have hc3 := blk_cell HS1.out 3; have hf0 := blk_frozen HS1.out 0; have hf3 := blk_frozen HS1.out 3; have hr0 : W2.cell? ⟨w.heap.size, 0, none⟩ = some (.int .i64 s0) := (blk_cell HR2.out 0).trans rfl; have hr3 : W2.cell? ⟨w.heap.size, 3, none⟩ = some (.int .i64 d0) := (blk_cell HR2.out 3).trans rfl; have hne : w.heap.size ≠ w1.heap.size := Nat.ne_of_lt (blk_lt BR1.out); have hne2 : w1.heap.size ≠ w.heap.size := hne.symm; have HNE := Aside0.mk hne; clear hs1 hs2 hs3) | ((with_reducible refine gate_dst (N := 34) rfl ?_); refine wpList_load_row rfl 27 _ rfl (w.heap.size) rfl 27 #[.int .i64 s0, .bool s1, .string s2, .int .i64 d0, .bool d1, .string d2, .bool bo, .int .i64 a0, .int .i64 a1, .int .i64 a2, .int .i64 a3, .int .i64 a4, .int .i64 e0, .int .i64 e1, .int .i64 e2, .int .i64 e3, .int .i64 e4] (0, 0) _ (blk_far (blk_far HR2.out HNE.out _) HNE.out _) Tryd.underlying27 rfl (by kernel_rfl) ?_))
  have HBS := Aside0.mk ((HB2.out.setCell (p := ⟨w1.heap.size, 0, none⟩) HB1.out.size (.int .i64 (wrap64 (s0 + Int.tmod by_ 1001)))).setCell (p := ⟨w1.heap.size, 3, none⟩) HB1.out.size (.int .i64 (wrap64 (d0 + Int.tmod by_ 1001))))
  have HS2 := Aside0.mk (blk_put (cs' := #[.int .i64 (wrap64 (s0 + Int.tmod by_ 1001)), .bool s1, .string s2, .int .i64 (wrap64 (d0 + Int.tmod by_ 1001)), .bool d1, .string d2, .bool bo, .int .i64 a0, .int .i64 a1, .int .i64 a2, .int .i64 a3, .int .i64 a4, .int .i64 e0, .int .i64 e1, .int .i64 e2, .int .i64 e3, .int .i64 e4]) (blk_put (cs' := #[.int .i64 (wrap64 (s0 + Int.tmod by_ 1001)), .bool s1, .string s2, .int .i64 d0, .bool d1, .string d2, .bool bo, .int .i64 a0, .int .i64 a1, .int .i64 a2, .int .i64 a3, .int .i64 a4, .int .i64 e0, .int .i64 e1, .int .i64 e2, .int .i64 e3, .int .i64 e4]) HS1.out 0 (.int .i64 (wrap64 (s0 + Int.tmod by_ 1001))) rfl) 3 (.int .i64 (wrap64 (d0 + Int.tmod by_ 1001))) rfl)
  refine (HA.out _ (HG.out.below HBS.out)).mono ?_
  rintro e w2 ⟨rfl, hb2⟩
  have BS2 := Aside0.mk (blk_below HS2.out hb2)
  have HB3 := Aside0.mk (HBS.out.trans (hb2.mono HBS.out.size))
  clear hb2 HA hr0 hr3 hc0 hc3 hf0 hf3 hne hne2 HS1 HR2 HB2 HBS HS2
  go_wp2_with ((with_reducible refine gate_dst (N := 41) rfl ?_); refine wpList_load_row rfl 27 _ rfl (w1.heap.size) rfl 27 #[.int .i64 (wrap64 (s0 + Int.tmod by_ 1001)), .bool s1, .string s2, .int .i64 (wrap64 (d0 + Int.tmod by_ 1001)), .bool d1, .string d2, .bool bo, .int .i64 a0, .int .i64 a1, .int .i64 a2, .int .i64 a3, .int .i64 a4, .int .i64 e0, .int .i64 e1, .int .i64 e2, .int .i64 e3, .int .i64 e4] (0, 0) _ BS2.out Tryd.underlying27 rfl (by kernel_rfl) ?_)
  refine (HC.out _ (HG.out.below HB3.out)).mono ?_
  rintro e w3 ⟨rfl, hb3⟩
  have HB4 := Aside0.mk (HB3.out.trans (hb3.mono HB3.out.size))
  clear hb3 HC
  go_wp2
  go_ret
  exact ⟨rfl, HB4.out⟩

set_option maxRecDepth 100000 in
set_option maxHeartbeats 2000000 in
theorem shift_none (k : Nat) (s0 : Int) (s1 : Bool) (s2 : ByteArray) (d0 : Int) (d1 : Bool) (d2 : ByteArray) (bo : Bool) (a0 : Int) (a1 : Int) (a2 : Int) (a3 : Int) (a4 : Int) (e0 : Int) (e1 : Int) (e2 : Int) (e3 : Int) (e4 : Int) (by_ y : Int) (w : World) (hG : GL w) (h1 : rule_Turns.f k s0 s1 s2 d0 d1 d2 bo a0 a1 a2 a3 a4 e0 e1 e2 e3 e4 y = some (0, 0, 1)) (h2 : rule_Turns.f k (wrap64 (s0 + Int.tmod by_ 1001)) s1 s2 (wrap64 (d0 + Int.tmod by_ 1001)) d1 d2 bo a0 a1 a2 a3 a4 e0 e1 e2 e3 e4 y = some (0, 0, 1)) :
    Calls Tryd.prog 9 #[.agg #[.int .i64 s0, .bool s1, .string s2, .int .i64 d0, .bool d1, .string d2, .bool bo, .int .i64 a0, .int .i64 a1, .int .i64 a2, .int .i64 a3, .int .i64 a4, .int .i64 e0, .int .i64 e1, .int .i64 e2, .int .i64 e3, .int .i64 e4], .int .i64 by_, .int .i64 y] w fun e w' => e = .returned (.bool true) ∧ Below w.heap.size w w' := by
  have HG := Aside0.mk hG
  have HS := Aside0.mk (fun W hG => longcaselaw09_shown_calls W hG)
  have HA := Aside0.mk (fun W hG => rule_Turns.calls k s0 s1 s2 d0 d1 d2 bo a0 a1 a2 a3 a4 e0 e1 e2 e3 e4 y 0 0 1 W hG h1)
  have HC := Aside0.mk (fun W hG => rule_Turns.calls k (wrap64 (s0 + Int.tmod by_ 1001)) s1 s2 (wrap64 (d0 + Int.tmod by_ 1001)) d1 d2 bo a0 a1 a2 a3 a4 e0 e1 e2 e3 e4 y 0 0 1 W hG h2)
  clear hG h1 h2
  go_enter Tryd.func9, Tryd.ntmps9
  go_wp2_with fail
  refine (HS.out _ (HG.out.below (below_alloc (Below.refl _ _) _))).mono ?_
  rintro e w1 ⟨rfl, hb1⟩
  have BR1 := Aside0.mk (blk_below (blk_new _ _) hb1)
  have HB1 := Aside0.mk ((below_alloc (Below.refl _ _) _).trans (hb1.mono (by simp)))
  clear hb1 HS
  go_wp2_with (first | ((with_reducible refine gate_dst (N := 18) rfl ?_); refine wpList_load_row rfl 27 _ rfl (w.heap.size) rfl 27 #[.int .i64 s0, .bool s1, .string s2, .int .i64 d0, .bool d1, .string d2, .bool bo, .int .i64 a0, .int .i64 a1, .int .i64 a2, .int .i64 a3, .int .i64 a4, .int .i64 e0, .int .i64 e1, .int .i64 e2, .int .i64 e3, .int .i64 e4] (0, 0) _ BR1.out Tryd.underlying27 rfl (by kernel_rfl) ?_) | ((with_reducible refine gate_store (t := 27) (p := 8) rfl ?_); refine wpList_store_row rfl 27 (.tmp 8) (.tmp 18) rfl w1.heap.size #[.int .i64 s0, .bool s1, .string s2, .int .i64 d0, .bool d1, .string d2, .bool bo, .int .i64 a0, .int .i64 a1, .int .i64 a2, .int .i64 a3, .int .i64 a4, .int .i64 e0, .int .i64 e1, .int .i64 e2, .int .i64 e3, .int .i64 e4] rfl rfl 27 _ (blk_new _ _) (by kernel_rfl) rfl (by simp [Value.oneCell']) ?_; obtain ⟨W2, eW, hs1, hs2, hs3⟩ := fresh_store #[.int .i64 0, .bool false, .string ⟨#[]⟩, .int .i64 0, .bool false, .string ⟨#[]⟩, .bool false, .int .i64 0, .int .i64 0, .int .i64 0, .int .i64 0, .int .i64 0, .int .i64 0, .int .i64 0, .int .i64 0, .int .i64 0, .int .i64 0] #[.int .i64 s0, .bool s1, .string s2, .int .i64 d0, .bool d1, .string d2, .bool bo, .int .i64 a0, .int .i64 a1, .int .i64 a2, .int .i64 a3, .int .i64 a4, .int .i64 e0, .int .i64 e1, .int .i64 e2, .int .i64 e3, .int .i64 e4] 27 HB1.out HB1.out.size; rw [eW]; clear eW; have HS1 := Aside0.mk hs1; have HR2 := Aside0.mk (hs2 _ _ BR1.out); have HB2 := Aside0.mk hs3; have hc0 := blk_cell HS1.out 0; have hc3 := blk_cell HS1.out 3; have hf0 := blk_frozen HS1.out 0; have hf3 := blk_frozen HS1.out 3; have hr0 : W2.cell? ⟨w.heap.size, 0, none⟩ = some (.int .i64 s0) := (blk_cell HR2.out 0).trans rfl; have hr3 : W2.cell? ⟨w.heap.size, 3, none⟩ = some (.int .i64 d0) := (blk_cell HR2.out 3).trans rfl; have hne : w.heap.size ≠ w1.heap.size := Nat.ne_of_lt (blk_lt BR1.out); have hne2 : w1.heap.size ≠ w.heap.size := hne.symm; have HNE := Aside0.mk hne; clear hs1 hs2 hs3) | ((with_reducible refine gate_dst (N := 34) rfl ?_); refine wpList_load_row rfl 27 _ rfl (w.heap.size) rfl 27 #[.int .i64 s0, .bool s1, .string s2, .int .i64 d0, .bool d1, .string d2, .bool bo, .int .i64 a0, .int .i64 a1, .int .i64 a2, .int .i64 a3, .int .i64 a4, .int .i64 e0, .int .i64 e1, .int .i64 e2, .int .i64 e3, .int .i64 e4] (0, 0) _ (blk_far (blk_far HR2.out HNE.out _) HNE.out _) Tryd.underlying27 rfl (by kernel_rfl) ?_))
  have HBS := Aside0.mk ((HB2.out.setCell (p := ⟨w1.heap.size, 0, none⟩) HB1.out.size (.int .i64 (wrap64 (s0 + Int.tmod by_ 1001)))).setCell (p := ⟨w1.heap.size, 3, none⟩) HB1.out.size (.int .i64 (wrap64 (d0 + Int.tmod by_ 1001))))
  have HS2 := Aside0.mk (blk_put (cs' := #[.int .i64 (wrap64 (s0 + Int.tmod by_ 1001)), .bool s1, .string s2, .int .i64 (wrap64 (d0 + Int.tmod by_ 1001)), .bool d1, .string d2, .bool bo, .int .i64 a0, .int .i64 a1, .int .i64 a2, .int .i64 a3, .int .i64 a4, .int .i64 e0, .int .i64 e1, .int .i64 e2, .int .i64 e3, .int .i64 e4]) (blk_put (cs' := #[.int .i64 (wrap64 (s0 + Int.tmod by_ 1001)), .bool s1, .string s2, .int .i64 d0, .bool d1, .string d2, .bool bo, .int .i64 a0, .int .i64 a1, .int .i64 a2, .int .i64 a3, .int .i64 a4, .int .i64 e0, .int .i64 e1, .int .i64 e2, .int .i64 e3, .int .i64 e4]) HS1.out 0 (.int .i64 (wrap64 (s0 + Int.tmod by_ 1001))) rfl) 3 (.int .i64 (wrap64 (d0 + Int.tmod by_ 1001))) rfl)
  refine (HA.out _ (HG.out.below HBS.out)).mono ?_
  rintro e w2 ⟨rfl, hb2⟩
  have BS2 := Aside0.mk (blk_below HS2.out hb2)
  have HB3 := Aside0.mk (HBS.out.trans (hb2.mono HBS.out.size))
  clear hb2 HA hr0 hr3 hc0 hc3 hf0 hf3 hne hne2 HS1 HR2 HB2 HBS HS2
  go_wp2_with ((with_reducible refine gate_dst (N := 41) rfl ?_); refine wpList_load_row rfl 27 _ rfl (w1.heap.size) rfl 27 #[.int .i64 (wrap64 (s0 + Int.tmod by_ 1001)), .bool s1, .string s2, .int .i64 (wrap64 (d0 + Int.tmod by_ 1001)), .bool d1, .string d2, .bool bo, .int .i64 a0, .int .i64 a1, .int .i64 a2, .int .i64 a3, .int .i64 a4, .int .i64 e0, .int .i64 e1, .int .i64 e2, .int .i64 e3, .int .i64 e4] (0, 0) _ BS2.out Tryd.underlying27 rfl (by kernel_rfl) ?_)
  refine (HC.out _ (HG.out.below HB3.out)).mono ?_
  rintro e w3 ⟨rfl, hb3⟩
  have HB4 := Aside0.mk (HB3.out.trans (hb3.mono HB3.out.size))
  clear hb3 HC
  go_wp2
  go_ret
  exact ⟨rfl, HB4.out⟩

theorem tmod_range (a b : Int) (hb : 0 < b) : -b < Int.tmod a b ∧ Int.tmod a b < b := by
  have h2 := Int.tmod_eq_emod (a := a) (b := b)
  have h3 := Int.emod_nonneg a (show b ≠ 0 by omega)
  have h4 := Int.emod_lt_of_pos a hb
  have hn : (b.natAbs : Int) = b := Int.natAbs_of_nonneg (by omega)
  by_cases hd : 0 ≤ a ∨ b ∣ a
  · rw [if_pos hd] at h2; omega
  · rw [if_neg hd, hn] at h2
    have hne : a % b ≠ 0 := fun e => hd (.inr (Int.dvd_of_emod_eq_zero e))
    omega
theorem RuleShift_walk (s0 : Int) (s1 : Bool) (s2 : ByteArray) (d0 : Int) (d1 : Bool) (d2 : ByteArray) (bo : Bool) (a0 : Int) (a1 : Int) (a2 : Int) (a3 : Int) (a4 : Int) (e0 : Int) (e1 : Int) (e2 : Int) (e3 : Int) (e4 : Int) (by_ y : Int) (w : World) (hG : GL w) :
    Calls Tryd.prog 9 #[.agg #[.int .i64 s0, .bool s1, .string s2, .int .i64 d0, .bool d1, .string d2, .bool bo, .int .i64 a0, .int .i64 a1, .int .i64 a2, .int .i64 a3, .int .i64 a4, .int .i64 e0, .int .i64 e1, .int .i64 e2, .int .i64 e3, .int .i64 e4], .int .i64 by_, .int .i64 y] w fun e w' => e = .returned (.bool true) ∧ Below w.heap.size w w' := by
  have h1 := turns_eq 0 s0 s1 s2 d0 d1 d2 bo a0 a1 a2 a3 a4 e0 e1 e2 e3 e4 y
  have h2 := turns_eq 0 (wrap64 (s0 + Int.tmod by_ 1001)) s1 s2 (wrap64 (d0 + Int.tmod by_ 1001)) d1 d2 bo a0 a1 a2 a3 a4 e0 e1 e2 e3 e4 y
  have hz := tmod_range by_ 1001 (by decide)
  cases t1 : turnsB s0 s1 s2 d0 d1 d2 bo a0 a1 a2 a3 a4 e0 e1 e2 e3 e4 y
  · rw [t1, if_neg (by decide)] at h1
    cases t2 : turnsB (wrap64 (s0 + Int.tmod by_ 1001)) s1 s2 (wrap64 (d0 + Int.tmod by_ 1001)) d1 d2 bo a0 a1 a2 a3 a4 e0 e1 e2 e3 e4 y
    · rw [t2, if_neg (by decide)] at h2
      exact shift_none 4 s0 s1 s2 d0 d1 d2 bo a0 a1 a2 a3 a4 e0 e1 e2 e3 e4 by_ y w hG h1 h2
    · rw [t2, if_pos rfl] at h2
      exact shift_snd 4 s0 s1 s2 d0 d1 d2 bo a0 a1 a2 a3 a4 e0 e1 e2 e3 e4 by_ y _ _ w hG h1 h2
  · rw [t1, if_pos rfl] at h1
    cases t2 : turnsB (wrap64 (s0 + Int.tmod by_ 1001)) s1 s2 (wrap64 (d0 + Int.tmod by_ 1001)) d1 d2 bo a0 a1 a2 a3 a4 e0 e1 e2 e3 e4 y
    · rw [t2, if_neg (by decide)] at h2
      exact shift_fst 4 s0 s1 s2 d0 d1 d2 bo a0 a1 a2 a3 a4 e0 e1 e2 e3 e4 by_ y _ _ w hG h1 h2
    · rw [t2, if_pos rfl] at h2
      refine shift_ok 4 s0 s1 s2 d0 d1 d2 bo a0 a1 a2 a3 a4 e0 e1 e2 e3 e4 by_ y _ _ _ _ w hG h1 h2 ?_ ?_
      all_goals
        have hr := t1
        unfold turnsB at hr
        simp only [Bool.and_eq_true] at hr
        obtain ⟨hr, hb, hy⟩ := hr
        unfold rightB at hr
        rw [if_pos hb] at hr
        simp only [Bool.and_eq_true, inB, decide_eq_true_eq] at hr
        obtain ⟨_, _, hs, _, _, hd, ha, he⟩ := hr
        have z1 := dayN_size y a0 a1 a2 a3 a4 hy ha
        have z2 := dayN_size y e0 e1 e2 e3 e4 hy he
        have c1 := chg_time a0 a1 a2 a3 a4 ha
        have c2 := chg_time e0 e1 e2 e3 e4 he
        unfold startN
      · rw [w64 (a := s0 + Int.tmod by_ 1001) ⟨by omega, by omega⟩, w64 ⟨by omega, by omega⟩]; omega
      · rw [w64 (a := d0 + Int.tmod by_ 1001) ⟨by omega, by omega⟩, w64 ⟨by omega, by omega⟩]; omega
end Go.Proofs.YtgbehcahdgamoaaDoor.Fn
