/- Part 5 of the texts for LRuleAlways: contracts and plain laws that it leans on. -/
import Derived.Test.YtgbehcahdgamoaaDoorZRuleAlways4
import Derived.Laws.BitsLemmas
import Derived.Test.YtgbehcahdgamoaaDoorZRuleAlways3
import Derived.Laws.CopyOwn
namespace Go.Proofs.YtgbehcahdgamoaaDoor.Fn
open Go.RowKit Go.Proofs.YtgbehcahdgamoaaDoorW.PrintWords Go.Proofs.YtgbehcahdgamoaaDoorW.PrintLast Go.Proofs.YtgbehcahdgamoaaDoorW.PrintMore Go.Lib Go.Sort

/-- One of two values. -/
def pickV (b : Bool) (x y : Value) : Value := if b = true then x else y

/-- A slice of turns that reads as a list. -/
def CellsT (w : World) (g : Nat) (xs : List (Int × Bool)) : Prop := ∀ i, i < xs.length → w.cell? ⟨g, i * 2, none⟩ = some (.int .i64 (xs[i]?.getD default).1) ∧ w.cell? ⟨g, i * 2 + 1, none⟩ = some (.bool (xs[i]?.getD default).2)
theorem CellsT.below {w w' : World} {g : Nat} {xs : List (Int × Bool)} (h : CellsT w g xs) (hb : Below w.heap.size w w') : CellsT w' g xs := fun i hi =>
  ⟨(hb.cell (p := ⟨g, i * 2, none⟩) (World.block_lt_of_cell? _ _ (h i hi).1)).trans (h i hi).1, (hb.cell (p := ⟨g, i * 2 + 1, none⟩) (World.block_lt_of_cell? _ _ (h i hi).2)).trans (h i hi).2⟩

theorem contT_calls (W : World) (B g cap : Nat) (xs : List (Int × Bool)) (h0 : 0 < xs.length) (h6 : xs.length ≤ 6) (hl : W.cell? ⟨B, 0, none⟩ = some (.slice (some ⟨g, 0, none⟩) xs.length cap)) (hc : CellsT W g xs) :
    Calls Tryd.prog 36 #[.slice (some ⟨g, 0, none⟩) xs.length cap, .func (.func 37) #[] #[.pointer (some ⟨B, 0, none⟩)]] W fun e w' => e = .returned (.bool (xs.any fun x => x.2 && x.1 == firstT xs)) ∧ Below W.heap.size W w' := by
  have hp := atFirst W B g xs.length cap (firstT xs) h0 hl (by have := (hc 0 h0).1; simpa [firstT] using this)
  have h := AnyQ.slices_ContainsFunc Tryd.contTurn 2 Tryd.isAgg62 Tryd.sizeOf62 encT (fun _ => rfl) (fun x => x.2 && x.1 == firstT xs) 37 #[.pointer (some ⟨B, 0, none⟩)] (enters_of Tryd.func37 (by kernel_rfl) rfl) g 0 xs.length cap xs W hp (Nat.le_refl _) (by omega)
    (World.block_lt_of_cell? _ _ (hc 0 h0).1) (by
      intro j hj i v hv
      have e : xs[j]! = xs[j]?.getD default := by simp [hj]
      rw [e] at hv
      match i, hv with
      | 0, hv => simp [encT] at hv; subst hv; simpa using (hc j hj).1
      | 1, hv => simp [encT] at hv; subst hv; simpa using (hc j hj).2
      | i + 2, hv => simp [encT] at hv)
  rw [List.take_length] at h
  exact h

set_option maxRecDepth 100000 in
set_option maxHeartbeats 2000000 in
theorem At_two (k : Nat) (xs : List (Int × Bool)) (s0 : Int) (s1 : Bool) (s2 : ByteArray) (d0 : Int) (d1 : Bool) (d2 : ByteArray) (a0 : Int) (a1 : Int) (a2 : Int) (a3 : Int) (a4 : Int) (e0 : Int) (e1 : Int) (e2 : Int) (e3 : Int) (e4 : Int) (t : Int) (w : World) (hG : GL w) (h : posix_Right.f k s0 s1 s2 d0 d1 d2 true a0 a1 a2 a3 a4 e0 e1 e2 e3 e4 true = some true)
    (v0 v1 : Int) (v2 : Bool) (hv : number_Div.f t 86400 = some (v0, v1, v2)) (y m d : Int) (hd : civil_Date.f v0 = some (y, m, d, 0)) (hL : 0 < xs.length) (hL2 : xs.length ≤ 6)
    (hT : ∀ W, GL W → Calls Tryd.prog 35 #[.agg #[.int .i64 s0, .bool s1, .string s2, .int .i64 d0, .bool d1, .string d2, .bool true, .int .i64 a0, .int .i64 a1, .int .i64 a2, .int .i64 a3, .int .i64 a4, .int .i64 e0, .int .i64 e1, .int .i64 e2, .int .i64 e3, .int .i64 e4], .int .i64 y] W fun e w' => ∃ g cap : Nat, e = .returned (.slice (some ⟨g, 0, none⟩) xs.length cap) ∧ CellsT w' g xs ∧ Below W.heap.size W w') :
    Calls Tryd.prog 16 #[.agg #[.int .i64 s0, .bool s1, .string s2, .int .i64 d0, .bool d1, .string d2, .bool true, .int .i64 a0, .int .i64 a1, .int .i64 a2, .int .i64 a3, .int .i64 a4, .int .i64 e0, .int .i64 e1, .int .i64 e2, .int .i64 e3, .int .i64 e4], .int .i64 t] w fun e w' => e = .returned (.tuple #[pickV (dstT t xs) (.agg #[.int .i64 d0, .bool d1, .string d2]) (.agg #[.int .i64 s0, .bool s1, .string s2]), .int .i64 0]) ∧ Below w.heap.size w w' := by
  have HC := Aside0.mk (fun W => posix_Right.calls k s0 s1 s2 d0 d1 d2 true a0 a1 a2 a3 a4 e0 e1 e2 e3 e4 true true W h)
  have HV := Aside0.mk (fun W => number_Div.calls t 86400 v0 v1 v2 W hv)
  have HD := Aside0.mk (fun W => civil_Date.calls v0 y m d 0 W hd)
  have HT := Aside0.mk hT
  have HG := Aside0.mk hG
  clear h hv hd hG hT
  go_enter Tryd.func16, Tryd.ntmps16
  go_wp2_with ((with_reducible refine gate_dst (N := 17) rfl ?_); refine wpList_load_row rfl 27 _ rfl w.heap.size rfl 27 #[.int .i64 s0, .bool s1, .string s2, .int .i64 d0, .bool d1, .string d2, .bool true, .int .i64 a0, .int .i64 a1, .int .i64 a2, .int .i64 a3, .int .i64 a4, .int .i64 e0, .int .i64 e1, .int .i64 e2, .int .i64 e3, .int .i64 e4] (0, 0) _ (blk_alloc (blk_new _ _) _) Tryd.underlying27 rfl (by kernel_rfl) ?_)
  refine (HC.out _).mono ?_
  rintro e w1 ⟨rfl, hb1⟩
  have BK := blk_below (blk_new _ _) hb1
  simp only [World.size_alloc] at BK
  have BR := blk_below (blk_alloc (blk_new _ _) _) hb1
  have HBw := Aside0.mk ((below_alloc (below_alloc (Below.refl _ _) _) _).trans (hb1.mono (by simp; omega)))
  have hr6 : w1.cell? ⟨w.heap.size, 6, none⟩ = some (.bool true) := (blk_cell BR 6).trans rfl
  have BK1 := Aside0.mk BK
  have BR1 := Aside0.mk BR
  clear hb1 BK HC BR
  go_wp2_with (first | ((with_reducible refine gate_dst (N := 43) rfl ?_); refine wpList_load_row rfl 27 _ rfl w.heap.size rfl 27 #[.int .i64 s0, .bool s1, .string s2, .int .i64 d0, .bool d1, .string d2, .bool true, .int .i64 a0, .int .i64 a1, .int .i64 a2, .int .i64 a3, .int .i64 a4, .int .i64 e0, .int .i64 e1, .int .i64 e2, .int .i64 e3, .int .i64 e4] (0, 0) _ (blk_drewN BR1.out _) Tryd.underlying27 rfl (by kernel_rfl) ?_) | (go_at_call 34; refine (HV.out _).mono ?_; rintro e w' ⟨rfl, ⟨nd, rfl⟩⟩) | (go_at_call 21; refine (HD.out _).mono ?_; rintro e w' ⟨rfl, ⟨nd, rfl⟩⟩))
  refine (HT.out _ (HG.out.below (by repeat (first | exact HBw.out | apply pw_below_drewN | apply below_drew1 | apply below_alloc | refine below_set ?_ (by omega))))).mono ?_
  rintro e w2 ⟨g, cap, rfl, hct, hb2⟩
  have hb2' : Below w1.heap.size w1 w2 := (pw_below_drewN (Below.refl _ _) _).trans (hb2.mono (Nat.le_refl _))
  have BK := blk_below BK1.out hb2'
  have BR := blk_below BR1.out hb2'
  have HBw2 := Aside0.mk (HBw.out.trans (hb2'.mono HBw.out.size))
  have HCT := Aside0.mk hct
  clear hb2 hb2' BK1 BR1 HBw HT HV HD HG hct hr6
  have BK2 := Aside0.mk BK
  have BR2 := Aside0.mk BR
  clear BK BR
  go_wp2_with fail
  refine (contT_calls _ w2.heap.size g cap xs hL hL2 (by go_simp) (HCT.out.below (below_alloc (Below.refl _ _) _))).mono ?_
  rintro e w3 ⟨rfl, hb3⟩
  have hb3' : Below w2.heap.size w2 w3 := (below_alloc (Below.refl _ _) _).trans (hb3.mono (by simp))
  have hl3 : w3.cell? ⟨w2.heap.size, 0, none⟩ = some (.slice (some ⟨g, 0, none⟩) xs.length cap) := (hb3.cell (p := ⟨w2.heap.size, 0, none⟩) (by simp)).trans (by go_simp)
  have HCT3 := Aside0.mk (HCT.out.below hb3')
  have HBw3 := Aside0.mk (HBw2.out.trans (hb3'.mono HBw2.out.size))
  have BK3 := Aside0.mk (blk_below BK2.out hb3')
  have BR3 := Aside0.mk (blk_below BR2.out hb3')
  clear hb3 hb3' HCT HBw2 BK2 BR2
  obtain ⟨b0, hb0⟩ : ∃ b0, b0 = !(xs.any fun x => x.2 && x.1 == firstT xs) := ⟨_, rfl⟩
  have HB0 := Aside0.mk hb0
  go_wp2_with fail
  rw [← hb0]
  clear hb0
  go_loopw [14, 52] (fun ds i wr => ∃ (j : Nat), j ≤ xs.length ∧ i = .int .i64 j ∧ ds = .bool (foldT t (xs.take j) b0) ∧ Below w3.heap.size w3 wr) (fun _ i _ => (xs.length - intOf i).toNat)
  case atStart => exact ⟨0, by omega, rfl, rfl, Below.refl _ _⟩
  case round =>
    obtain ⟨j, hj, rfl, rfl, hb⟩ := hrel
    have hsz := hb.size
    by_cases hlt : j < xs.length
    · have hcc := (HCT3.out.below hb) j hlt
      obtain ⟨hc0, hc1⟩ := hcc
      have HS := Aside0.mk (foldT_step t xs b0 j hlt)
      generalize xs[j]?.getD default = x at hc0 hc1 HS
      obtain ⟨a, b⟩ := x
      have HB := Aside0.mk hb
      clear hb
      by_cases hle : a ≤ t
      · have HS2 : Aside0 (foldT t (xs.take (j + 1)) b0 = b) := ⟨by rw [HS.out, if_pos hle]⟩
        clear HS
        go_wp2
        go_roundw
        case rel => exact ⟨j + 1, by omega, by go_num, by rw [HS2.out], (by repeat (first | exact HB.out | apply pw_below_drewN | apply below_drew1 | apply below_alloc | refine below_set ?_ (by omega)))⟩
        case measure => simp [intOf]; omega
      · have HS2 : Aside0 (foldT t (xs.take (j + 1)) b0 = foldT t (xs.take j) b0) := ⟨by rw [HS.out, if_neg hle]⟩
        clear HS
        go_wp2
        go_roundw
        case rel => exact ⟨j + 1, by omega, by go_num, by rw [HS2.out], (by repeat (first | exact HB.out | apply pw_below_drewN | apply below_drew1 | apply below_alloc | refine below_set ?_ (by omega)))⟩
        case measure => simp [intOf]; omega
    · obtain rfl : j = xs.length := by omega
      have HBr := Aside0.mk (HBw3.out.trans (hb.mono HBw3.out.size))
      have BKr := blk_below BK3.out hb
      have BRr := blk_below BR3.out hb
      have BK4 := Aside0.mk BKr
      have hds : foldT t (xs.take xs.length) b0 = dstT t xs := by rw [List.take_length, HB0.out]; rfl
      have hk0_ : wr.cell? ⟨w.heap.size+1, 0, none⟩ = some (.int .i64 0) := (blk_cell BKr 0).trans rfl
      have hk1_ : wr.cell? ⟨w.heap.size+1, 1, none⟩ = some (.bool false) := (blk_cell BKr 1).trans rfl
      have hk2_ : wr.cell? ⟨w.heap.size+1, 2, none⟩ = some (.string (⟨#[]⟩ : ByteArray)) := (blk_cell BKr 2).trans rfl
      have hf0_ : wr.frozen? ⟨w.heap.size+1, 0, none⟩ = false := blk_frozen BKr 0
      have hf1_ : wr.frozen? ⟨w.heap.size+1, 1, none⟩ = false := blk_frozen BKr 1
      have hf2_ : wr.frozen? ⟨w.heap.size+1, 2, none⟩ = false := blk_frozen BKr 2
      have hr0 : wr.cell? ⟨w.heap.size, 0, none⟩ = some (.int .i64 s0) := (blk_cell BRr 0).trans rfl
      have hr1 : wr.cell? ⟨w.heap.size, 1, none⟩ = some (.bool s1) := (blk_cell BRr 1).trans rfl
      have hr2 : wr.cell? ⟨w.heap.size, 2, none⟩ = some (.string s2) := (blk_cell BRr 2).trans rfl
      have hr3 : wr.cell? ⟨w.heap.size, 3, none⟩ = some (.int .i64 d0) := (blk_cell BRr 3).trans rfl
      have hr4 : wr.cell? ⟨w.heap.size, 4, none⟩ = some (.bool d1) := (blk_cell BRr 4).trans rfl
      have hr5 : wr.cell? ⟨w.heap.size, 5, none⟩ = some (.string d2) := (blk_cell BRr 5).trans rfl
      clear BKr BRr hb hlt hj HCT3 HBw3 BK3 BR3
      rw [hds]
      clear hds HB0
      generalize hr : dstT t xs = r
      have HR := Aside0.mk hr
      clear hr
      cases r
      · go_wp2
        refine bodyPost_ret (results_ct rfl _ _ (w.heap.size+1) 23 #[.int .i64 (s0), .bool s1, .string s2] (0, 0) _ rfl (by (with_reducible repeat (first | refine blk_drewN ?_ _ | refine blk_drew ?_ | refine blk_alloc ?_ _)); refine blk_put (cs := #[.int .i64 (s0), .bool s1, .string (⟨#[]⟩ : ByteArray)]) ?_ 2 _ rfl; (with_reducible repeat (first | refine blk_drewN ?_ _ | refine blk_drew ?_ | refine blk_alloc ?_ _)); refine blk_put (cs := #[.int .i64 (s0), .bool false, .string (⟨#[]⟩ : ByteArray)]) ?_ 1 _ rfl; (with_reducible repeat (first | refine blk_drewN ?_ _ | refine blk_drew ?_ | refine blk_alloc ?_ _)); refine blk_put (cs := #[.int .i64 0, .bool false, .string (⟨#[]⟩ : ByteArray)]) ?_ 0 _ rfl; (with_reducible repeat (first | refine blk_drewN ?_ _ | refine blk_drew ?_ | refine blk_alloc ?_ _)); exact BK4.out) Tryd.underlying23 rfl (by kernel_rfl)) rfl ?_
        exact ⟨by rw [HR.out]; rfl, (by repeat (first | exact HBr.out | apply pw_below_drewN | apply below_drew1 | apply below_alloc | refine below_set ?_ (by omega)))⟩
      · go_wp2
        refine bodyPost_ret (results_ct rfl _ _ (w.heap.size+1) 23 #[.int .i64 (d0), .bool d1, .string d2] (0, 0) _ rfl (by (with_reducible repeat (first | refine blk_drewN ?_ _ | refine blk_drew ?_ | refine blk_alloc ?_ _)); refine blk_put (cs := #[.int .i64 (d0), .bool d1, .string (⟨#[]⟩ : ByteArray)]) ?_ 2 _ rfl; (with_reducible repeat (first | refine blk_drewN ?_ _ | refine blk_drew ?_ | refine blk_alloc ?_ _)); refine blk_put (cs := #[.int .i64 (d0), .bool false, .string (⟨#[]⟩ : ByteArray)]) ?_ 1 _ rfl; (with_reducible repeat (first | refine blk_drewN ?_ _ | refine blk_drew ?_ | refine blk_alloc ?_ _)); refine blk_put (cs := #[.int .i64 0, .bool false, .string (⟨#[]⟩ : ByteArray)]) ?_ 0 _ rfl; (with_reducible repeat (first | refine blk_drewN ?_ _ | refine blk_drew ?_ | refine blk_alloc ?_ _)); exact BK4.out) Tryd.underlying23 rfl (by kernel_rfl)) rfl ?_
        exact ⟨by rw [HR.out]; rfl, (by repeat (first | exact HBr.out | apply pw_below_drewN | apply below_drew1 | apply below_alloc | refine below_set ?_ (by omega)))⟩

theorem rowsT_three (T : Int → Int × Int × Int) (y : Int) : rowsT T (y - 1) 3 = rowT (T (y - 1)) ++ rowT (T y) ++ rowT (T (y + 1)) := by
  simp only [rowsT]
  rw [show y - 1 + ((0 : Nat) : Int) = y - 1 from by omega, show y - 1 + ((1 : Nat) : Int) = y from by omega, show y - 1 + ((2 : Nat) : Int) = y + 1 from by omega]
  simp

theorem rule_At.calls (k : Nat) (s0 : Int) (s1 : Bool) (s2 : ByteArray) (d0 : Int) (d1 : Bool) (d2 : ByteArray) (bo : Bool) (a0 : Int) (a1 : Int) (a2 : Int) (a3 : Int) (a4 : Int) (e0 : Int) (e1 : Int) (e2 : Int) (e3 : Int) (e4 : Int) (t q0 : Int) (q1 : Bool) (q2 : ByteArray) (q3 : Int) (w : World) (hG : GL w) (h : rule_At.f k s0 s1 s2 d0 d1 d2 bo a0 a1 a2 a3 a4 e0 e1 e2 e3 e4 t = some (q0, q1, q2, q3)) :
    Calls Tryd.prog 16 #[.agg #[.int .i64 s0, .bool s1, .string s2, .int .i64 d0, .bool d1, .string d2, .bool bo, .int .i64 a0, .int .i64 a1, .int .i64 a2, .int .i64 a3, .int .i64 a4, .int .i64 e0, .int .i64 e1, .int .i64 e2, .int .i64 e3, .int .i64 e4], .int .i64 t] w fun e w' => e = .returned (.tuple #[.agg #[.int .i64 q0, .bool q1, .string q2], .int .i64 q3]) ∧ Below w.heap.size w w' := by
  unfold rule_At.f at h
  replace h := Option.bind_eq_some_iff.mp h
  obtain ⟨ok, hok, h⟩ := h
  cases ok
  · rw [if_pos rfl] at h
    simp only [Option.some.injEq, Prod.mk.injEq] at h
    obtain ⟨rfl, rfl, rfl, rfl⟩ := h
    exact At_wrong k s0 s1 s2 d0 d1 d2 bo a0 a1 a2 a3 a4 e0 e1 e2 e3 e4 t w hok
  · rw [if_neg (by decide)] at h
    by_cases hbo : bo = false
    · rw [if_pos hbo] at h
      simp only [Option.some.injEq, Prod.mk.injEq] at h
      obtain ⟨rfl, rfl, rfl, rfl⟩ := h
      exact At_one k s0 s1 s2 d0 d1 d2 a0 a1 a2 a3 a4 e0 e1 e2 e3 e4 t w bo hbo hok
    · rw [if_neg hbo] at h
      have hbo : bo = true := by simpa using hbo
      replace h := Option.bind_eq_some_iff.mp h
      obtain ⟨⟨v0, v1, v2⟩, hv, h⟩ := h
      replace h := Option.bind_eq_some_iff.mp h
      obtain ⟨⟨y, m, d, er⟩, hd, h⟩ := h
      simp only at h
      by_cases her : er = 0
      · subst her
        rw [if_pos rfl] at h
        by_cases hy : -4611686018427387904 < y ∧ y < 4611686018427387904
        · rw [if_pos hy] at h
          replace h := Option.bind_eq_some_iff.mp h
          obtain ⟨T0, hT0, h⟩ := h
          replace h := Option.bind_eq_some_iff.mp h
          obtain ⟨T1, hT1, h⟩ := h
          replace h := Option.bind_eq_some_iff.mp h
          obtain ⟨T2, hT2, h⟩ := h
          obtain ⟨T, f0, f1, f2⟩ : ∃ T : Int → Int × Int × Int, T (y - 1) = T0 ∧ T y = T1 ∧ T (y + 1) = T2 :=
            ⟨fun z => if z = y - 1 then T0 else if z = y then T1 else T2, by simp, by dsimp only; rw [if_neg (by omega), if_pos rfl], by dsimp only; rw [if_neg (by omega), if_neg (by omega)]⟩
          subst f0 f1 f2
          rw [← rowsT_three T y] at h
          by_cases hne : 0 < (rowsT T (y - 1) 3).length
          · rw [if_pos hne] at h
            have hT : ∀ j : Nat, j < 3 → rule_Turns.f k s0 s1 s2 d0 d1 d2 bo a0 a1 a2 a3 a4 e0 e1 e2 e3 e4 (y - 1 + j) = some (T (y - 1 + j)) := by
              intro j hj
              rcases (show j = 0 ∨ j = 1 ∨ j = 2 by omega) with rfl | rfl | rfl
              · rw [show y - 1 + ((0 : Nat) : Int) = y - 1 from by omega]; exact hT0
              · rw [show y - 1 + ((1 : Nat) : Int) = y from by omega]; exact hT1
              · rw [show y - 1 + ((2 : Nat) : Int) = y + 1 from by omega]; exact hT2
            subst hbo
            have H := At_two k (sortT (rowsT T (y - 1) 3)) s0 s1 s2 d0 d1 d2 a0 a1 a2 a3 a4 e0 e1 e2 e3 e4 t w hG hok v0 v1 v2 hv y m d hd (by rw [sortT_len]; exact hne) (by rw [sortT_len]; exact rowsT_len T (y - 1) 3)
              (fun W hGW => (turns_calls k T s0 s1 s2 d0 d1 d2 true a0 a1 a2 a3 a4 e0 e1 e2 e3 e4 y W hGW hy.1 hy.2 hT hne).mono fun e w' ⟨g, cap, he, _, _, hH, hb⟩ => ⟨g, cap, by rw [sortT_len]; exact he, fun i hi => cells_T hH i hi, hb⟩)
            refine H.mono fun e w' ⟨he, hb⟩ => ⟨?_, hb⟩
            rw [he]
            by_cases hds : dstT t (sortT (rowsT T (y - 1) 3)) = true
            · rw [if_pos hds] at h
              simp only [Option.some.injEq, Prod.mk.injEq] at h
              obtain ⟨rfl, rfl, rfl, rfl⟩ := h
              rw [pickV, if_pos hds]
            · rw [if_neg hds] at h
              simp only [Option.some.injEq, Prod.mk.injEq] at h
              obtain ⟨rfl, rfl, rfl, rfl⟩ := h
              rw [pickV, if_neg hds]
          · rw [if_neg hne] at h
            cases h
        · rw [if_neg hy] at h
          cases h
      · rw [if_neg her] at h
        simp only [Option.some.injEq, Prod.mk.injEq] at h
        obtain ⟨rfl, rfl, rfl, rfl⟩ := h
        exact At_err k s0 s1 s2 d0 d1 d2 a0 a1 a2 a3 a4 e0 e1 e2 e3 e4 t w bo hbo hok v0 v1 v2 hv y m d er hd her

theorem rule_At.mono : ∀ s0 s1 s2 d0 d1 d2 bo a0 a1 a2 a3 a4 e0 e1 e2 e3 e4 t k, LeO (rule_At.f k s0 s1 s2 d0 d1 d2 bo a0 a1 a2 a3 a4 e0 e1 e2 e3 e4 t) (rule_At.f (k + 1) s0 s1 s2 d0 d1 d2 bo a0 a1 a2 a3 a4 e0 e1 e2 e3 e4 t) := by
  intro s0 s1 s2 d0 d1 d2 bo a0 a1 a2 a3 a4 e0 e1 e2 e3 e4 t k
  unfold rule_At.f
  repeat' first
      | (with_reducible exact posix_Right.mono _ _ _ _ _ _ _ _ _ _ _ _ _ _ _ _ _ _ _)
      | (with_reducible exact rule_Turns.mono _ _ _ _ _ _ _ _ _ _ _ _ _ _ _ _ _ _ _)
      | (with_reducible exact LeO.refl _)
      | (with_reducible exact LeO.none _)
      | (with_reducible refine LeO.ite ?_ ?_)
      | (with_reducible refine LeO.bind ?_ (fun _ => ?_))
end Go.Proofs.YtgbehcahdgamoaaDoor.Fn

namespace Go.Proofs.YtgbehcahdgamoaaDoor.Fn
open Go.RowKit Go.Proofs.YtgbehcahdgamoaaDoorW.PrintWords Go.Proofs.YtgbehcahdgamoaaDoorW.PrintLast Go.Proofs.YtgbehcahdgamoaaDoorW.PrintMore Go.Sort

theorem ltT_iff (x y : Int × Bool) : ltOf cfT x y = true ↔ x.1 < y.1 ∨ x.1 = y.1 ∧ x.2 = false ∧ y.2 = true := by
  obtain ⟨a, b⟩ := x
  obtain ⟨c, d⟩ := y
  unfold ltOf cfT
  simp only [decide_eq_true_eq]
  by_cases h1 : a < c
  · simp [h1]
  · by_cases h2 : c < a
    · simp [h1, h2]; omega
    · obtain rfl : a = c := by omega
      cases b <;> cases d <;> simp
theorem ltT_false (x y : Int × Bool) : ltOf cfT x y = false ↔ y.1 < x.1 ∨ x.1 = y.1 ∧ ¬ (x.2 = false ∧ y.2 = true) := by
  rw [← Bool.not_eq_true, ltT_iff]
  constructor
  · intro h
    by_cases e : x.1 = y.1
    · exact .inr ⟨e, fun g => h (.inr ⟨e, g.1, g.2⟩)⟩
    · exact .inl (by
        rcases Int.lt_trichotomy x.1 y.1 with g | g | g
        · exact absurd (.inl g) h
        · exact absurd g e
        · exact g)
  · rintro (h | ⟨e, h⟩) (g | ⟨g, g1, g2⟩)
    · omega
    · omega
    · omega
    · exact h ⟨g1, g2⟩
theorem swoT : SWO (ltOf cfT) where
  irrefl x := by rw [ltT_false]; exact .inr ⟨rfl, fun g => by rw [g.1] at g; simp at g⟩
  trans x y z h1 h2 := by
    rw [ltT_iff] at h1 h2 ⊢
    rcases h1 with h1 | ⟨h1, h3, h4⟩ <;> rcases h2 with h2 | ⟨h2, h5, h6⟩
    · exact .inl (by omega)
    · exact .inl (by omega)
    · exact .inl (by omega)
    · rw [h4] at h5; cases h5
  ntrans x y z h1 h2 := by
    rw [ltT_false] at h1 h2 ⊢
    rcases h1 with h1 | ⟨h1, h3⟩ <;> rcases h2 with h2 | ⟨h2, h5⟩
    · exact .inl (by omega)
    · exact .inl (by omega)
    · exact .inl (by omega)
    · refine .inr ⟨by omega, ?_⟩
      rintro ⟨g1, g2⟩
      cases hy : y.2
      · exact h5 ⟨hy, g2⟩
      · exact h3 ⟨g1, hy⟩

theorem sortT_perm (l : List (Int × Bool)) : (sortT l).Perm l := by
  have h := (insertionSort_holds (lt := ltOf cfT) swoT l.toArray 0 l.length (by omega) (by simp)).1.2.2
  have e1 : (l.toArray.extract 0 l.length).toList = l := by simp
  have e2 : ((Sort.insertionSort (ltOf cfT) l.toArray 0 l.length).extract 0 l.length).toList = sortT l := by
    unfold sortT
    rw [Array.extract_eq_self_of_le (by rw [size_insertionSort]; simp)]
  rw [e1, e2] at h
  exact h
theorem sortT_sorted (l : List (Int × Bool)) : (sortT l).Pairwise fun x y => ltOf cfT y x = false := by
  have h := (insertionSort_holds (lt := ltOf cfT) swoT l.toArray 0 l.length (by omega) (by simp)).2
  rw [List.pairwise_iff_getElem]
  intro i j hi hj hij
  have hl := sortT_len l
  have := h i j (by omega) hij (by omega)
  rw [getElem!_pos _ i (by rw [size_insertionSort]; simp; omega), getElem!_pos _ j (by rw [size_insertionSort]; simp; omega)] at this
  simpa [sortT] using this

theorem foldT_none (t : Int) : ∀ (S : List (Int × Bool)) (b : Bool), (∀ x ∈ S, t < x.1) → foldT t S b = b
  | [], b, _ => rfl
  | a :: S, b, h => by
    have ha := h a (List.mem_cons_self ..)
    show foldT t S (if a.1 ≤ t then a.2 else b) = b
    rw [if_neg (by omega)]
    exact foldT_none t S b fun x hx => h x (List.mem_cons_of_mem _ hx)
theorem foldT_some (t : Int) : ∀ (S : List (Int × Bool)) (b : Bool), S.Pairwise (fun x y => ltOf cfT y x = false) → (∃ x ∈ S, x.1 ≤ t) →
    ∃ x ∈ S, x.1 ≤ t ∧ foldT t S b = x.2 ∧ ∀ y ∈ S, y.1 ≤ t → ltOf cfT x y = false
  | [], b, _, ⟨x, hx, _⟩ => by cases hx
  | a :: S, b, hS, ⟨x, hx, hxt⟩ => by
    have hp := List.pairwise_cons.1 hS
    show ∃ x ∈ a :: S, x.1 ≤ t ∧ foldT t S (if a.1 ≤ t then a.2 else b) = x.2 ∧ _
    by_cases he : ∃ x ∈ S, x.1 ≤ t
    · obtain ⟨z, hz, hzt, hf, hm⟩ := foldT_some t S (if a.1 ≤ t then a.2 else b) hp.2 he
      refine ⟨z, List.mem_cons_of_mem _ hz, hzt, hf, fun y hy hyt => ?_⟩
      rcases List.mem_cons.1 hy with rfl | hy
      · exact hp.1 z hz
      · exact hm y hy hyt
    · have hn : ∀ x ∈ S, t < x.1 := fun x hx => by
        rcases Int.lt_or_le t x.1 with g | g
        · exact g
        · exact absurd ⟨x, hx, g⟩ he
      have hxa : x = a := by
        rcases List.mem_cons.1 hx with h | h
        · exact h
        · have := hn x h; omega
      subst hxa
      refine ⟨x, List.mem_cons_self .., hxt, ?_, fun y hy hyt => ?_⟩
      · rw [if_pos hxt]; exact foldT_none t S x.2 hn
      · rcases List.mem_cons.1 hy with rfl | hy
        · exact swoT.irrefl y
        · have := hn y hy; omega

/-- Some turn is not behind t: the last of them tells; of two at a time the start. -/
theorem dst_some (t : Int) (l : List (Int × Bool)) (h : ∃ x ∈ l, x.1 ≤ t) :
    ∃ x ∈ l, x.1 ≤ t ∧ dstT t (sortT l) = x.2 ∧ ∀ y ∈ l, y.1 ≤ t → y.1 < x.1 ∨ x.1 = y.1 ∧ ¬ (x.2 = false ∧ y.2 = true) := by
  have hp := sortT_perm l
  obtain ⟨z, hz, hzt⟩ := h
  obtain ⟨x, hx, hxt, hf, hm⟩ := foldT_some t (sortT l) (!((sortT l).any fun x => x.2 && x.1 == firstT (sortT l))) (sortT_sorted l) ⟨z, hp.mem_iff.2 hz, hzt⟩
  exact ⟨x, hp.mem_iff.1 hx, hxt, hf, fun y hy hyt => (ltT_false x y).1 (hm y (hp.mem_iff.2 hy) hyt)⟩
/-- All turns are behind t: what the first one ends. -/
theorem dst_none (t : Int) (l : List (Int × Bool)) (hl : l ≠ []) (h : ∀ x ∈ l, t < x.1) :
    ∃ m, (∃ z ∈ l, z.1 = m) ∧ (∀ y ∈ l, m ≤ y.1) ∧ dstT t (sortT l) = !(l.any fun x => x.2 && x.1 == m) := by
  have hp := sortT_perm l
  have hs := sortT_sorted l
  unfold dstT
  rw [foldT_none t (sortT l) _ (fun x hx => h x (hp.mem_iff.1 hx)), hp.any_eq]
  match hS : sortT l with
  | [] => rw [hS] at hp; exact absurd hp.nil_eq.symm hl
  | a :: S =>
    rw [hS] at hs hp
    have hpc := List.pairwise_cons.1 hs
    refine ⟨a.1, ⟨a, hp.mem_iff.1 (List.mem_cons_self ..), rfl⟩, fun y hy => ?_, rfl⟩
    rcases List.mem_cons.1 (hp.mem_iff.2 hy) with rfl | hy
    · exact Int.le_refl _
    · have := (ltT_false y a).1 (hpc.1 y hy)
      omega
end Go.Proofs.YtgbehcahdgamoaaDoor.Fn

namespace Go.Proofs.YtgbehcahdgamoaaDoor.Fn
open Go.RowKit Go.Proofs.YtgbehcahdgamoaaDoorW.PrintWords Go.Proofs.YtgbehcahdgamoaaDoorW.PrintLast Go.Proofs.YtgbehcahdgamoaaDoorW.PrintMore

/-- The turns of a year. -/
def turnsN (s0 : Int) (s1 : Bool) (s2 : ByteArray) (d0 : Int) (d1 : Bool) (d2 : ByteArray) (bo : Bool) (a0 : Int) (a1 : Int) (a2 : Int) (a3 : Int) (a4 : Int) (e0 : Int) (e1 : Int) (e2 : Int) (e3 : Int) (e4 : Int) (y : Int) : Int × Int × Int := if turnsB s0 s1 s2 d0 d1 d2 bo a0 a1 a2 a3 a4 e0 e1 e2 e3 e4 y = true then (startN y s0 a0 a1 a2 a3 a4, startN y d0 e0 e1 e2 e3 e4, 0) else (0, 0, 1)
/-- The turns around a year. -/
def yearRows (s0 : Int) (s1 : Bool) (s2 : ByteArray) (d0 : Int) (d1 : Bool) (d2 : ByteArray) (bo : Bool) (a0 : Int) (a1 : Int) (a2 : Int) (a3 : Int) (a4 : Int) (e0 : Int) (e1 : Int) (e2 : Int) (e3 : Int) (e4 : Int) (y : Int) : List (Int × Bool) := rowT (turnsN s0 s1 s2 d0 d1 d2 bo a0 a1 a2 a3 a4 e0 e1 e2 e3 e4 (y - 1)) ++ rowT (turnsN s0 s1 s2 d0 d1 d2 bo a0 a1 a2 a3 a4 e0 e1 e2 e3 e4 y) ++ rowT (turnsN s0 s1 s2 d0 d1 d2 bo a0 a1 a2 a3 a4 e0 e1 e2 e3 e4 (y + 1))
theorem rowT_turns (s0 : Int) (s1 : Bool) (s2 : ByteArray) (d0 : Int) (d1 : Bool) (d2 : ByteArray) (bo : Bool) (a0 : Int) (a1 : Int) (a2 : Int) (a3 : Int) (a4 : Int) (e0 : Int) (e1 : Int) (e2 : Int) (e3 : Int) (e4 : Int) (y : Int) : rowT (turnsN s0 s1 s2 d0 d1 d2 bo a0 a1 a2 a3 a4 e0 e1 e2 e3 e4 y) = if turnsB s0 s1 s2 d0 d1 d2 bo a0 a1 a2 a3 a4 e0 e1 e2 e3 e4 y = true then [(startN y d0 e0 e1 e2 e3 e4, false), (startN y s0 a0 a1 a2 a3 a4, true)] else [] := by
  unfold rowT turnsN
  split <;> simp

theorem at_eq (k : Nat) (s0 : Int) (s1 : Bool) (s2 : ByteArray) (d0 : Int) (d1 : Bool) (d2 : ByteArray) (bo : Bool) (a0 : Int) (a1 : Int) (a2 : Int) (a3 : Int) (a4 : Int) (e0 : Int) (e1 : Int) (e2 : Int) (e3 : Int) (e4 : Int) (t : Int) (ht : IsI64 t) : rule_At.f (k + 4) s0 s1 s2 d0 d1 d2 bo a0 a1 a2 a3 a4 e0 e1 e2 e3 e4 t = some (
    if rightB s0 s1 s2 d0 d1 d2 bo a0 a1 a2 a3 a4 e0 e1 e2 e3 e4 true = false then (0, false, ⟨#[]⟩, 1) else if bo = false then (s0, s1, s2, 0) else if mayB (dY (t / 86400)) = true then
      (if dstT t (sortT (yearRows s0 s1 s2 d0 d1 d2 bo a0 a1 a2 a3 a4 e0 e1 e2 e3 e4 (dY (t / 86400)))) = true then (d0, d1, d2, 0) else (s0, s1, s2, 0)) else (0, false, ⟨#[]⟩, 2)) := by
  unfold rule_At.f
  unfold IsI64 at ht
  rw [rightR_eq (k + 1), div_eq t 86400 (by omega) (by omega) ⟨by omega, by omega⟩]
  simp only [Option.bind_some]
  have hle : t / 86400 ≤ 9223372036854056339 := by omega
  rw [date_eq (t / 86400) ⟨by omega, by omega⟩]
  simp only [hle, true_and, Option.bind_some]
  cases hr : rightB s0 s1 s2 d0 d1 d2 bo a0 a1 a2 a3 a4 e0 e1 e2 e3 e4 true
  · rfl
  · cases bo
    · rfl
    · simp only [Bool.true_eq_false, if_false]
      cases hm : mayB (dY (t / 86400))
      · rfl
      · simp only [if_true]
        have hm2 := hm
        unfold mayB at hm2
        simp only [Bool.and_eq_true, decide_eq_true_eq] at hm2
        rw [if_pos ⟨by omega, by omega⟩]
        rw [turns_eq k, turns_eq k, turns_eq k]
        simp only [Option.bind_some]
        have ht1 : turnsB s0 s1 s2 d0 d1 d2 true a0 a1 a2 a3 a4 e0 e1 e2 e3 e4 (dY (t / 86400)) = true := by unfold turnsB; rw [hr, hm]; rfl
        have hpos : 0 < (yearRows s0 s1 s2 d0 d1 d2 true a0 a1 a2 a3 a4 e0 e1 e2 e3 e4 (dY (t / 86400))).length := by
          unfold yearRows
          rw [rowT_turns (y := dY (t / 86400)), if_pos ht1]
          simp
          omega
        show (if 0 < (yearRows s0 s1 s2 d0 d1 d2 true a0 a1 a2 a3 a4 e0 e1 e2 e3 e4 (dY (t / 86400))).length then _ else _) = _
        rw [if_pos hpos]
        show (if dstT t (sortT (yearRows s0 s1 s2 d0 d1 d2 true a0 a1 a2 a3 a4 e0 e1 e2 e3 e4 (dY (t / 86400)))) = true then _ else _) = _
        split <;> rfl
end Go.Proofs.YtgbehcahdgamoaaDoor.Fn

namespace Go.Proofs.YtgbehcahdgamoaaDoor.Fn
open Go.RowKit Go.Proofs.YtgbehcahdgamoaaDoorW.PrintWords Go.Proofs.YtgbehcahdgamoaaDoorW.PrintLast Go.Proofs.YtgbehcahdgamoaaDoorW.PrintMore

theorem i64_and65535 (n : Int) : bits .and .i64 n 65535 = n % 65536 := by
  have h127 : (BitVec.ofInt 64 65535).toNat = 2 ^ 16 - 1 := by decide
  have key : (BitVec.ofInt 64 n &&& BitVec.ofInt 64 65535).toNat = (n % ((2 ^ 64 : Nat) : Int)).toNat % 2 ^ 16 := by
    rw [BitVec.toNat_and, BitVec.toNat_ofInt, h127, Nat.and_two_pow_sub_one_eq_mod]
  show IntKind.i64.wrap ((BitVec.ofInt 64 n &&& BitVec.ofInt 64 65535).toNat : Nat) = n % 65536
  rw [key, IntKind.wrap_i64]
  omega
theorem i64_and24 (n : Int) : bits .and .i64 n 16777215 = n % 16777216 := by
  have h127 : (BitVec.ofInt 64 16777215).toNat = 2 ^ 24 - 1 := by decide
  have key : (BitVec.ofInt 64 n &&& BitVec.ofInt 64 16777215).toNat = (n % ((2 ^ 64 : Nat) : Int)).toNat % 2 ^ 24 := by
    rw [BitVec.toNat_and, BitVec.toNat_ofInt, h127, Nat.and_two_pow_sub_one_eq_mod]
  show IntKind.i64.wrap ((BitVec.ofInt 64 n &&& BitVec.ofInt 64 16777215).toNat : Nat) = n % 16777216
  rw [key, IntKind.wrap_i64]
  omega

theorem dayN_range (y : Int) (c0 : Int) (c1 : Int) (c2 : Int) (c3 : Int) (c4 : Int) (hc : chgB c0 c1 c2 c3 c4 true = true) : daysN y 1 1 ≤ dayN y c0 c1 c2 c3 ∧ dayN y c0 c1 c2 c3 ≤ daysN y 1 1 + 365 := by
  have hD : dateB c0 c1 c2 c3 c4 = true := by unfold chgB at hc; simp only [Bool.and_eq_true] at hc; exact hc.2
  have hl := year_len y
  unfold dateB at hD
  unfold dayN
  by_cases h1 : c0 = 1
  · rw [if_pos h1] at hD ⊢
    simp only [inB, Bool.and_eq_true, decide_eq_true_eq] at hD
    split <;> omega
  · rw [if_neg h1] at hD ⊢
    by_cases h2 : c0 = 2
    · rw [if_pos h2] at hD ⊢
      simp only [inB, Bool.and_eq_true, decide_eq_true_eq] at hD
      omega
    · rw [if_neg h2] at hD ⊢
      by_cases h3 : c0 = 3
      · rw [if_pos h3] at hD
        simp only [inB, Bool.and_eq_true, decide_eq_true_eq] at hD
        have hp := lenN_pos y c1 (by omega) (by omega)
        have hw := weekN_range (daysN y c1 1)
        have i1 := in_year (y := y) (m := c1) (d := 1) (by omega) (by omega) (by omega)
        have i2 := in_year (y := y) (m := c1) (d := lenN y c1) (by omega) (by omega) (by omega)
        have e := daysN_day y c1 (lenN y c1)
        split at hl <;> split <;> omega
      · rw [if_neg h3] at hD
        cases hD

/-- The first second of a year. -/
def secY (y : Int) : Int := daysN y 1 1 * 86400
theorem secY_step (y : Int) : secY y + 31536000 ≤ secY (y + 1) ∧ secY (y + 1) ≤ secY y + 31622400 := by
  have := year_len y
  unfold secY
  split at this <;> omega

theorem right_two (s0 : Int) (s1 : Bool) (s2 : ByteArray) (d0 : Int) (d1 : Bool) (d2 : ByteArray) (bo : Bool) (a0 : Int) (a1 : Int) (a2 : Int) (a3 : Int) (a4 : Int) (e0 : Int) (e1 : Int) (e2 : Int) (e3 : Int) (e4 : Int) (h : rightB s0 s1 s2 d0 d1 d2 bo a0 a1 a2 a3 a4 e0 e1 e2 e3 e4 true = true) (hb : bo = true) : (-89999 ≤ s0 ∧ s0 ≤ 89999) ∧ (-89999 ≤ d0 ∧ d0 ≤ 89999) ∧ chgB a0 a1 a2 a3 a4 true = true ∧ chgB e0 e1 e2 e3 e4 true = true := by
  unfold rightB at h
  rw [if_pos hb] at h
  simp only [Bool.and_eq_true, inB, decide_eq_true_eq] at h
  obtain ⟨_, _, hs, _, _, hd, ha, he⟩ := h
  exact ⟨hs, hd, ha, he⟩
/-- A turn lies in its year, or a few days beside it. -/
theorem turn_range (s0 : Int) (s1 : Bool) (s2 : ByteArray) (d0 : Int) (d1 : Bool) (d2 : ByteArray) (bo : Bool) (a0 : Int) (a1 : Int) (a2 : Int) (a3 : Int) (a4 : Int) (e0 : Int) (e1 : Int) (e2 : Int) (e3 : Int) (e4 : Int) (h : rightB s0 s1 s2 d0 d1 d2 bo a0 a1 a2 a3 a4 e0 e1 e2 e3 e4 true = true) (hb : bo = true) (y : Int) (z : Int × Bool) (hz : z ∈ rowT (turnsN s0 s1 s2 d0 d1 d2 bo a0 a1 a2 a3 a4 e0 e1 e2 e3 e4 y)) : secY y - 694798 ≤ z.1 ∧ z.1 ≤ secY y + 32230798 := by
  obtain ⟨hs, hd, ha, he⟩ := right_two s0 s1 s2 d0 d1 d2 bo a0 a1 a2 a3 a4 e0 e1 e2 e3 e4 h hb
  rw [rowT_turns] at hz
  split at hz
  · have r1 := dayN_range y a0 a1 a2 a3 a4 ha
    have r2 := dayN_range y e0 e1 e2 e3 e4 he
    have t1 := chg_time a0 a1 a2 a3 a4 ha
    have t2 := chg_time e0 e1 e2 e3 e4 he
    simp only [List.mem_cons, List.not_mem_nil, or_false] at hz
    unfold startN at hz
    unfold secY
    rcases hz with rfl | rfl
    · simp only; omega
    · simp only; omega
  · cases hz
theorem mem_yearRows (s0 : Int) (s1 : Bool) (s2 : ByteArray) (d0 : Int) (d1 : Bool) (d2 : ByteArray) (bo : Bool) (a0 : Int) (a1 : Int) (a2 : Int) (a3 : Int) (a4 : Int) (e0 : Int) (e1 : Int) (e2 : Int) (e3 : Int) (e4 : Int) (y : Int) (z : Int × Bool) : z ∈ yearRows s0 s1 s2 d0 d1 d2 bo a0 a1 a2 a3 a4 e0 e1 e2 e3 e4 y ↔ ∃ i, y - 1 ≤ i ∧ i ≤ y + 1 ∧ z ∈ rowT (turnsN s0 s1 s2 d0 d1 d2 bo a0 a1 a2 a3 a4 e0 e1 e2 e3 e4 i) := by
  unfold yearRows
  simp only [List.mem_append]
  constructor
  · rintro ((h | h) | h)
    · exact ⟨_, by omega, by omega, h⟩
    · exact ⟨_, by omega, by omega, h⟩
    · exact ⟨_, by omega, by omega, h⟩
  · rintro ⟨i, h1, h2, h⟩
    rcases (show i = y - 1 ∨ i = y ∨ i = y + 1 by omega) with rfl | rfl | rfl
    · exact .inl (.inl h)
    · exact .inl (.inr h)
    · exact .inr h
/-- The year of a moment. -/
theorem sec_year (t : Int) : secY (dY (t / 86400)) ≤ t ∧ t < secY (dY (t / 86400) + 1) := by
  have := date_year (t / 86400)
  unfold secY
  omega
theorem turnsB_two (s0 : Int) (s1 : Bool) (s2 : ByteArray) (d0 : Int) (d1 : Bool) (d2 : ByteArray) (bo : Bool) (a0 : Int) (a1 : Int) (a2 : Int) (a3 : Int) (a4 : Int) (e0 : Int) (e1 : Int) (e2 : Int) (e3 : Int) (e4 : Int) (h : rightB s0 s1 s2 d0 d1 d2 bo a0 a1 a2 a3 a4 e0 e1 e2 e3 e4 true = true) (hb : bo = true) (y : Int) (hy : mayB y = true) : turnsB s0 s1 s2 d0 d1 d2 bo a0 a1 a2 a3 a4 e0 e1 e2 e3 e4 y = true := by unfold turnsB; rw [h, hb, hy]; rfl
end Go.Proofs.YtgbehcahdgamoaaDoor.Fn

namespace Go.Proofs.YtgbehcahdgamoaaDoor.Fn
open Go.RowKit Go.Proofs.YtgbehcahdgamoaaDoorW.PrintWords Go.Proofs.YtgbehcahdgamoaaDoorW.PrintLast Go.Proofs.YtgbehcahdgamoaaDoorW.PrintMore Go.Lib Go.Sort

/-- The outer loop of the sort, by so many rounds: it can be run. -/
def insO {α : Type} [Inhabited α] (lt : α → α → Bool) (a b : Nat) : Nat → Nat → Array α → Array α
  | 0, _, d => d
  | n + 1, i, d => if i < b then insO lt a b n (i + 1) (insInner lt a i d) else d
theorem insO_eq {α : Type} [Inhabited α] (lt : α → α → Bool) (a b : Nat) : ∀ (n i : Nat) (d : Array α), b - i ≤ n → insOuter lt a b i d = insO lt a b n i d
  | 0, i, d, h => by unfold insOuter insO; rw [if_neg (by omega)]
  | n + 1, i, d, h => by
    unfold insOuter insO
    split
    · rw [insO_eq lt a b n (i + 1) _ (by omega)]
    · rfl
theorem sortT_run (l : List (Int × Bool)) : sortT l = (insO (ltOf cfT) 0 l.length l.length 1 l.toArray).toList := by
  unfold sortT Sort.insertionSort
  rw [insO_eq (ltOf cfT) 0 l.length l.length (0 + 1) _ (by omega)]

def estS : ByteArray := ⟨#[69, 83, 84]⟩
def edtS : ByteArray := ⟨#[69, 68, 84]⟩
theorem shown_right : posix_Right.f 8 (-18000) false estS (-14400) true edtS true 3 3 2 0 7200 3 11 1 0 7200 true = some true := by decide +kernel
theorem shown_turns (y a b : Int) (h : y = 2006 ∧ a = 1142146800 ∧ b = 1162706400 ∨ y = 2007 ∧ a = 1173596400 ∧ b = 1194156000 ∨ y = 2008 ∧ a = 1205046000 ∧ b = 1225605600) :
    rule_Turns.f 8 (-18000) false estS (-14400) true edtS true 3 3 2 0 7200 3 11 1 0 7200 y = some (a, b, 0) := by
  rcases h with ⟨rfl, rfl, rfl⟩ | ⟨rfl, rfl, rfl⟩ | ⟨rfl, rfl, rfl⟩ <;> decide +kernel
theorem shown_day : rule_Day.f 8 2000 1 60 0 0 0 = some (11017, 0) := by decide +kernel
theorem shown_none : rule_At.f 8 0 false ⟨#[]⟩ 0 false ⟨#[]⟩ false 0 0 0 0 0 0 0 0 0 0 0 = some (0, false, ⟨#[]⟩, 1) := by decide +kernel

/-- What a rule tells at a moment, out of its three years. -/
theorem shown_at (t : Int) (dst : Bool) (h : t = 1173596400 ∧ dst = true ∨ t = 1173596399 ∧ dst = false) :
    rule_At.f 8 (-18000) false estS (-14400) true edtS true 3 3 2 0 7200 3 11 1 0 7200 t = some (if dst = true then (-14400, true, edtS, 0) else (-18000, false, estS, 0)) := by
  have h1 := shown_turns 2006 1142146800 1162706400 (by omega)
  have h2 := shown_turns 2007 1173596400 1194156000 (by omega)
  have h3 := shown_turns 2008 1205046000 1225605600 (by omega)
  have hd : ∀ v : Int × Int × Bool, number_Div.f t 86400 = some v → civil_Date.f v.1 = some (2007, 3, 11, 0) := by
    rcases h with ⟨rfl, _⟩ | ⟨rfl, _⟩
    · intro v hv
      obtain rfl := Option.some.inj ((show number_Div.f 1173596400 86400 = some (13583, 25200, true) by decide +kernel).symm.trans hv)
      decide +kernel
    · intro v hv
      obtain rfl := Option.some.inj ((show number_Div.f 1173596399 86400 = some (13583, 25199, true) by decide +kernel).symm.trans hv)
      decide +kernel
  obtain ⟨v, hv⟩ : ∃ v, number_Div.f t 86400 = some v := by
    rcases h with ⟨rfl, _⟩ | ⟨rfl, _⟩
    · exact ⟨(13583, 25200, true), by decide +kernel⟩
    · exact ⟨(13583, 25199, true), by decide +kernel⟩
  unfold rule_At.f
  rw [shown_right]
  simp only [Option.bind_some, Bool.true_eq_false, if_false]
  rw [hv]
  simp only [Option.bind_some]
  rw [hd v hv]
  simp only [Option.bind_some, if_true]
  rw [if_pos (by decide), show (2007 : Int) - 1 = 2006 from rfl, show (2007 : Int) + 1 = 2008 from rfl, h1, h2, h3]
  simp only [Option.bind_some]
  rw [if_pos (by decide), sortT_run]
  rcases h with ⟨rfl, rfl⟩ | ⟨rfl, rfl⟩ <;> decide +kernel
end Go.Proofs.YtgbehcahdgamoaaDoor.Fn

namespace Go.Proofs.YtgbehcahdgamoaaDoor.Fn
open Go.RowKit Go.Proofs.YtgbehcahdgamoaaDoorW.PrintWords Go.Proofs.YtgbehcahdgamoaaDoorW.PrintLast Go.Proofs.YtgbehcahdgamoaaDoorW.PrintMore Go.Lib Go.Sort

abbrev shownC : Array Value := #[.int .i64 (-18000), .bool false, .string ⟨#[69, 83, 84]⟩, .int .i64 (-14400), .bool true, .string ⟨#[69, 68, 84]⟩, .bool true, .int .i64 3, .int .i64 3, .int .i64 2, .int .i64 0, .int .i64 7200, .int .i64 3, .int .i64 11, .int .i64 1, .int .i64 0, .int .i64 7200]

set_option maxRecDepth 100000 in
set_option maxHeartbeats 2000000 in
theorem longcaselaw09_shown_calls (w : World) (hG : GL w) :
    Calls Tryd.prog 11 #[] w fun e w' => e = .returned (.bool true) ∧ Below w.heap.size w w' := by
  have HG := Aside0.mk hG
  clear hG
  have HT := Aside0.mk (fun W hG => rule_Turns.calls 8 (-18000) false estS (-14400) true edtS true 3 3 2 0 7200 3 11 1 0 7200 2007 1173596400 1194156000 0 W hG (shown_turns 2007 1173596400 1194156000 (by omega)))
  have HA := Aside0.mk (fun W hG => rule_At.calls 8 (-18000) false estS (-14400) true edtS true 3 3 2 0 7200 3 11 1 0 7200 1173596400 (-14400) true edtS 0 W hG (shown_at 1173596400 true (.inl ⟨rfl, rfl⟩)))
  have HB := Aside0.mk (fun W hG => rule_At.calls 8 (-18000) false estS (-14400) true edtS true 3 3 2 0 7200 3 11 1 0 7200 1173596399 (-18000) false estS 0 W hG (shown_at 1173596399 false (.inr ⟨rfl, rfl⟩)))
  have HN := Aside0.mk (fun W hG => rule_At.calls 8 0 false ⟨#[]⟩ 0 false ⟨#[]⟩ false 0 0 0 0 0 0 0 0 0 0 0 0 false ⟨#[]⟩ 1 W hG shown_none)
  have HD := Aside0.mk (fun W hG => rule_Day.calls 8 2000 1 60 0 0 0 11017 0 W hG shown_day)
  go_enter Tryd.func11, Tryd.ntmps11
  go_wp2_with ((with_reducible refine gate_dst (N := 19) rfl ?_); refine wpList_load_row rfl 27 _ rfl w.heap.size rfl 27 shownC (0, 0) _ (blk_new _ _) Tryd.underlying27 rfl (by kernel_rfl) ?_)
  refine (HT.out _ (HG.out.below (below_alloc (Below.refl _ _) _))).mono ?_
  rintro e w1 ⟨rfl, hb1⟩
  have BR1 := Aside0.mk (blk_below (blk_new _ _) hb1)
  have HB1 := Aside0.mk ((below_alloc (Below.refl _ _) _).trans (hb1.mono (by simp)))
  clear hb1 HT
  go_wp2_with ((with_reducible refine gate_dst (N := 25) rfl ?_); refine wpList_load_row rfl 27 _ rfl w.heap.size rfl 27 shownC (0, 0) _ BR1.out Tryd.underlying27 rfl (by kernel_rfl) ?_)
  refine (HA.out _ (HG.out.below HB1.out)).mono ?_
  rintro e w2 ⟨rfl, hb2⟩
  have BR2 := Aside0.mk (blk_below BR1.out hb2)
  have HB2 := Aside0.mk (HB1.out.trans (hb2.mono HB1.out.size))
  clear hb2 HA BR1 HB1
  go_wp2_with ((with_reducible refine gate_dst (N := 30) rfl ?_); refine wpList_load_row rfl 27 _ rfl w.heap.size rfl 27 shownC (0, 0) _ (blk_alloc BR2.out _) Tryd.underlying27 rfl (by kernel_rfl) ?_)
  refine (HB.out _ (HG.out.below (below_alloc HB2.out _))).mono ?_
  rintro e w3 ⟨rfl, hb3⟩
  have BK3 := Aside0.mk (blk_below (blk_new _ _) hb3)
  have HB3 := Aside0.mk ((below_alloc HB2.out _).trans (hb3.mono (by have := HB2.out.size; simp; omega)))
  clear hb3 HB BR2 HB2
  go_wp2_with fail
  refine (HN.out _ (HG.out.below (below_alloc HB3.out _))).mono ?_
  rintro e w4 ⟨rfl, hb4⟩
  have BK4 := Aside0.mk (blk_below (blk_alloc BK3.out _) hb4)
  have BL4 := Aside0.mk (blk_below (blk_new _ _) hb4)
  have HB4 := Aside0.mk ((below_alloc HB3.out _).trans (hb4.mono (by have := HB3.out.size; simp; omega)))
  clear hb4 HN BK3 HB3
  go_wp2_with fail
  refine (HD.out _ (HG.out.below (below_alloc HB4.out _))).mono ?_
  rintro e w5 ⟨rfl, hb5⟩
  have hk := blk_cell (blk_below (blk_alloc BK4.out _) hb5) 2
  have hl := blk_cell (blk_below (blk_alloc BL4.out _) hb5) 2
  have HB5 := Aside0.mk ((below_alloc HB4.out _).trans (hb5.mono (by have := HB4.out.size; simp; omega)))
  clear hb5 HD BK4 BL4 HB4
  simp only [List.getElem?_toArray, List.getElem?_cons_succ, List.getElem?_cons_zero] at hk hl
  have e1 : edtS.toList = [69, 68, 84] := by decide +kernel
  have e2 : estS.toList = [69, 83, 84] := by decide +kernel
  go_wp2
  go_ret
  exact ⟨rfl, HB5.out⟩
/-- The small case, for the printed texts. -/
def longcaselaw09_shown.f : Option Bool := some true
theorem longcaselaw09_shown.calls (r : Bool) (w : World) (hG : GL w) (h : longcaselaw09_shown.f = some r) :
    Calls Tryd.prog 11 #[] w fun e w' => e = .returned (.bool r) ∧ Below w.heap.size w w' := by
  obtain rfl := Option.some.inj h
  exact longcaselaw09_shown_calls w hG
end Go.Proofs.YtgbehcahdgamoaaDoor.Fn

namespace Go.Proofs.YtgbehcahdgamoaaDoor.Fn
open Go.RowKit Go.Proofs.YtgbehcahdgamoaaDoorW.PrintWords Go.Proofs.YtgbehcahdgamoaaDoorW.PrintLast Go.Proofs.YtgbehcahdgamoaaDoorW.PrintMore
attribute [local go_sem high] eqA23

theorem fresh_store {w w1 : World} {B : Nat} (z cells : Array Value) (t : TypeId) (hb : Below B w w1) (hB : B ≤ w1.heap.size) :
    ∃ W2 : World, (w1.alloc (.cells z t)).setRow w1.heap.size cells = W2 ∧ W2.heap[w1.heap.size]? = some (.cells cells t (0, 0)) ∧ (∀ (g : Nat) (o : Obj), w1.heap[g]? = some o → W2.heap[g]? = some o) ∧ Below B w W2 :=
  ⟨_, rfl, setRow_heap _ _ _ cells _ _ (blk_new w1 (.cells z t)), fun _ _ h => (setRow_other _ _ _ cells (Nat.ne_of_lt (blk_lt h))).trans (blk_alloc h _), below_setRow (hb.alloc hB _) hB cells⟩

set_option maxRecDepth 100000 in
set_option maxHeartbeats 2000000 in
theorem always_walk (off t : Int) (w : World) (hG : GL w) (hz : -80000 < Int.tmod off 80000 ∧ Int.tmod off 80000 < 80000) (h1 : rule_At.f 4 (Int.tmod off 80000) false ⟨#[65, 65, 65]⟩ 0 false ⟨#[]⟩ false 0 0 0 0 0 0 0 0 0 0 t = some (Int.tmod off 80000, false, ⟨#[65, 65, 65]⟩, 0)) (h2 : rule_At.f 4 (Int.tmod off 80000) false ⟨#[65, 65, 65]⟩ (Int.tmod off 80000 + 3600) true ⟨#[66, 66, 66]⟩ true 2 0 0 0 0 1 365 0 0 90000 (Int.tmod t 30000000000) = some ((Int.tmod off 80000 + 3600), true, ⟨#[66, 66, 66]⟩, 0)) :
    Calls Tryd.prog 6 #[.int .i64 off, .int .i64 t] w fun e w' => e = .returned (.bool true) ∧ Below w.heap.size w w' := by
  have HG := Aside0.mk hG
  have HS := Aside0.mk (fun W hG => longcaselaw09_shown_calls W hG)
  have HA := Aside0.mk (fun W hG => rule_At.calls 4 (Int.tmod off 80000) false ⟨#[65, 65, 65]⟩ 0 false ⟨#[]⟩ false 0 0 0 0 0 0 0 0 0 0 t _ _ _ _ W hG h1)
  have HC := Aside0.mk (fun W hG => rule_At.calls 4 (Int.tmod off 80000) false ⟨#[65, 65, 65]⟩ (Int.tmod off 80000 + 3600) true ⟨#[66, 66, 66]⟩ true 2 0 0 0 0 1 365 0 0 90000 (Int.tmod t 30000000000) _ _ _ _ W hG h2)
  obtain ⟨hz1, hz2⟩ := hz
  clear hG h1 h2
  go_enter Tryd.func6, Tryd.ntmps6
  go_wp2_with fail
  refine (HS.out _ HG.out).mono ?_
  rintro e w1 ⟨rfl, hb1⟩
  have HB1 := Aside0.mk hb1
  clear hb1 HS
  go_wp2_with (first | ((with_reducible refine gate_store (t := 27) (p := 6) rfl ?_); refine wpList_store_row rfl 27 (.tmp 6) (.tmp 17) rfl w1.heap.size #[.int .i64 (Int.tmod off 80000), .bool false, .string ⟨#[65, 65, 65]⟩, .int .i64 0, .bool false, .string ⟨#[]⟩, .bool false, .int .i64 0, .int .i64 0, .int .i64 0, .int .i64 0, .int .i64 0, .int .i64 0, .int .i64 0, .int .i64 0, .int .i64 0, .int .i64 0] rfl rfl 27 _ (blk_new _ _) (by kernel_rfl) rfl (by simp [Value.oneCell']) ?_; obtain ⟨W2, eW, hs1, hs2, hs3⟩ := fresh_store #[.int .i64 0, .bool false, .string ⟨#[]⟩, .int .i64 0, .bool false, .string ⟨#[]⟩, .bool false, .int .i64 0, .int .i64 0, .int .i64 0, .int .i64 0, .int .i64 0, .int .i64 0, .int .i64 0, .int .i64 0, .int .i64 0, .int .i64 0] #[.int .i64 (Int.tmod off 80000), .bool false, .string ⟨#[65, 65, 65]⟩, .int .i64 0, .bool false, .string ⟨#[]⟩, .bool false, .int .i64 0, .int .i64 0, .int .i64 0, .int .i64 0, .int .i64 0, .int .i64 0, .int .i64 0, .int .i64 0, .int .i64 0, .int .i64 0] 27 HB1.out HB1.out.size; rw [eW]; clear eW; have HS1 := Aside0.mk hs1; have HB2 := Aside0.mk hs3; clear hs1 hs2 hs3) | ((with_reducible refine gate_dst (N := 19) rfl ?_); refine wpList_load_row rfl 27 _ rfl (w1.heap.size) rfl 27 #[.int .i64 (Int.tmod off 80000), .bool false, .string ⟨#[65, 65, 65]⟩, .int .i64 0, .bool false, .string ⟨#[]⟩, .bool false, .int .i64 0, .int .i64 0, .int .i64 0, .int .i64 0, .int .i64 0, .int .i64 0, .int .i64 0, .int .i64 0, .int .i64 0, .int .i64 0] (0, 0) _ HS1.out Tryd.underlying27 rfl (by kernel_rfl) ?_))
  refine (HA.out _ (HG.out.below HB2.out)).mono ?_
  rintro e w3 ⟨rfl, hb3⟩
  have HR3 := Aside0.mk (blk_below HS1.out hb3)
  have HB3 := Aside0.mk (HB2.out.trans (hb3.mono HB2.out.size))
  have hc0 : ∀ o, (w3.alloc o).cell? ⟨w1.heap.size, 0, none⟩ = some (.int .i64 (Int.tmod off 80000)) := fun o => (blk_cell (blk_alloc HR3.out o) 0).trans rfl
  have hc1 : ∀ o, (w3.alloc o).cell? ⟨w1.heap.size, 1, none⟩ = some (.bool false) := fun o => (blk_cell (blk_alloc HR3.out o) 1).trans rfl
  have hc2 : ∀ o, (w3.alloc o).cell? ⟨w1.heap.size, 2, none⟩ = some (.string ⟨#[65, 65, 65]⟩) := fun o => (blk_cell (blk_alloc HR3.out o) 2).trans rfl
  clear hb3 HA HS1 HB2
  have hadd : wrap64 (Int.tmod off 80000 + 3600) = Int.tmod off 80000 + 3600 := w64 ⟨by omega, by omega⟩
  have HB4 := Aside0.mk ((HB3.out.alloc HB3.out.size (.cells #[.int .i64 (Int.tmod off 80000), .bool false, .string ⟨#[65, 65, 65]⟩] 23)).alloc (HB3.out.alloc HB3.out.size (.cells #[.int .i64 (Int.tmod off 80000), .bool false, .string ⟨#[65, 65, 65]⟩] 23)).size (.cells #[.int .i64 (Int.tmod off 80000), .bool false, .string ⟨#[65, 65, 65]⟩, .int .i64 (Int.tmod off 80000 + 3600), .bool true, .string ⟨#[66, 66, 66]⟩, .bool true, .int .i64 2, .int .i64 0, .int .i64 0, .int .i64 0, .int .i64 0, .int .i64 1, .int .i64 365, .int .i64 0, .int .i64 0, .int .i64 90000] 27))
  have HK4 := Aside0.mk (blk_alloc (blk_new w3 (.cells #[.int .i64 (Int.tmod off 80000), .bool false, .string ⟨#[65, 65, 65]⟩] 23)) (.cells #[.int .i64 (Int.tmod off 80000), .bool false, .string ⟨#[65, 65, 65]⟩, .int .i64 (Int.tmod off 80000 + 3600), .bool true, .string ⟨#[66, 66, 66]⟩, .bool true, .int .i64 2, .int .i64 0, .int .i64 0, .int .i64 0, .int .i64 0, .int .i64 1, .int .i64 365, .int .i64 0, .int .i64 0, .int .i64 90000] 27))
  have HR4 := Aside0.mk (blk_alloc (blk_alloc HR3.out (.cells #[.int .i64 (Int.tmod off 80000), .bool false, .string ⟨#[65, 65, 65]⟩] 23)) (.cells #[.int .i64 (Int.tmod off 80000), .bool false, .string ⟨#[65, 65, 65]⟩, .int .i64 (Int.tmod off 80000 + 3600), .bool true, .string ⟨#[66, 66, 66]⟩, .bool true, .int .i64 2, .int .i64 0, .int .i64 0, .int .i64 0, .int .i64 0, .int .i64 1, .int .i64 365, .int .i64 0, .int .i64 0, .int .i64 90000] 27))
  have HD4 : Aside0 (((w3.alloc (.cells #[.int .i64 (Int.tmod off 80000), .bool false, .string ⟨#[65, 65, 65]⟩] 23)).alloc (.cells #[.int .i64 (Int.tmod off 80000), .bool false, .string ⟨#[65, 65, 65]⟩, .int .i64 (Int.tmod off 80000 + 3600), .bool true, .string ⟨#[66, 66, 66]⟩, .bool true, .int .i64 2, .int .i64 0, .int .i64 0, .int .i64 0, .int .i64 0, .int .i64 1, .int .i64 365, .int .i64 0, .int .i64 0, .int .i64 90000] 27)).heap[w3.heap.size + 1]? = some (.cells #[.int .i64 (Int.tmod off 80000), .bool false, .string ⟨#[65, 65, 65]⟩, .int .i64 (Int.tmod off 80000 + 3600), .bool true, .string ⟨#[66, 66, 66]⟩, .bool true, .int .i64 2, .int .i64 0, .int .i64 0, .int .i64 0, .int .i64 0, .int .i64 1, .int .i64 365, .int .i64 0, .int .i64 0, .int .i64 90000] 27)) := Aside0.mk (by simpa using (blk_new (w3.alloc (.cells #[.int .i64 (Int.tmod off 80000), .bool false, .string ⟨#[65, 65, 65]⟩] 23)) (.cells #[.int .i64 (Int.tmod off 80000), .bool false, .string ⟨#[65, 65, 65]⟩, .int .i64 (Int.tmod off 80000 + 3600), .bool true, .string ⟨#[66, 66, 66]⟩, .bool true, .int .i64 2, .int .i64 0, .int .i64 0, .int .i64 0, .int .i64 0, .int .i64 1, .int .i64 365, .int .i64 0, .int .i64 0, .int .i64 90000] 27)))
  go_wp2_with ((with_reducible refine gate_dst (N := 35) rfl ?_); refine wpList_load_row rfl 27 _ rfl (w3.heap.size + 1) rfl 27 #[.int .i64 (Int.tmod off 80000), .bool false, .string ⟨#[65, 65, 65]⟩, .int .i64 (Int.tmod off 80000 + 3600), .bool true, .string ⟨#[66, 66, 66]⟩, .bool true, .int .i64 2, .int .i64 0, .int .i64 0, .int .i64 0, .int .i64 0, .int .i64 1, .int .i64 365, .int .i64 0, .int .i64 0, .int .i64 90000] (0, 0) _ HD4.out Tryd.underlying27 rfl (by kernel_rfl) ?_)
  refine (HC.out _ (HG.out.below HB4.out)).mono ?_
  rintro e w5 ⟨rfl, hb5⟩
  have HK5 := Aside0.mk (blk_below HK4.out hb5)
  have HR5 := Aside0.mk (blk_below HR4.out hb5)
  have HD5 := Aside0.mk (blk_below HD4.out hb5)
  have HB5 := Aside0.mk (HB4.out.trans (hb5.mono HB4.out.size))
  have hk0_ : ∀ o, (w5.alloc o).cell? ⟨w3.heap.size, 0, none⟩ = some (.int .i64 (Int.tmod off 80000)) := fun o => (blk_cell (blk_alloc HK5.out o) 0).trans rfl
  have hk1_ : ∀ o, (w5.alloc o).cell? ⟨w3.heap.size, 1, none⟩ = some (.bool false) := fun o => (blk_cell (blk_alloc HK5.out o) 1).trans rfl
  have hk2_ : ∀ o, (w5.alloc o).cell? ⟨w3.heap.size, 2, none⟩ = some (.string ⟨#[65, 65, 65]⟩) := fun o => (blk_cell (blk_alloc HK5.out o) 2).trans rfl
  have hr0_ : ∀ o, (w5.alloc o).cell? ⟨w1.heap.size, 0, none⟩ = some (.int .i64 (Int.tmod off 80000)) := fun o => (blk_cell (blk_alloc HR5.out o) 0).trans rfl
  have hr1_ : ∀ o, (w5.alloc o).cell? ⟨w1.heap.size, 1, none⟩ = some (.bool false) := fun o => (blk_cell (blk_alloc HR5.out o) 1).trans rfl
  have hr2_ : ∀ o, (w5.alloc o).cell? ⟨w1.heap.size, 2, none⟩ = some (.string ⟨#[65, 65, 65]⟩) := fun o => (blk_cell (blk_alloc HR5.out o) 2).trans rfl
  have hd0_ : ∀ o, (w5.alloc o).cell? ⟨(w3.heap.size + 1), 0, none⟩ = some (.int .i64 (Int.tmod off 80000)) := fun o => (blk_cell (blk_alloc HD5.out o) 0).trans rfl
  have hd1_ : ∀ o, (w5.alloc o).cell? ⟨(w3.heap.size + 1), 1, none⟩ = some (.bool false) := fun o => (blk_cell (blk_alloc HD5.out o) 1).trans rfl
  have hd2_ : ∀ o, (w5.alloc o).cell? ⟨(w3.heap.size + 1), 2, none⟩ = some (.string ⟨#[65, 65, 65]⟩) := fun o => (blk_cell (blk_alloc HD5.out o) 2).trans rfl
  have hd3_ : ∀ o, (w5.alloc o).cell? ⟨(w3.heap.size + 1), 3, none⟩ = some (.int .i64 (Int.tmod off 80000 + 3600)) := fun o => (blk_cell (blk_alloc HD5.out o) 3).trans rfl
  have hd4_ : ∀ o, (w5.alloc o).cell? ⟨(w3.heap.size + 1), 4, none⟩ = some (.bool true) := fun o => (blk_cell (blk_alloc HD5.out o) 4).trans rfl
  have hd5_ : ∀ o, (w5.alloc o).cell? ⟨(w3.heap.size + 1), 5, none⟩ = some (.string ⟨#[66, 66, 66]⟩) := fun o => (blk_cell (blk_alloc HD5.out o) 5).trans rfl
  clear hb5 HC HK4 HR4 HD4 HB4 HB3 HR3 hc0 hc1 hc2
  go_wp2
  go_ret
  exact ⟨rfl, (HB5.out.alloc HB5.out.size _)⟩

theorem tmod_range (a b : Int) (hb : 0 < b) : -b < Int.tmod a b ∧ Int.tmod a b < b := by
  have h2 := Int.tmod_eq_emod (a := a) (b := b)
  have h3 := Int.emod_nonneg a (show b ≠ 0 by omega)
  have h4 := Int.emod_lt_of_pos a hb
  have hn : (b.natAbs : Int) = b := Int.natAbs_of_nonneg (by omega)
  by_cases hd : 0 ≤ a ∨ b ∣ a
  · rw [if_pos hd] at h2; omega
  · rw [if_neg hd, hn] at h2
    have hne : a % b ≠ 0 := fun e => hd (.inr (Int.dvd_of_emod_eq_zero e))
    omega
theorem always_right1 (z : Int) (hz : -80000 < z ∧ z < 80000) : rightB z false ⟨#[65, 65, 65]⟩ 0 false ⟨#[]⟩ false 0 0 0 0 0 0 0 0 0 0 true = true := by
  unfold rightB
  have h1 : inB z (-89999) 89999 = true := by unfold inB; simp; omega
  have h2 : namedB ⟨#[65, 65, 65]⟩ = true := by decide +kernel
  rw [h1, h2]
  simp
theorem always_right2 (z : Int) (hz : -80000 < z ∧ z < 80000) : rightB z false ⟨#[65, 65, 65]⟩ (z + 3600) true ⟨#[66, 66, 66]⟩ true 2 0 0 0 0 1 365 0 0 90000 true = true := by
  unfold rightB
  have h1 : inB z (-89999) 89999 = true := by unfold inB; simp; omega
  have h2 : namedB ⟨#[65, 65, 65]⟩ = true := by decide +kernel
  have h3 : inB (z + 3600) (-89999) 89999 = true := by unfold inB; simp; omega
  have h4 : namedB ⟨#[66, 66, 66]⟩ = true := by decide +kernel
  have h5 : chgB 2 0 0 0 0 true = true := by decide +kernel
  have h6 : chgB 1 365 0 0 90000 true = true := by decide +kernel
  rw [h1, h2, h3, h4, h5, h6]
  rfl
theorem always_start (z i : Int) : startN i z 2 0 0 0 0 = secY i - z := by
  unfold startN dayN secY
  simp
  omega
theorem always_end (z i : Int) : startN i (z + 3600) 1 365 0 0 90000 = secY (i + 1) - z := by
  unfold startN dayN secY
  rw [year_len]
  simp
  cases leapB i
  · simp; omega
  · simp; omega
theorem always_row (z i : Int) (hz : -80000 < z ∧ z < 80000) (hi : mayB i = true) (x : Int × Bool) : x ∈ rowT (turnsN z false ⟨#[65, 65, 65]⟩ (z + 3600) true ⟨#[66, 66, 66]⟩ true 2 0 0 0 0 1 365 0 0 90000 i) ↔ x = (secY (i + 1) - z, false) ∨ x = (secY i - z, true) := by
  rw [rowT_turns, if_pos (turnsB_two z false ⟨#[65, 65, 65]⟩ (z + 3600) true ⟨#[66, 66, 66]⟩ true 2 0 0 0 0 1 365 0 0 90000 (always_right2 z hz) rfl i hi), always_start, always_end]
  simp
theorem always_dst (z t : Int) (hz : -80000 < z ∧ z < 80000) (ht : -30000000000 < t ∧ t < 30000000000) :
    rule_At.f 4 z false ⟨#[65, 65, 65]⟩ (z + 3600) true ⟨#[66, 66, 66]⟩ true 2 0 0 0 0 1 365 0 0 90000 t = some (z + 3600, true, ⟨#[66, 66, 66]⟩, 0) := by
  rw [at_eq 0 z false ⟨#[65, 65, 65]⟩ (z + 3600) true ⟨#[66, 66, 66]⟩ true 2 0 0 0 0 1 365 0 0 90000 t (by unfold IsI64; omega), if_neg (by rw [always_right2 z hz]; decide), if_neg (by decide)]
  obtain ⟨Y, hY⟩ : ∃ Y, Y = dY (t / 86400) := ⟨_, rfl⟩
  have hs := sec_year t
  have c1 : daysN 1000 1 1 = -354285 := by decide +kernel
  have k1 : (1000 : Int) ≤ dY (t / 86400) := (year_ge_iff 1000 _).2 (by rw [c1]; omega)
  have k2 : ¬ (3000 : Int) ≤ dY (t / 86400) := fun h => by
    have h1 := (year_ge_iff 3000 _).1 h
    have : daysN 3000 1 1 = 376200 := by decide +kernel
    omega
  rw [← hY] at k1 k2 hs ⊢
  have hm : ∀ i, 0 ≤ i → i ≤ 4000 → mayB i = true := fun i h1 h2 => by unfold mayB; simp; omega
  rw [if_pos (hm Y (by omega) (by omega))]
  have s0 := secY_step (Y - 1)
  have s1 := secY_step (Y + 1)
  rw [show Y - 1 + 1 = Y by omega] at s0
  obtain ⟨x, hx, hxt, hd, hmax⟩ := dst_some t (yearRows z false ⟨#[65, 65, 65]⟩ (z + 3600) true ⟨#[66, 66, 66]⟩ true 2 0 0 0 0 1 365 0 0 90000 Y) ⟨(secY (Y - 1) - z, true), (mem_yearRows z false ⟨#[65, 65, 65]⟩ (z + 3600) true ⟨#[66, 66, 66]⟩ true 2 0 0 0 0 1 365 0 0 90000 Y _).2 ⟨Y - 1, by omega, by omega, (always_row z (Y - 1) hz (hm _ (by omega) (by omega)) _).2 (.inr rfl)⟩, by simp only; omega⟩
  obtain ⟨i, hi1, hi2, hxi⟩ := (mem_yearRows z false ⟨#[65, 65, 65]⟩ (z + 3600) true ⟨#[66, 66, 66]⟩ true 2 0 0 0 0 1 365 0 0 90000 Y x).1 hx
  rw [hd]
  rcases (always_row z i hz (hm _ (by omega) (by omega)) x).1 hxi with rfl | rfl
  · exfalso
    simp only at hxt
    by_cases he : i = Y + 1
    · subst he; omega
    · have h1 := hmax (secY (i + 1) - z, true) ((mem_yearRows z false ⟨#[65, 65, 65]⟩ (z + 3600) true ⟨#[66, 66, 66]⟩ true 2 0 0 0 0 1 365 0 0 90000 Y _).2 ⟨i + 1, by omega, by omega, (always_row z (i + 1) hz (hm _ (by omega) (by omega)) _).2 (.inr rfl)⟩) hxt
      simp at h1
  · rfl
theorem RuleAlways_walk (off t : Int) (ht : (Lit.int .i64 t).wf = true) (w : World) (hG : GL w) :
    Calls Tryd.prog 6 #[.int .i64 off, .int .i64 t] w fun e w' => e = .returned (.bool true) ∧ Below w.heap.size w w' := by
  have hz := tmod_range off 80000 (by decide)
  have hz' := hz
  generalize hZ : Int.tmod off 80000 = z at hz'
  refine always_walk off t w hG hz ?_ ?_
  · rw [hZ, at_eq 0 z false ⟨#[65, 65, 65]⟩ 0 false ⟨#[]⟩ false 0 0 0 0 0 0 0 0 0 0 t (bounds_i64 ht), if_neg (by rw [always_right1 z hz']; decide), if_pos rfl]
  · rw [hZ]
    exact always_dst z _ hz' (tmod_range t 30000000000 (by decide))
end Go.Proofs.YtgbehcahdgamoaaDoor.Fn
