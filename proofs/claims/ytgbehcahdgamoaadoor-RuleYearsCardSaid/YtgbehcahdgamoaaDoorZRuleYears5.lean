/- Part 5 of the texts for LRuleYears: contracts and plain laws that it leans on. -/
import Derived.Test.YtgbehcahdgamoaaDoorZRuleYears4
import Derived.Test.YtgbehcahdgamoaaDoorZRuleYears3
namespace Go.Proofs.YtgbehcahdgamoaaDoor.Fn
open Go.RowKit Go.Proofs.YtgbehcahdgamoaaDoorW.PrintWords Go.Proofs.YtgbehcahdgamoaaDoorW.PrintLast Go.Proofs.YtgbehcahdgamoaaDoorW.PrintMore Go.Lib Go.Sort

/-- One of two values. -/
def pickV (b : Bool) (x y : Value) : Value := if b = true then x else y

/-- A slice of turns that reads as a list. -/
def CellsT (w : World) (g : Nat) (xs : List (Int × Bool)) : Prop := ∀ i, i < xs.length → w.cell? ⟨g, i * 2, none⟩ = some (.int .i64 (xs[i]?.getD default).1) ∧ w.cell? ⟨g, i * 2 + 1, none⟩ = some (.bool (xs[i]?.getD default).2)
theorem CellsT.below {w w' : World} {g : Nat} {xs : List (Int × Bool)} (h : CellsT w g xs) (hb : Below w.heap.size w w') : CellsT w' g xs := fun i hi =>
  ⟨(hb.cell (p := ⟨g, i * 2, none⟩) (World.block_lt_of_cell? _ _ (h i hi).1)).trans (h i hi).1, (hb.cell (p := ⟨g, i * 2 + 1, none⟩) (World.block_lt_of_cell? _ _ (h i hi).2)).trans (h i hi).2⟩

theorem contT_calls (W : World) (B g cap : Nat) (xs : List (Int × Bool)) (h0 : 0 < xs.length) (h6 : xs.length ≤ 6) (hl : W.cell? ⟨B, 0, none⟩ = some (.slice (some ⟨g, 0, none⟩) xs.length cap)) (hc : CellsT W g xs) :
    Calls Tryd.prog 36 #[.slice (some ⟨g, 0, none⟩) xs.length cap, .func (.func 37) #[] #[.pointer (some ⟨B, 0, none⟩)]] W fun e w' => e = .returned (.bool (xs.any fun x => x.2 && x.1 == firstT xs)) ∧ Below W.heap.size W w' := by
  have hp := atFirst W B g xs.length cap (firstT xs) h0 hl (by have := (hc 0 h0).1; simpa [firstT] using this)
  have h := AnyQ.slices_ContainsFunc Tryd.contTurn 2 Tryd.isAgg62 Tryd.sizeOf62 encT (fun _ => rfl) (fun x => x.2 && x.1 == firstT xs) 37 #[.pointer (some ⟨B, 0, none⟩)] (enters_of Tryd.func37 (by kernel_rfl) rfl) g 0 xs.length cap xs W hp (Nat.le_refl _) (by omega)
    (World.block_lt_of_cell? _ _ (hc 0 h0).1) (by
      intro j hj i v hv
      have e : xs[j]! = xs[j]?.getD default := by simp [hj]
      rw [e] at hv
      match i, hv with
      | 0, hv => simp [encT] at hv; subst hv; simpa using (hc j hj).1
      | 1, hv => simp [encT] at hv; subst hv; simpa using (hc j hj).2
      | i + 2, hv => simp [encT] at hv)
  rw [List.take_length] at h
  exact h

set_option maxRecDepth 100000 in
set_option maxHeartbeats 2000000 in
theorem At_two (k : Nat) (xs : List (Int × Bool)) (s0 : Int) (s1 : Bool) (s2 : ByteArray) (d0 : Int) (d1 : Bool) (d2 : ByteArray) (a0 : Int) (a1 : Int) (a2 : Int) (a3 : Int) (a4 : Int) (e0 : Int) (e1 : Int) (e2 : Int) (e3 : Int) (e4 : Int) (t : Int) (w : World) (hG : GL w) (h : posix_Right.f k s0 s1 s2 d0 d1 d2 true a0 a1 a2 a3 a4 e0 e1 e2 e3 e4 true = some true)
    (v0 v1 : Int) (v2 : Bool) (hv : number_Div.f t 86400 = some (v0, v1, v2)) (y m d : Int) (hd : civil_Date.f v0 = some (y, m, d, 0)) (hL : 0 < xs.length) (hL2 : xs.length ≤ 6)
    (hT : ∀ W, GL W → Calls Tryd.prog 35 #[.agg #[.int .i64 s0, .bool s1, .string s2, .int .i64 d0, .bool d1, .string d2, .bool true, .int .i64 a0, .int .i64 a1, .int .i64 a2, .int .i64 a3, .int .i64 a4, .int .i64 e0, .int .i64 e1, .int .i64 e2, .int .i64 e3, .int .i64 e4], .int .i64 y] W fun e w' => ∃ g cap : Nat, e = .returned (.slice (some ⟨g, 0, none⟩) xs.length cap) ∧ CellsT w' g xs ∧ Below W.heap.size W w') :
    Calls Tryd.prog 16 #[.agg #[.int .i64 s0, .bool s1, .string s2, .int .i64 d0, .bool d1, .string d2, .bool true, .int .i64 a0, .int .i64 a1, .int .i64 a2, .int .i64 a3, .int .i64 a4, .int .i64 e0, .int .i64 e1, .int .i64 e2, .int .i64 e3, .int .i64 e4], .int .i64 t] w fun e w' => e = .returned (.tuple #[pickV (dstT t xs) (.agg #[.int .i64 d0, .bool d1, .string d2]) (.agg #[.int .i64 s0, .bool s1, .string s2]), .int .i64 0]) ∧ Below w.heap.size w w' := by
  have HC := Aside0.mk (fun W => posix_Right.calls k s0 s1 s2 d0 d1 d2 true a0 a1 a2 a3 a4 e0 e1 e2 e3 e4 true true W h)
  have HV := Aside0.mk (fun W => number_Div.calls t 86400 v0 v1 v2 W hv)
  have HD := Aside0.mk (fun W => civil_Date.calls v0 y m d 0 W hd)
  have HT := Aside0.mk hT
  have HG := Aside0.mk hG
  clear h hv hd hG hT
  go_enter Tryd.func16, Tryd.ntmps16
  go_wp2_with fail
  refine (HC.out _).mono ?_
  rintro e w1 ⟨rfl, hb1⟩
  have BK := blk_below (blk_new _ _) hb1
  simp only [World.size_alloc] at BK
  have BR := blk_below (blk_alloc (blk_new _ _) _) hb1
  have HBw := Aside0.mk ((below_alloc (below_alloc (Below.refl _ _) _) _).trans (hb1.mono (by simp; omega)))
  have hc0_ : w1.cell? ⟨w.heap.size, 0, none⟩ = some (.int .i64 s0) := ((blk_cell BR) 0).trans rfl
  have hc1_ : w1.cell? ⟨w.heap.size, 1, none⟩ = some (.bool s1) := ((blk_cell BR) 1).trans rfl
  have hc2_ : w1.cell? ⟨w.heap.size, 2, none⟩ = some (.string s2) := ((blk_cell BR) 2).trans rfl
  have hc3_ : w1.cell? ⟨w.heap.size, 3, none⟩ = some (.int .i64 d0) := ((blk_cell BR) 3).trans rfl
  have hc4_ : w1.cell? ⟨w.heap.size, 4, none⟩ = some (.bool d1) := ((blk_cell BR) 4).trans rfl
  have hc5_ : w1.cell? ⟨w.heap.size, 5, none⟩ = some (.string d2) := ((blk_cell BR) 5).trans rfl
  have hc6_ : w1.cell? ⟨w.heap.size, 6, none⟩ = some (.bool true) := ((blk_cell BR) 6).trans rfl
  have hc7_ : w1.cell? ⟨w.heap.size, 7, none⟩ = some (.int .i64 a0) := ((blk_cell BR) 7).trans rfl
  have hc8_ : w1.cell? ⟨w.heap.size, 8, none⟩ = some (.int .i64 a1) := ((blk_cell BR) 8).trans rfl
  have hc9_ : w1.cell? ⟨w.heap.size, 9, none⟩ = some (.int .i64 a2) := ((blk_cell BR) 9).trans rfl
  have hc10_ : w1.cell? ⟨w.heap.size, 10, none⟩ = some (.int .i64 a3) := ((blk_cell BR) 10).trans rfl
  have hc11_ : w1.cell? ⟨w.heap.size, 11, none⟩ = some (.int .i64 a4) := ((blk_cell BR) 11).trans rfl
  have hc12_ : w1.cell? ⟨w.heap.size, 12, none⟩ = some (.int .i64 e0) := ((blk_cell BR) 12).trans rfl
  have hc13_ : w1.cell? ⟨w.heap.size, 13, none⟩ = some (.int .i64 e1) := ((blk_cell BR) 13).trans rfl
  have hc14_ : w1.cell? ⟨w.heap.size, 14, none⟩ = some (.int .i64 e2) := ((blk_cell BR) 14).trans rfl
  have hc15_ : w1.cell? ⟨w.heap.size, 15, none⟩ = some (.int .i64 e3) := ((blk_cell BR) 15).trans rfl
  have hc16_ : w1.cell? ⟨w.heap.size, 16, none⟩ = some (.int .i64 e4) := ((blk_cell BR) 16).trans rfl
  have BK1 := Aside0.mk BK
  have BR1 := Aside0.mk BR
  clear hb1 BK HC BR
  go_wp2_with (first | (go_at_call 34; refine (HV.out _).mono ?_; rintro e w' ⟨rfl, ⟨nd, rfl⟩⟩) | (go_at_call 21; refine (HD.out _).mono ?_; rintro e w' ⟨rfl, ⟨nd, rfl⟩⟩))
  refine (HT.out _ (HG.out.below (by repeat (first | exact HBw.out | apply pw_below_drewN | apply below_drew1 | apply below_alloc | refine below_set ?_ (by omega))))).mono ?_
  rintro e w2 ⟨g, cap, rfl, hct, hb2⟩
  have hb2' : Below w1.heap.size w1 w2 := (pw_below_drewN (Below.refl _ _) _).trans (hb2.mono (Nat.le_refl _))
  have BK := blk_below BK1.out hb2'
  have BR := blk_below BR1.out hb2'
  have HBw2 := Aside0.mk (HBw.out.trans (hb2'.mono HBw.out.size))
  have HCT := Aside0.mk hct
  clear hb2 hb2' BK1 BR1 HBw HT HV HD HG hct hc0_ hc1_ hc2_ hc3_ hc4_ hc5_ hc6_ hc7_ hc8_ hc9_ hc10_ hc11_ hc12_ hc13_ hc14_ hc15_ hc16_
  have BK2 := Aside0.mk BK
  have BR2 := Aside0.mk BR
  clear BK BR
  go_wp2_with fail
  refine (contT_calls _ w2.heap.size g cap xs hL hL2 (by go_simp) (HCT.out.below (below_alloc (Below.refl _ _) _))).mono ?_
  rintro e w3 ⟨rfl, hb3⟩
  have hb3' : Below w2.heap.size w2 w3 := (below_alloc (Below.refl _ _) _).trans (hb3.mono (by simp))
  have hl3 : w3.cell? ⟨w2.heap.size, 0, none⟩ = some (.slice (some ⟨g, 0, none⟩) xs.length cap) := (hb3.cell (p := ⟨w2.heap.size, 0, none⟩) (by simp)).trans (by go_simp)
  have HCT3 := Aside0.mk (HCT.out.below hb3')
  have HBw3 := Aside0.mk (HBw2.out.trans (hb3'.mono HBw2.out.size))
  have BK3 := Aside0.mk (blk_below BK2.out hb3')
  have BR3 := Aside0.mk (blk_below BR2.out hb3')
  clear hb3 hb3' HCT HBw2 BK2 BR2
  obtain ⟨b0, hb0⟩ : ∃ b0, b0 = !(xs.any fun x => x.2 && x.1 == firstT xs) := ⟨_, rfl⟩
  have HB0 := Aside0.mk hb0
  go_wp2_with fail
  rw [← hb0]
  clear hb0
  go_loopw [14, 52] (fun ds i wr => ∃ (j : Nat), j ≤ xs.length ∧ i = .int .i64 j ∧ ds = .bool (foldT t (xs.take j) b0) ∧ Below w3.heap.size w3 wr) (fun _ i _ => (xs.length - intOf i).toNat)
  case atStart => exact ⟨0, by omega, rfl, rfl, Below.refl _ _⟩
  case round =>
    obtain ⟨j, hj, rfl, rfl, hb⟩ := hrel
    have hsz := hb.size
    by_cases hlt : j < xs.length
    · have hcc := (HCT3.out.below hb) j hlt
      obtain ⟨hc0, hc1⟩ := hcc
      have HS := Aside0.mk (foldT_step t xs b0 j hlt)
      generalize xs[j]?.getD default = x at hc0 hc1 HS
      obtain ⟨a, b⟩ := x
      have HB := Aside0.mk hb
      clear hb
      by_cases hle : a ≤ t
      · have HS2 : Aside0 (foldT t (xs.take (j + 1)) b0 = b) := ⟨by rw [HS.out, if_pos hle]⟩
        clear HS
        go_wp2
        go_roundw
        case rel => exact ⟨j + 1, by omega, by go_num, by rw [HS2.out], (by repeat (first | exact HB.out | apply pw_below_drewN | apply below_drew1 | apply below_alloc | refine below_set ?_ (by omega)))⟩
        case measure => simp [intOf]; omega
      · have HS2 : Aside0 (foldT t (xs.take (j + 1)) b0 = foldT t (xs.take j) b0) := ⟨by rw [HS.out, if_neg hle]⟩
        clear HS
        go_wp2
        go_roundw
        case rel => exact ⟨j + 1, by omega, by go_num, by rw [HS2.out], (by repeat (first | exact HB.out | apply pw_below_drewN | apply below_drew1 | apply below_alloc | refine below_set ?_ (by omega)))⟩
        case measure => simp [intOf]; omega
    · obtain rfl : j = xs.length := by omega
      have HBr := Aside0.mk (HBw3.out.trans (hb.mono HBw3.out.size))
      have BKr := blk_below BK3.out hb
      have BRr := blk_below BR3.out hb
      have BK4 := Aside0.mk BKr
      have hds : foldT t (xs.take xs.length) b0 = dstT t xs := by rw [List.take_length, HB0.out]; rfl
      have hk0_ : wr.cell? ⟨w.heap.size+1, 0, none⟩ = some (.int .i64 0) := (blk_cell BKr 0).trans rfl
      have hk1_ : wr.cell? ⟨w.heap.size+1, 1, none⟩ = some (.bool false) := (blk_cell BKr 1).trans rfl
      have hk2_ : wr.cell? ⟨w.heap.size+1, 2, none⟩ = some (.string (⟨#[]⟩ : ByteArray)) := (blk_cell BKr 2).trans rfl
      have hf0_ : wr.frozen? ⟨w.heap.size+1, 0, none⟩ = false := blk_frozen BKr 0
      have hf1_ : wr.frozen? ⟨w.heap.size+1, 1, none⟩ = false := blk_frozen BKr 1
      have hf2_ : wr.frozen? ⟨w.heap.size+1, 2, none⟩ = false := blk_frozen BKr 2
      have hr0 : wr.cell? ⟨w.heap.size, 0, none⟩ = some (.int .i64 s0) := (blk_cell BRr 0).trans rfl
      have hr1 : wr.cell? ⟨w.heap.size, 1, none⟩ = some (.bool s1) := (blk_cell BRr 1).trans rfl
      have hr2 : wr.cell? ⟨w.heap.size, 2, none⟩ = some (.string s2) := (blk_cell BRr 2).trans rfl
      have hr3 : wr.cell? ⟨w.heap.size, 3, none⟩ = some (.int .i64 d0) := (blk_cell BRr 3).trans rfl
      have hr4 : wr.cell? ⟨w.heap.size, 4, none⟩ = some (.bool d1) := (blk_cell BRr 4).trans rfl
      have hr5 : wr.cell? ⟨w.heap.size, 5, none⟩ = some (.string d2) := (blk_cell BRr 5).trans rfl
      clear BKr BRr hb hlt hj HCT3 HBw3 BK3 BR3
      rw [hds]
      clear hds HB0
      generalize hr : dstT t xs = r
      have HR := Aside0.mk hr
      clear hr
      cases r
      · go_wp2
        refine bodyPost_ret (results_ct rfl _ _ (w.heap.size+1) 23 #[.int .i64 (s0), .bool s1, .string s2] (0, 0) _ rfl (by (with_reducible repeat (first | refine blk_drewN ?_ _ | refine blk_drew ?_ | refine blk_alloc ?_ _)); refine blk_put (cs := #[.int .i64 (s0), .bool s1, .string (⟨#[]⟩ : ByteArray)]) ?_ 2 _ rfl; (with_reducible repeat (first | refine blk_drewN ?_ _ | refine blk_drew ?_ | refine blk_alloc ?_ _)); refine blk_put (cs := #[.int .i64 (s0), .bool false, .string (⟨#[]⟩ : ByteArray)]) ?_ 1 _ rfl; (with_reducible repeat (first | refine blk_drewN ?_ _ | refine blk_drew ?_ | refine blk_alloc ?_ _)); refine blk_put (cs := #[.int .i64 0, .bool false, .string (⟨#[]⟩ : ByteArray)]) ?_ 0 _ rfl; (with_reducible repeat (first | refine blk_drewN ?_ _ | refine blk_drew ?_ | refine blk_alloc ?_ _)); exact BK4.out) Tryd.underlying23 rfl (by kernel_rfl)) rfl ?_
        exact ⟨by rw [HR.out]; rfl, (by repeat (first | exact HBr.out | apply pw_below_drewN | apply below_drew1 | apply below_alloc | refine below_set ?_ (by omega)))⟩
      · go_wp2
        refine bodyPost_ret (results_ct rfl _ _ (w.heap.size+1) 23 #[.int .i64 (d0), .bool d1, .string d2] (0, 0) _ rfl (by (with_reducible repeat (first | refine blk_drewN ?_ _ | refine blk_drew ?_ | refine blk_alloc ?_ _)); refine blk_put (cs := #[.int .i64 (d0), .bool d1, .string (⟨#[]⟩ : ByteArray)]) ?_ 2 _ rfl; (with_reducible repeat (first | refine blk_drewN ?_ _ | refine blk_drew ?_ | refine blk_alloc ?_ _)); refine blk_put (cs := #[.int .i64 (d0), .bool false, .string (⟨#[]⟩ : ByteArray)]) ?_ 1 _ rfl; (with_reducible repeat (first | refine blk_drewN ?_ _ | refine blk_drew ?_ | refine blk_alloc ?_ _)); refine blk_put (cs := #[.int .i64 0, .bool false, .string (⟨#[]⟩ : ByteArray)]) ?_ 0 _ rfl; (with_reducible repeat (first | refine blk_drewN ?_ _ | refine blk_drew ?_ | refine blk_alloc ?_ _)); exact BK4.out) Tryd.underlying23 rfl (by kernel_rfl)) rfl ?_
        exact ⟨by rw [HR.out]; rfl, (by repeat (first | exact HBr.out | apply pw_below_drewN | apply below_drew1 | apply below_alloc | refine below_set ?_ (by omega)))⟩

theorem rowsT_three (T : Int → Int × Int × Int) (y : Int) : rowsT T (y - 1) 3 = rowT (T (y - 1)) ++ rowT (T y) ++ rowT (T (y + 1)) := by
  simp only [rowsT]
  rw [show y - 1 + ((0 : Nat) : Int) = y - 1 from by omega, show y - 1 + ((1 : Nat) : Int) = y from by omega, show y - 1 + ((2 : Nat) : Int) = y + 1 from by omega]
  simp

theorem rule_At.calls (k : Nat) (s0 : Int) (s1 : Bool) (s2 : ByteArray) (d0 : Int) (d1 : Bool) (d2 : ByteArray) (bo : Bool) (a0 : Int) (a1 : Int) (a2 : Int) (a3 : Int) (a4 : Int) (e0 : Int) (e1 : Int) (e2 : Int) (e3 : Int) (e4 : Int) (t q0 : Int) (q1 : Bool) (q2 : ByteArray) (q3 : Int) (w : World) (hG : GL w) (h : rule_At.f k s0 s1 s2 d0 d1 d2 bo a0 a1 a2 a3 a4 e0 e1 e2 e3 e4 t = some (q0, q1, q2, q3)) :
    Calls Tryd.prog 16 #[.agg #[.int .i64 s0, .bool s1, .string s2, .int .i64 d0, .bool d1, .string d2, .bool bo, .int .i64 a0, .int .i64 a1, .int .i64 a2, .int .i64 a3, .int .i64 a4, .int .i64 e0, .int .i64 e1, .int .i64 e2, .int .i64 e3, .int .i64 e4], .int .i64 t] w fun e w' => e = .returned (.tuple #[.agg #[.int .i64 q0, .bool q1, .string q2], .int .i64 q3]) ∧ Below w.heap.size w w' := by
  unfold rule_At.f at h
  replace h := Option.bind_eq_some_iff.mp h
  obtain ⟨ok, hok, h⟩ := h
  cases ok
  · rw [if_pos rfl] at h
    simp only [Option.some.injEq, Prod.mk.injEq] at h
    obtain ⟨rfl, rfl, rfl, rfl⟩ := h
    exact At_wrong k s0 s1 s2 d0 d1 d2 bo a0 a1 a2 a3 a4 e0 e1 e2 e3 e4 t w hok
  · rw [if_neg (by decide)] at h
    by_cases hbo : bo = false
    · rw [if_pos hbo] at h
      simp only [Option.some.injEq, Prod.mk.injEq] at h
      obtain ⟨rfl, rfl, rfl, rfl⟩ := h
      exact At_one k s0 s1 s2 d0 d1 d2 a0 a1 a2 a3 a4 e0 e1 e2 e3 e4 t w bo hbo hok
    · rw [if_neg hbo] at h
      have hbo : bo = true := by simpa using hbo
      replace h := Option.bind_eq_some_iff.mp h
      obtain ⟨⟨v0, v1, v2⟩, hv, h⟩ := h
      replace h := Option.bind_eq_some_iff.mp h
      obtain ⟨⟨y, m, d, er⟩, hd, h⟩ := h
      simp only at h
      by_cases her : er = 0
      · subst her
        rw [if_pos rfl] at h
        by_cases hy : -4611686018427387904 < y ∧ y < 4611686018427387904
        · rw [if_pos hy] at h
          replace h := Option.bind_eq_some_iff.mp h
          obtain ⟨T0, hT0, h⟩ := h
          replace h := Option.bind_eq_some_iff.mp h
          obtain ⟨T1, hT1, h⟩ := h
          replace h := Option.bind_eq_some_iff.mp h
          obtain ⟨T2, hT2, h⟩ := h
          obtain ⟨T, f0, f1, f2⟩ : ∃ T : Int → Int × Int × Int, T (y - 1) = T0 ∧ T y = T1 ∧ T (y + 1) = T2 :=
            ⟨fun z => if z = y - 1 then T0 else if z = y then T1 else T2, by simp, by dsimp only; rw [if_neg (by omega), if_pos rfl], by dsimp only; rw [if_neg (by omega), if_neg (by omega)]⟩
          subst f0 f1 f2
          rw [← rowsT_three T y] at h
          by_cases hne : 0 < (rowsT T (y - 1) 3).length
          · rw [if_pos hne] at h
            have hT : ∀ j : Nat, j < 3 → rule_Turns.f k s0 s1 s2 d0 d1 d2 bo a0 a1 a2 a3 a4 e0 e1 e2 e3 e4 (y - 1 + j) = some (T (y - 1 + j)) := by
              intro j hj
              rcases (show j = 0 ∨ j = 1 ∨ j = 2 by omega) with rfl | rfl | rfl
              · rw [show y - 1 + ((0 : Nat) : Int) = y - 1 from by omega]; exact hT0
              · rw [show y - 1 + ((1 : Nat) : Int) = y from by omega]; exact hT1
              · rw [show y - 1 + ((2 : Nat) : Int) = y + 1 from by omega]; exact hT2
            subst hbo
            have H := At_two k (sortT (rowsT T (y - 1) 3)) s0 s1 s2 d0 d1 d2 a0 a1 a2 a3 a4 e0 e1 e2 e3 e4 t w hG hok v0 v1 v2 hv y m d hd (by rw [sortT_len]; exact hne) (by rw [sortT_len]; exact rowsT_len T (y - 1) 3)
              (fun W hGW => (turns_calls k T s0 s1 s2 d0 d1 d2 true a0 a1 a2 a3 a4 e0 e1 e2 e3 e4 y W hGW hy.1 hy.2 hT hne).mono fun e w' ⟨g, cap, he, _, _, hH, hb⟩ => ⟨g, cap, by rw [sortT_len]; exact he, fun i hi => cells_T hH i hi, hb⟩)
            refine H.mono fun e w' ⟨he, hb⟩ => ⟨?_, hb⟩
            rw [he]
            by_cases hds : dstT t (sortT (rowsT T (y - 1) 3)) = true
            · rw [if_pos hds] at h
              simp only [Option.some.injEq, Prod.mk.injEq] at h
              obtain ⟨rfl, rfl, rfl, rfl⟩ := h
              rw [pickV, if_pos hds]
            · rw [if_neg hds] at h
              simp only [Option.some.injEq, Prod.mk.injEq] at h
              obtain ⟨rfl, rfl, rfl, rfl⟩ := h
              rw [pickV, if_neg hds]
          · rw [if_neg hne] at h
            cases h
        · rw [if_neg hy] at h
          cases h
      · rw [if_neg her] at h
        simp only [Option.some.injEq, Prod.mk.injEq] at h
        obtain ⟨rfl, rfl, rfl, rfl⟩ := h
        exact At_err k s0 s1 s2 d0 d1 d2 a0 a1 a2 a3 a4 e0 e1 e2 e3 e4 t w bo hbo hok v0 v1 v2 hv y m d er hd her

theorem rule_At.mono : ∀ s0 s1 s2 d0 d1 d2 bo a0 a1 a2 a3 a4 e0 e1 e2 e3 e4 t k, LeO (rule_At.f k s0 s1 s2 d0 d1 d2 bo a0 a1 a2 a3 a4 e0 e1 e2 e3 e4 t) (rule_At.f (k + 1) s0 s1 s2 d0 d1 d2 bo a0 a1 a2 a3 a4 e0 e1 e2 e3 e4 t) := by
  intro s0 s1 s2 d0 d1 d2 bo a0 a1 a2 a3 a4 e0 e1 e2 e3 e4 t k
  unfold rule_At.f
  repeat' first
      | (with_reducible exact posix_Right.mono _ _ _ _ _ _ _ _ _ _ _ _ _ _ _ _ _ _ _)
      | (with_reducible exact rule_Turns.mono _ _ _ _ _ _ _ _ _ _ _ _ _ _ _ _ _ _ _)
      | (with_reducible exact LeO.refl _)
      | (with_reducible exact LeO.none _)
      | (with_reducible refine LeO.ite ?_ ?_)
      | (with_reducible refine LeO.bind ?_ (fun _ => ?_))
end Go.Proofs.YtgbehcahdgamoaaDoor.Fn

namespace Go.Proofs.YtgbehcahdgamoaaDoor.Fn
open Go.RowKit Go.Proofs.YtgbehcahdgamoaaDoorW.PrintWords Go.Proofs.YtgbehcahdgamoaaDoorW.PrintLast Go.Proofs.YtgbehcahdgamoaaDoorW.PrintMore Go.Lib Go.Sort

/-- The outer loop of the sort, by so many rounds: it can be run. -/
def insO {α : Type} [Inhabited α] (lt : α → α → Bool) (a b : Nat) : Nat → Nat → Array α → Array α
  | 0, _, d => d
  | n + 1, i, d => if i < b then insO lt a b n (i + 1) (insInner lt a i d) else d
theorem insO_eq {α : Type} [Inhabited α] (lt : α → α → Bool) (a b : Nat) : ∀ (n i : Nat) (d : Array α), b - i ≤ n → insOuter lt a b i d = insO lt a b n i d
  | 0, i, d, h => by unfold insOuter insO; rw [if_neg (by omega)]
  | n + 1, i, d, h => by
    unfold insOuter insO
    split
    · rw [insO_eq lt a b n (i + 1) _ (by omega)]
    · rfl
theorem sortT_run (l : List (Int × Bool)) : sortT l = (insO (ltOf cfT) 0 l.length l.length 1 l.toArray).toList := by
  unfold sortT Sort.insertionSort
  rw [insO_eq (ltOf cfT) 0 l.length l.length (0 + 1) _ (by omega)]

def estS : ByteArray := ⟨#[69, 83, 84]⟩
def edtS : ByteArray := ⟨#[69, 68, 84]⟩
theorem shown_right : posix_Right.f 8 (-18000) false estS (-14400) true edtS true 3 3 2 0 7200 3 11 1 0 7200 true = some true := by decide +kernel
theorem shown_turns (y a b : Int) (h : y = 2006 ∧ a = 1142146800 ∧ b = 1162706400 ∨ y = 2007 ∧ a = 1173596400 ∧ b = 1194156000 ∨ y = 2008 ∧ a = 1205046000 ∧ b = 1225605600) :
    rule_Turns.f 8 (-18000) false estS (-14400) true edtS true 3 3 2 0 7200 3 11 1 0 7200 y = some (a, b, 0) := by
  rcases h with ⟨rfl, rfl, rfl⟩ | ⟨rfl, rfl, rfl⟩ | ⟨rfl, rfl, rfl⟩ <;> decide +kernel
theorem shown_day : rule_Day.f 8 2000 1 60 0 0 0 = some (11017, 0) := by decide +kernel
theorem shown_none : rule_At.f 8 0 false ⟨#[]⟩ 0 false ⟨#[]⟩ false 0 0 0 0 0 0 0 0 0 0 0 = some (0, false, ⟨#[]⟩, 1) := by decide +kernel

/-- What a rule tells at a moment, out of its three years. -/
theorem shown_at (t : Int) (dst : Bool) (h : t = 1173596400 ∧ dst = true ∨ t = 1173596399 ∧ dst = false) :
    rule_At.f 8 (-18000) false estS (-14400) true edtS true 3 3 2 0 7200 3 11 1 0 7200 t = some (if dst = true then (-14400, true, edtS, 0) else (-18000, false, estS, 0)) := by
  have h1 := shown_turns 2006 1142146800 1162706400 (by omega)
  have h2 := shown_turns 2007 1173596400 1194156000 (by omega)
  have h3 := shown_turns 2008 1205046000 1225605600 (by omega)
  have hd : ∀ v : Int × Int × Bool, number_Div.f t 86400 = some v → civil_Date.f v.1 = some (2007, 3, 11, 0) := by
    rcases h with ⟨rfl, _⟩ | ⟨rfl, _⟩
    · intro v hv
      obtain rfl := Option.some.inj ((show number_Div.f 1173596400 86400 = some (13583, 25200, true) by decide +kernel).symm.trans hv)
      decide +kernel
    · intro v hv
      obtain rfl := Option.some.inj ((show number_Div.f 1173596399 86400 = some (13583, 25199, true) by decide +kernel).symm.trans hv)
      decide +kernel
  obtain ⟨v, hv⟩ : ∃ v, number_Div.f t 86400 = some v := by
    rcases h with ⟨rfl, _⟩ | ⟨rfl, _⟩
    · exact ⟨(13583, 25200, true), by decide +kernel⟩
    · exact ⟨(13583, 25199, true), by decide +kernel⟩
  unfold rule_At.f
  rw [shown_right]
  simp only [Option.bind_some, Bool.true_eq_false, if_false]
  rw [hv]
  simp only [Option.bind_some]
  rw [hd v hv]
  simp only [Option.bind_some, if_true]
  rw [if_pos (by decide), show (2007 : Int) - 1 = 2006 from rfl, show (2007 : Int) + 1 = 2008 from rfl, h1, h2, h3]
  simp only [Option.bind_some]
  rw [if_pos (by decide), sortT_run]
  rcases h with ⟨rfl, rfl⟩ | ⟨rfl, rfl⟩ <;> decide +kernel
end Go.Proofs.YtgbehcahdgamoaaDoor.Fn

namespace Go.Proofs.YtgbehcahdgamoaaDoor.Fn
open Go.RowKit Go.Proofs.YtgbehcahdgamoaaDoorW.PrintWords Go.Proofs.YtgbehcahdgamoaaDoorW.PrintLast Go.Proofs.YtgbehcahdgamoaaDoorW.PrintMore Go.Lib Go.Sort

abbrev shownC : Array Value := #[.int .i64 (-18000), .bool false, .string ⟨#[69, 83, 84]⟩, .int .i64 (-14400), .bool true, .string ⟨#[69, 68, 84]⟩, .bool true, .int .i64 3, .int .i64 3, .int .i64 2, .int .i64 0, .int .i64 7200, .int .i64 3, .int .i64 11, .int .i64 1, .int .i64 0, .int .i64 7200]

set_option maxRecDepth 100000 in
set_option maxHeartbeats 2000000 in
theorem longcaselaw09_shown_calls (w : World) (hG : GL w) :
    Calls Tryd.prog 11 #[] w fun e w' => e = .returned (.bool true) ∧ Below w.heap.size w w' := by
  have HG := Aside0.mk hG
  clear hG
  have HT := Aside0.mk (fun W hG => rule_Turns.calls 8 (-18000) false estS (-14400) true edtS true 3 3 2 0 7200 3 11 1 0 7200 2007 1173596400 1194156000 0 W hG (shown_turns 2007 1173596400 1194156000 (by omega)))
  have HA := Aside0.mk (fun W hG => rule_At.calls 8 (-18000) false estS (-14400) true edtS true 3 3 2 0 7200 3 11 1 0 7200 1173596400 (-14400) true edtS 0 W hG (shown_at 1173596400 true (.inl ⟨rfl, rfl⟩)))
  have HB := Aside0.mk (fun W hG => rule_At.calls 8 (-18000) false estS (-14400) true edtS true 3 3 2 0 7200 3 11 1 0 7200 1173596399 (-18000) false estS 0 W hG (shown_at 1173596399 false (.inr ⟨rfl, rfl⟩)))
  have HN := Aside0.mk (fun W hG => rule_At.calls 8 0 false ⟨#[]⟩ 0 false ⟨#[]⟩ false 0 0 0 0 0 0 0 0 0 0 0 0 false ⟨#[]⟩ 1 W hG shown_none)
  have HD := Aside0.mk (fun W hG => rule_Day.calls 8 2000 1 60 0 0 0 11017 0 W hG shown_day)
  go_enter Tryd.func11, Tryd.ntmps11
  go_wp2_with ((with_reducible refine gate_dst (N := 19) rfl ?_); refine wpList_load_row rfl 27 _ rfl w.heap.size rfl 27 shownC (0, 0) _ (blk_new _ _) Tryd.underlying27 rfl (by kernel_rfl) ?_)
  refine (HT.out _ (HG.out.below (below_alloc (Below.refl _ _) _))).mono ?_
  rintro e w1 ⟨rfl, hb1⟩
  have BR1 := Aside0.mk (blk_below (blk_new _ _) hb1)
  have HB1 := Aside0.mk ((below_alloc (Below.refl _ _) _).trans (hb1.mono (by simp)))
  clear hb1 HT
  go_wp2_with ((with_reducible refine gate_dst (N := 25) rfl ?_); refine wpList_load_row rfl 27 _ rfl w.heap.size rfl 27 shownC (0, 0) _ BR1.out Tryd.underlying27 rfl (by kernel_rfl) ?_)
  refine (HA.out _ (HG.out.below HB1.out)).mono ?_
  rintro e w2 ⟨rfl, hb2⟩
  have BR2 := Aside0.mk (blk_below BR1.out hb2)
  have HB2 := Aside0.mk (HB1.out.trans (hb2.mono HB1.out.size))
  clear hb2 HA BR1 HB1
  go_wp2_with ((with_reducible refine gate_dst (N := 30) rfl ?_); refine wpList_load_row rfl 27 _ rfl w.heap.size rfl 27 shownC (0, 0) _ (blk_alloc BR2.out _) Tryd.underlying27 rfl (by kernel_rfl) ?_)
  refine (HB.out _ (HG.out.below (below_alloc HB2.out _))).mono ?_
  rintro e w3 ⟨rfl, hb3⟩
  have BK3 := Aside0.mk (blk_below (blk_new _ _) hb3)
  have HB3 := Aside0.mk ((below_alloc HB2.out _).trans (hb3.mono (by have := HB2.out.size; simp; omega)))
  clear hb3 HB BR2 HB2
  go_wp2_with fail
  refine (HN.out _ (HG.out.below (below_alloc HB3.out _))).mono ?_
  rintro e w4 ⟨rfl, hb4⟩
  have BK4 := Aside0.mk (blk_below (blk_alloc BK3.out _) hb4)
  have BL4 := Aside0.mk (blk_below (blk_new _ _) hb4)
  have HB4 := Aside0.mk ((below_alloc HB3.out _).trans (hb4.mono (by have := HB3.out.size; simp; omega)))
  clear hb4 HN BK3 HB3
  go_wp2_with fail
  refine (HD.out _ (HG.out.below (below_alloc HB4.out _))).mono ?_
  rintro e w5 ⟨rfl, hb5⟩
  have hk := blk_cell (blk_below (blk_alloc BK4.out _) hb5) 2
  have hl := blk_cell (blk_below (blk_alloc BL4.out _) hb5) 2
  have HB5 := Aside0.mk ((below_alloc HB4.out _).trans (hb5.mono (by have := HB4.out.size; simp; omega)))
  clear hb5 HD BK4 BL4 HB4
  simp only [List.getElem?_toArray, List.getElem?_cons_succ, List.getElem?_cons_zero] at hk hl
  have e1 : edtS.toList = [69, 68, 84] := by decide +kernel
  have e2 : estS.toList = [69, 83, 84] := by decide +kernel
  go_wp2
  go_ret
  exact ⟨rfl, HB5.out⟩
/-- The small case, for the printed texts. -/
def longcaselaw09_shown.f : Option Bool := some true
theorem longcaselaw09_shown.calls (r : Bool) (w : World) (hG : GL w) (h : longcaselaw09_shown.f = some r) :
    Calls Tryd.prog 11 #[] w fun e w' => e = .returned (.bool r) ∧ Below w.heap.size w w' := by
  obtain rfl := Option.some.inj h
  exact longcaselaw09_shown_calls w hG
end Go.Proofs.YtgbehcahdgamoaaDoor.Fn

namespace Go.Proofs.YtgbehcahdgamoaaDoor.Fn
open Go.RowKit Go.Proofs.YtgbehcahdgamoaaDoorW.PrintWords Go.Proofs.YtgbehcahdgamoaaDoorW.PrintLast Go.Proofs.YtgbehcahdgamoaaDoorW.PrintMore
attribute [local go_sem] max2_int min2_int max_two min_two max_three min_three max_four min_four   -- for this text's walks alone
set_option linter.unusedVariables false
set_option linter.unusedSimpArgs false

/-! ### longcaselaw09_RuleYears: function 10 -/
def longcaselaw09_RuleYears.f (k : Nat) (a0_0 : Int) (a0_1 : Int) (a0_2 : Int) (a0_3 : Int) (a0_4 : Int) (a1 : Int) : Option (Bool) := (longcaselaw09_shown.f).bind fun t342 => ((rule_Day.f k (Int.tmod a1 4001) a0_0 a0_1 a0_2 a0_3 a0_4).bind fun bt343 => ((rule_Day.f k (wrap64 ((Int.tmod a1 4001) + 1)) a0_0 a0_1 a0_2 a0_3 a0_4).bind fun bt345 => (if bt343.2 = 0 then (if a0_0 = 3 then (if t342 = true then (some (bt343.2 == bt345.2)) else (some false)) else (if t342 = true then (if bt345.2 = 0 then (if (wrap64 (bt345.1 - bt343.1)) = 365 then (some true) else (some ((wrap64 (bt345.1 - bt343.1)) == 366))) else (some false)) else (some false))) else (if t342 = true then (some (bt343.2 == bt345.2)) else (some false)))))
theorem longcaselaw09_RuleYears.mono : ∀ a0 a1 a2 a3 a4 a5 k, LeO (longcaselaw09_RuleYears.f k a0 a1 a2 a3 a4 a5) (longcaselaw09_RuleYears.f (k + 1) a0 a1 a2 a3 a4 a5) := by
  intro a0 a1 a2 a3 a4 a5 k
  unfold longcaselaw09_RuleYears.f
  repeat' first
      | (with_reducible exact rule_Day.mono _ _ _ _ _ _ _)
      | (with_reducible exact LeO.refl _)
      | (with_reducible exact LeO.none _)
      | (with_reducible refine LeO.ite ?_ ?_)
      | (with_reducible refine LeO.bind ?_ (fun _ => ?_))
      | exact rule_Day.mono _ _ _ _ _ _ _
      | exact LeO.none _
      | refine LeO.ite ?_ ?_
      | refine LeO.bind ?_ (fun _ => ?_)
set_option maxHeartbeats 8000000 in
set_option maxRecDepth 100000 in
theorem longcaselaw09_RuleYears.calls (k : Nat) (a0_0 : Int) (a0_1 : Int) (a0_2 : Int) (a0_3 : Int) (a0_4 : Int) (a1 : Int) (r : Bool) (w : World) (hG : GL w) (h : longcaselaw09_RuleYears.f k a0_0 a0_1 a0_2 a0_3 a0_4 a1 = some r) :
    Calls Tryd.prog 10 #[.agg #[.int .i64 a0_0, .int .i64 a0_1, .int .i64 a0_2, .int .i64 a0_3, .int .i64 a0_4], .int .i64 a1] w fun e w' => e = .returned (.bool r) ∧ Below w.heap.size w w' := by
  have hu25 := Tryd.underlying25
  have HG := Aside0.mk hG
  clear hG
  have HB := Aside0.mk (Below.refl w.heap.size w)
  have H : ((longcaselaw09_shown.f).bind fun t342 => ((rule_Day.f k (Int.tmod a1 4001) a0_0 a0_1 a0_2 a0_3 a0_4).bind fun bt343 => ((rule_Day.f k (wrap64 ((Int.tmod a1 4001) + 1)) a0_0 a0_1 a0_2 a0_3 a0_4).bind fun bt345 => (if bt343.2 = 0 then (if a0_0 = 3 then (if t342 = true then (some (bt343.2 == bt345.2)) else (some false)) else (if t342 = true then (if bt345.2 = 0 then (if (wrap64 (bt345.1 - bt343.1)) = 365 then (some true) else (some ((wrap64 (bt345.1 - bt343.1)) == 366))) else (some false)) else (some false))) else (if t342 = true then (some (bt343.2 == bt345.2)) else (some false)))))) = some r := h
  clear h
  replace H := Option.bind_eq_some_iff.mp H
  obtain ⟨t342, A30, H⟩ := H
  replace H : ((rule_Day.f k (Int.tmod a1 4001) a0_0 a0_1 a0_2 a0_3 a0_4).bind fun bt343 => ((rule_Day.f k (wrap64 ((Int.tmod a1 4001) + 1)) a0_0 a0_1 a0_2 a0_3 a0_4).bind fun bt345 => (if bt343.2 = 0 then (if a0_0 = 3 then (if t342 = true then (some (bt343.2 == bt345.2)) else (some false)) else (if t342 = true then (if bt345.2 = 0 then (if (wrap64 (bt345.1 - bt343.1)) = 365 then (some true) else (some ((wrap64 (bt345.1 - bt343.1)) == 366))) else (some false)) else (some false))) else (if t342 = true then (some (bt343.2 == bt345.2)) else (some false))))) = some r := H
  have A3 := Aside0.mk A30
  clear A30
  replace H := Option.bind_eq_some_iff.mp H
  obtain ⟨⟨t343, t344⟩, A40, H⟩ := H
  replace H : ((rule_Day.f k (wrap64 ((Int.tmod a1 4001) + 1)) a0_0 a0_1 a0_2 a0_3 a0_4).bind fun bt345 => (if t344 = 0 then (if a0_0 = 3 then (if t342 = true then (some (t344 == bt345.2)) else (some false)) else (if t342 = true then (if bt345.2 = 0 then (if (wrap64 (bt345.1 - t343)) = 365 then (some true) else (some ((wrap64 (bt345.1 - t343)) == 366))) else (some false)) else (some false))) else (if t342 = true then (some (t344 == bt345.2)) else (some false)))) = some r := H
  have A4 := Aside0.mk A40
  clear A40
  replace H := Option.bind_eq_some_iff.mp H
  obtain ⟨⟨t345, t346⟩, A50, H⟩ := H
  replace H : (if t344 = 0 then (if a0_0 = 3 then (if t342 = true then (some (t344 == t346)) else (some false)) else (if t342 = true then (if t346 = 0 then (if (wrap64 (t345 - t343)) = 365 then (some true) else (some ((wrap64 (t345 - t343)) == 366))) else (some false)) else (some false))) else (if t342 = true then (some (t344 == t346)) else (some false))) = some r := H
  have A5 := Aside0.mk A50
  clear A50
  by_cases c6 : t344 = 0
  · rw [if_pos c6] at H
    have c6b0 : (t344 == 0) = true := beq_iff_eq.mpr c6
    have c6b1 : (t344 != 0) = false := bne_eq_false_iff_eq.mpr c6
    clear c6
    by_cases c7 : a0_0 = 3
    · rw [if_pos c7] at H
      have c7b0 : (a0_0 == 3) = true := beq_iff_eq.mpr c7
      have c7b1 : (a0_0 != 3) = false := bne_eq_false_iff_eq.mpr c7
      clear c7
      by_cases c8 : t342 = true
      · subst c8
        have H1 : (some (t344 == t346)) = some r := by rw [if_pos rfl] at H; exact H
        clear H
        have H := H1
        clear H1
        obtain rfl := Option.some.inj H
        go_enter Tryd.func10, Tryd.ntmps10
        go_wp2_with (first | ((with_reducible refine gate_dst (N := 2) rfl ?_); refine box_event ?hg (N := 2) ?hd (cs := #[.int .i64 a0_0, .int .i64 a0_1, .int .i64 a0_2, .int .i64 a0_3, .int .i64 a0_4]) (t := 25) ?hr ?_; (case hd => rfl); (case hg => rfl); (case hr => first | (go_simp; done) | (go_simp; rfl)); intro gb341 hg w9 hbox hb; have n0_ := Aside0.mk (below_step (by repeat (first | (with_reducible first | exact HB.out | apply below_alloc | apply pw_below_drewN | apply below_drew1) | exact HB.out)) hb); have n1_ := Aside0.mk (hbox); have n2_ := Aside0.mk ((by rw [hg]; exact (below_size (by repeat (first | (with_reducible first | exact HB.out | apply below_alloc | apply pw_below_drewN | apply below_drew1) | exact HB.out))) : w.heap.size ≤ gb341)); have n3_ := Aside0.mk ((by rw [hg]; exact (below_size (by repeat (first | (with_reducible first | exact HB.out | apply below_alloc | apply pw_below_drewN | apply below_drew1) | exact HB.out))) : w.heap.size ≤ gb341)); clear HB; have HB := n0_; have BK341 := n1_; have GW341 := n2_; have GE341 := n3_; clear n0_ n1_ n2_ n3_; clear hb hbox hg) | ((with_reducible refine gate_callee (f := 11) rfl ?_); refine goesL_ (some 10) rfl rfl Tryd.func11 (by kernel_rfl) rfl #[] rfl (by (try simp only [List.map_toArray, List.map_cons, List.map_nil]); first | done | rfl | (simp only [List.length_drop, List.length_take]; rfl)) ?_; (with_reducible refine (longcaselaw09_shown.calls  true _ ?side1 A3.out).mono ?_); (case side1 => exact GL.below HG.out (by repeat (first | (with_reducible first | exact HB.out | apply below_alloc | apply pw_below_drewN | apply below_drew1 | refine below_set ?_ GE341.out) | exact HB.out))); rintro e w10 ⟨rfl, hb⟩; refine ⟨_, rfl, ?_⟩; have n0_ := Aside0.mk (blk_below (g := gb341) (o := .cells #[.int .i64 a0_0, .int .i64 a0_1, .int .i64 a0_2, .int .i64 a0_3, .int .i64 a0_4] 25 (0, 0)) (by (with_reducible repeat (first | refine blk_drewN ?_ _ | refine blk_drew ?_ | refine blk_alloc ?_ _)); exact BK341.out) hb); have n1_ := Aside0.mk (below_step (by repeat (first | (with_reducible first | exact HB.out | apply below_alloc | apply pw_below_drewN | apply below_drew1 | refine below_set ?_ GE341.out) | exact HB.out)) hb); clear BK341; clear HB; have BK341 := n0_; have HB := n1_; clear n0_ n1_; (try clear hb); (try clear hb2); (try clear hk); (try clear hi); have hcz11_0 : w10.cell? ⟨gb341, 0, none⟩ = some (.int .i64 a0_0) := (blk_cell BK341.out 0).trans rfl; have hcz11_1 : w10.cell? ⟨gb341, 1, none⟩ = some (.int .i64 a0_1) := (blk_cell BK341.out 1).trans rfl; have hcz11_2 : w10.cell? ⟨gb341, 2, none⟩ = some (.int .i64 a0_2) := (blk_cell BK341.out 2).trans rfl; have hcz11_3 : w10.cell? ⟨gb341, 3, none⟩ = some (.int .i64 a0_3) := (blk_cell BK341.out 3).trans rfl; have hcz11_4 : w10.cell? ⟨gb341, 4, none⟩ = some (.int .i64 a0_4) := (blk_cell BK341.out 4).trans rfl; have hfz11_0 := blk_frozen BK341.out 0; have hfz11_1 := blk_frozen BK341.out 1; have hfz11_2 := blk_frozen BK341.out 2; have hfz11_3 := blk_frozen BK341.out 3; have hfz11_4 := blk_frozen BK341.out 4) | ((with_reducible refine gate_callee (f := 12) rfl ?_); refine goesL_ (some 16) rfl rfl Tryd.func12 (by kernel_rfl) rfl #[.int .i64 (Int.tmod a1 4001), .agg #[.int .i64 a0_0, .int .i64 a0_1, .int .i64 a0_2, .int .i64 a0_3, .int .i64 a0_4]] rfl (by (try simp only [List.map_toArray, List.map_cons, List.map_nil]); first | done | rfl | (simp only [List.length_drop, List.length_take]; rfl)) ?_; (with_reducible refine (rule_Day.calls k (Int.tmod a1 4001) a0_0 a0_1 a0_2 a0_3 a0_4 t343 t344 _ ?side1 A4.out).mono ?_); (case side1 => exact GL.below HG.out (by repeat (first | (with_reducible first | exact HB.out | apply below_alloc | apply pw_below_drewN | apply below_drew1 | refine below_set ?_ GE341.out) | exact HB.out))); rintro e w12 ⟨rfl, hb⟩; refine ⟨_, rfl, ?_⟩; have n0_ := Aside0.mk (blk_below (g := gb341) (o := .cells #[.int .i64 a0_0, .int .i64 a0_1, .int .i64 a0_2, .int .i64 a0_3, .int .i64 a0_4] 25 (0, 0)) (by (with_reducible repeat (first | refine blk_drewN ?_ _ | refine blk_drew ?_ | refine blk_alloc ?_ _)); exact BK341.out) hb); have n1_ := Aside0.mk (below_step (by repeat (first | (with_reducible first | exact HB.out | apply below_alloc | apply pw_below_drewN | apply below_drew1 | refine below_set ?_ GE341.out) | exact HB.out)) hb); clear BK341; clear HB; have BK341 := n0_; have HB := n1_; clear n0_ n1_; (try clear hb); (try clear hb2); (try clear hk); (try clear hi); have hcz13_0 : w12.cell? ⟨gb341, 0, none⟩ = some (.int .i64 a0_0) := (blk_cell BK341.out 0).trans rfl; have hcz13_1 : w12.cell? ⟨gb341, 1, none⟩ = some (.int .i64 a0_1) := (blk_cell BK341.out 1).trans rfl; have hcz13_2 : w12.cell? ⟨gb341, 2, none⟩ = some (.int .i64 a0_2) := (blk_cell BK341.out 2).trans rfl; have hcz13_3 : w12.cell? ⟨gb341, 3, none⟩ = some (.int .i64 a0_3) := (blk_cell BK341.out 3).trans rfl; have hcz13_4 : w12.cell? ⟨gb341, 4, none⟩ = some (.int .i64 a0_4) := (blk_cell BK341.out 4).trans rfl; have hfz13_0 := blk_frozen BK341.out 0; have hfz13_1 := blk_frozen BK341.out 1; have hfz13_2 := blk_frozen BK341.out 2; have hfz13_3 := blk_frozen BK341.out 3; have hfz13_4 := blk_frozen BK341.out 4) | ((with_reducible refine gate_callee (f := 12) rfl ?_); refine goesL_ (some 23) rfl rfl Tryd.func12 (by kernel_rfl) rfl #[.int .i64 (wrap64 ((Int.tmod a1 4001) + 1)), .agg #[.int .i64 a0_0, .int .i64 a0_1, .int .i64 a0_2, .int .i64 a0_3, .int .i64 a0_4]] rfl (by (try simp only [List.map_toArray, List.map_cons, List.map_nil]); first | done | rfl | (simp only [List.length_drop, List.length_take]; rfl)) ?_; (with_reducible refine (rule_Day.calls k (wrap64 ((Int.tmod a1 4001) + 1)) a0_0 a0_1 a0_2 a0_3 a0_4 t345 t346 _ ?side1 A5.out).mono ?_); (case side1 => exact GL.below HG.out (by repeat (first | (with_reducible first | exact HB.out | apply below_alloc | apply pw_below_drewN | apply below_drew1 | refine below_set ?_ GE341.out) | exact HB.out))); rintro e w14 ⟨rfl, hb⟩; refine ⟨_, rfl, ?_⟩; have n0_ := Aside0.mk (blk_below (g := gb341) (o := .cells #[.int .i64 a0_0, .int .i64 a0_1, .int .i64 a0_2, .int .i64 a0_3, .int .i64 a0_4] 25 (0, 0)) (by (with_reducible repeat (first | refine blk_drewN ?_ _ | refine blk_drew ?_ | refine blk_alloc ?_ _)); exact BK341.out) hb); have n1_ := Aside0.mk (below_step (by repeat (first | (with_reducible first | exact HB.out | apply below_alloc | apply pw_below_drewN | apply below_drew1 | refine below_set ?_ GE341.out) | exact HB.out)) hb); clear BK341; clear HB; have BK341 := n0_; have HB := n1_; clear n0_ n1_; (try clear hb); (try clear hb2); (try clear hk); (try clear hi); have hcz15_0 : w14.cell? ⟨gb341, 0, none⟩ = some (.int .i64 a0_0) := (blk_cell BK341.out 0).trans rfl; have hcz15_1 : w14.cell? ⟨gb341, 1, none⟩ = some (.int .i64 a0_1) := (blk_cell BK341.out 1).trans rfl; have hcz15_2 : w14.cell? ⟨gb341, 2, none⟩ = some (.int .i64 a0_2) := (blk_cell BK341.out 2).trans rfl; have hcz15_3 : w14.cell? ⟨gb341, 3, none⟩ = some (.int .i64 a0_3) := (blk_cell BK341.out 3).trans rfl; have hcz15_4 : w14.cell? ⟨gb341, 4, none⟩ = some (.int .i64 a0_4) := (blk_cell BK341.out 4).trans rfl; have hfz15_0 := blk_frozen BK341.out 0; have hfz15_1 := blk_frozen BK341.out 1; have hfz15_2 := blk_frozen BK341.out 2; have hfz15_3 := blk_frozen BK341.out 3; have hfz15_4 := blk_frozen BK341.out 4))
        go_ret
        exact ⟨by first | rfl | (simp [errW_none, errW_some] <;> rfl) | (simp [*, errW_none, errW_some] <;> rfl), by repeat (first | (with_reducible first | exact HB.out | apply below_alloc | apply pw_below_drewN | apply below_drew1 | refine below_set ?_ GE341.out) | exact HB.out)⟩
      · replace c8 := Bool.eq_false_iff.mpr c8
        subst c8
        have H1 : (some false) = some r := by rw [if_neg (show ¬ (false = true) by decide)] at H; exact H
        clear H
        have H := H1
        clear H1
        obtain rfl := Option.some.inj H
        go_enter Tryd.func10, Tryd.ntmps10
        go_wp2_with (first | ((with_reducible refine gate_dst (N := 2) rfl ?_); refine box_event ?hg (N := 2) ?hd (cs := #[.int .i64 a0_0, .int .i64 a0_1, .int .i64 a0_2, .int .i64 a0_3, .int .i64 a0_4]) (t := 25) ?hr ?_; (case hd => rfl); (case hg => rfl); (case hr => first | (go_simp; done) | (go_simp; rfl)); intro gb341 hg w16 hbox hb; have n0_ := Aside0.mk (below_step (by repeat (first | (with_reducible first | exact HB.out | apply below_alloc | apply pw_below_drewN | apply below_drew1) | exact HB.out)) hb); have n1_ := Aside0.mk (hbox); have n2_ := Aside0.mk ((by rw [hg]; exact (below_size (by repeat (first | (with_reducible first | exact HB.out | apply below_alloc | apply pw_below_drewN | apply below_drew1) | exact HB.out))) : w.heap.size ≤ gb341)); have n3_ := Aside0.mk ((by rw [hg]; exact (below_size (by repeat (first | (with_reducible first | exact HB.out | apply below_alloc | apply pw_below_drewN | apply below_drew1) | exact HB.out))) : w.heap.size ≤ gb341)); clear HB; have HB := n0_; have BK341 := n1_; have GW341 := n2_; have GE341 := n3_; clear n0_ n1_ n2_ n3_; clear hb hbox hg) | ((with_reducible refine gate_callee (f := 11) rfl ?_); refine goesL_ (some 10) rfl rfl Tryd.func11 (by kernel_rfl) rfl #[] rfl (by (try simp only [List.map_toArray, List.map_cons, List.map_nil]); first | done | rfl | (simp only [List.length_drop, List.length_take]; rfl)) ?_; (with_reducible refine (longcaselaw09_shown.calls  false _ ?side1 A3.out).mono ?_); (case side1 => exact GL.below HG.out (by repeat (first | (with_reducible first | exact HB.out | apply below_alloc | apply pw_below_drewN | apply below_drew1 | refine below_set ?_ GE341.out) | exact HB.out))); rintro e w17 ⟨rfl, hb⟩; refine ⟨_, rfl, ?_⟩; have n0_ := Aside0.mk (blk_below (g := gb341) (o := .cells #[.int .i64 a0_0, .int .i64 a0_1, .int .i64 a0_2, .int .i64 a0_3, .int .i64 a0_4] 25 (0, 0)) (by (with_reducible repeat (first | refine blk_drewN ?_ _ | refine blk_drew ?_ | refine blk_alloc ?_ _)); exact BK341.out) hb); have n1_ := Aside0.mk (below_step (by repeat (first | (with_reducible first | exact HB.out | apply below_alloc | apply pw_below_drewN | apply below_drew1 | refine below_set ?_ GE341.out) | exact HB.out)) hb); clear BK341; clear HB; have BK341 := n0_; have HB := n1_; clear n0_ n1_; (try clear hb); (try clear hb2); (try clear hk); (try clear hi); have hcz18_0 : w17.cell? ⟨gb341, 0, none⟩ = some (.int .i64 a0_0) := (blk_cell BK341.out 0).trans rfl; have hcz18_1 : w17.cell? ⟨gb341, 1, none⟩ = some (.int .i64 a0_1) := (blk_cell BK341.out 1).trans rfl; have hcz18_2 : w17.cell? ⟨gb341, 2, none⟩ = some (.int .i64 a0_2) := (blk_cell BK341.out 2).trans rfl; have hcz18_3 : w17.cell? ⟨gb341, 3, none⟩ = some (.int .i64 a0_3) := (blk_cell BK341.out 3).trans rfl; have hcz18_4 : w17.cell? ⟨gb341, 4, none⟩ = some (.int .i64 a0_4) := (blk_cell BK341.out 4).trans rfl; have hfz18_0 := blk_frozen BK341.out 0; have hfz18_1 := blk_frozen BK341.out 1; have hfz18_2 := blk_frozen BK341.out 2; have hfz18_3 := blk_frozen BK341.out 3; have hfz18_4 := blk_frozen BK341.out 4) | ((with_reducible refine gate_callee (f := 12) rfl ?_); refine goesL_ (some 16) rfl rfl Tryd.func12 (by kernel_rfl) rfl #[.int .i64 (Int.tmod a1 4001), .agg #[.int .i64 a0_0, .int .i64 a0_1, .int .i64 a0_2, .int .i64 a0_3, .int .i64 a0_4]] rfl (by (try simp only [List.map_toArray, List.map_cons, List.map_nil]); first | done | rfl | (simp only [List.length_drop, List.length_take]; rfl)) ?_; (with_reducible refine (rule_Day.calls k (Int.tmod a1 4001) a0_0 a0_1 a0_2 a0_3 a0_4 t343 t344 _ ?side1 A4.out).mono ?_); (case side1 => exact GL.below HG.out (by repeat (first | (with_reducible first | exact HB.out | apply below_alloc | apply pw_below_drewN | apply below_drew1 | refine below_set ?_ GE341.out) | exact HB.out))); rintro e w19 ⟨rfl, hb⟩; refine ⟨_, rfl, ?_⟩; have n0_ := Aside0.mk (blk_below (g := gb341) (o := .cells #[.int .i64 a0_0, .int .i64 a0_1, .int .i64 a0_2, .int .i64 a0_3, .int .i64 a0_4] 25 (0, 0)) (by (with_reducible repeat (first | refine blk_drewN ?_ _ | refine blk_drew ?_ | refine blk_alloc ?_ _)); exact BK341.out) hb); have n1_ := Aside0.mk (below_step (by repeat (first | (with_reducible first | exact HB.out | apply below_alloc | apply pw_below_drewN | apply below_drew1 | refine below_set ?_ GE341.out) | exact HB.out)) hb); clear BK341; clear HB; have BK341 := n0_; have HB := n1_; clear n0_ n1_; (try clear hb); (try clear hb2); (try clear hk); (try clear hi); have hcz20_0 : w19.cell? ⟨gb341, 0, none⟩ = some (.int .i64 a0_0) := (blk_cell BK341.out 0).trans rfl; have hcz20_1 : w19.cell? ⟨gb341, 1, none⟩ = some (.int .i64 a0_1) := (blk_cell BK341.out 1).trans rfl; have hcz20_2 : w19.cell? ⟨gb341, 2, none⟩ = some (.int .i64 a0_2) := (blk_cell BK341.out 2).trans rfl; have hcz20_3 : w19.cell? ⟨gb341, 3, none⟩ = some (.int .i64 a0_3) := (blk_cell BK341.out 3).trans rfl; have hcz20_4 : w19.cell? ⟨gb341, 4, none⟩ = some (.int .i64 a0_4) := (blk_cell BK341.out 4).trans rfl; have hfz20_0 := blk_frozen BK341.out 0; have hfz20_1 := blk_frozen BK341.out 1; have hfz20_2 := blk_frozen BK341.out 2; have hfz20_3 := blk_frozen BK341.out 3; have hfz20_4 := blk_frozen BK341.out 4) | ((with_reducible refine gate_callee (f := 12) rfl ?_); refine goesL_ (some 23) rfl rfl Tryd.func12 (by kernel_rfl) rfl #[.int .i64 (wrap64 ((Int.tmod a1 4001) + 1)), .agg #[.int .i64 a0_0, .int .i64 a0_1, .int .i64 a0_2, .int .i64 a0_3, .int .i64 a0_4]] rfl (by (try simp only [List.map_toArray, List.map_cons, List.map_nil]); first | done | rfl | (simp only [List.length_drop, List.length_take]; rfl)) ?_; (with_reducible refine (rule_Day.calls k (wrap64 ((Int.tmod a1 4001) + 1)) a0_0 a0_1 a0_2 a0_3 a0_4 t345 t346 _ ?side1 A5.out).mono ?_); (case side1 => exact GL.below HG.out (by repeat (first | (with_reducible first | exact HB.out | apply below_alloc | apply pw_below_drewN | apply below_drew1 | refine below_set ?_ GE341.out) | exact HB.out))); rintro e w21 ⟨rfl, hb⟩; refine ⟨_, rfl, ?_⟩; have n0_ := Aside0.mk (blk_below (g := gb341) (o := .cells #[.int .i64 a0_0, .int .i64 a0_1, .int .i64 a0_2, .int .i64 a0_3, .int .i64 a0_4] 25 (0, 0)) (by (with_reducible repeat (first | refine blk_drewN ?_ _ | refine blk_drew ?_ | refine blk_alloc ?_ _)); exact BK341.out) hb); have n1_ := Aside0.mk (below_step (by repeat (first | (with_reducible first | exact HB.out | apply below_alloc | apply pw_below_drewN | apply below_drew1 | refine below_set ?_ GE341.out) | exact HB.out)) hb); clear BK341; clear HB; have BK341 := n0_; have HB := n1_; clear n0_ n1_; (try clear hb); (try clear hb2); (try clear hk); (try clear hi); have hcz22_0 : w21.cell? ⟨gb341, 0, none⟩ = some (.int .i64 a0_0) := (blk_cell BK341.out 0).trans rfl; have hcz22_1 : w21.cell? ⟨gb341, 1, none⟩ = some (.int .i64 a0_1) := (blk_cell BK341.out 1).trans rfl; have hcz22_2 : w21.cell? ⟨gb341, 2, none⟩ = some (.int .i64 a0_2) := (blk_cell BK341.out 2).trans rfl; have hcz22_3 : w21.cell? ⟨gb341, 3, none⟩ = some (.int .i64 a0_3) := (blk_cell BK341.out 3).trans rfl; have hcz22_4 : w21.cell? ⟨gb341, 4, none⟩ = some (.int .i64 a0_4) := (blk_cell BK341.out 4).trans rfl; have hfz22_0 := blk_frozen BK341.out 0; have hfz22_1 := blk_frozen BK341.out 1; have hfz22_2 := blk_frozen BK341.out 2; have hfz22_3 := blk_frozen BK341.out 3; have hfz22_4 := blk_frozen BK341.out 4))
        go_ret
        exact ⟨by first | rfl | (simp [errW_none, errW_some] <;> rfl) | (simp [*, errW_none, errW_some] <;> rfl), by repeat (first | (with_reducible first | exact HB.out | apply below_alloc | apply pw_below_drewN | apply below_drew1 | refine below_set ?_ GE341.out) | exact HB.out)⟩
    · rw [if_neg c7] at H
      have c7b0 : (a0_0 == 3) = false := beq_eq_false_iff_ne.mpr c7
      have c7b1 : (a0_0 != 3) = true := bne_iff_ne.mpr c7
      by_cases c23 : t342 = true
      · subst c23
        have H1 : (if t346 = 0 then (if (wrap64 (t345 - t343)) = 365 then (some true) else (some ((wrap64 (t345 - t343)) == 366))) else (some false)) = some r := by rw [if_pos rfl] at H; exact H
        clear H
        have H := H1
        clear H1
        by_cases c24 : t346 = 0
        · rw [if_pos c24] at H
          have c24b0 : (t346 == 0) = true := beq_iff_eq.mpr c24
          have c24b1 : (t346 != 0) = false := bne_eq_false_iff_eq.mpr c24
          clear c24
          by_cases c25 : (wrap64 (t345 - t343)) = 365
          · rw [if_pos c25] at H
            have c25b0 : ((wrap64 (t345 - t343)) == 365) = true := beq_iff_eq.mpr c25
            have c25b1 : ((wrap64 (t345 - t343)) != 365) = false := bne_eq_false_iff_eq.mpr c25
            clear c25
            obtain rfl := Option.some.inj H
            go_enter Tryd.func10, Tryd.ntmps10
            go_wp2_with (first | ((with_reducible refine gate_dst (N := 2) rfl ?_); refine box_event ?hg (N := 2) ?hd (cs := #[.int .i64 a0_0, .int .i64 a0_1, .int .i64 a0_2, .int .i64 a0_3, .int .i64 a0_4]) (t := 25) ?hr ?_; (case hd => rfl); (case hg => rfl); (case hr => first | (go_simp; done) | (go_simp; rfl)); intro gb341 hg w26 hbox hb; have n0_ := Aside0.mk (below_step (by repeat (first | (with_reducible first | exact HB.out | apply below_alloc | apply pw_below_drewN | apply below_drew1) | exact HB.out)) hb); have n1_ := Aside0.mk (hbox); have n2_ := Aside0.mk ((by rw [hg]; exact (below_size (by repeat (first | (with_reducible first | exact HB.out | apply below_alloc | apply pw_below_drewN | apply below_drew1) | exact HB.out))) : w.heap.size ≤ gb341)); have n3_ := Aside0.mk ((by rw [hg]; exact (below_size (by repeat (first | (with_reducible first | exact HB.out | apply below_alloc | apply pw_below_drewN | apply below_drew1) | exact HB.out))) : w.heap.size ≤ gb341)); clear HB; have HB := n0_; have BK341 := n1_; have GW341 := n2_; have GE341 := n3_; clear n0_ n1_ n2_ n3_; clear hb hbox hg) | ((with_reducible refine gate_callee (f := 11) rfl ?_); refine goesL_ (some 10) rfl rfl Tryd.func11 (by kernel_rfl) rfl #[] rfl (by (try simp only [List.map_toArray, List.map_cons, List.map_nil]); first | done | rfl | (simp only [List.length_drop, List.length_take]; rfl)) ?_; (with_reducible refine (longcaselaw09_shown.calls  true _ ?side1 A3.out).mono ?_); (case side1 => exact GL.below HG.out (by repeat (first | (with_reducible first | exact HB.out | apply below_alloc | apply pw_below_drewN | apply below_drew1 | refine below_set ?_ GE341.out) | exact HB.out))); rintro e w27 ⟨rfl, hb⟩; refine ⟨_, rfl, ?_⟩; have n0_ := Aside0.mk (blk_below (g := gb341) (o := .cells #[.int .i64 a0_0, .int .i64 a0_1, .int .i64 a0_2, .int .i64 a0_3, .int .i64 a0_4] 25 (0, 0)) (by (with_reducible repeat (first | refine blk_drewN ?_ _ | refine blk_drew ?_ | refine blk_alloc ?_ _)); exact BK341.out) hb); have n1_ := Aside0.mk (below_step (by repeat (first | (with_reducible first | exact HB.out | apply below_alloc | apply pw_below_drewN | apply below_drew1 | refine below_set ?_ GE341.out) | exact HB.out)) hb); clear BK341; clear HB; have BK341 := n0_; have HB := n1_; clear n0_ n1_; (try clear hb); (try clear hb2); (try clear hk); (try clear hi); have hcz28_0 : w27.cell? ⟨gb341, 0, none⟩ = some (.int .i64 a0_0) := (blk_cell BK341.out 0).trans rfl; have hcz28_1 : w27.cell? ⟨gb341, 1, none⟩ = some (.int .i64 a0_1) := (blk_cell BK341.out 1).trans rfl; have hcz28_2 : w27.cell? ⟨gb341, 2, none⟩ = some (.int .i64 a0_2) := (blk_cell BK341.out 2).trans rfl; have hcz28_3 : w27.cell? ⟨gb341, 3, none⟩ = some (.int .i64 a0_3) := (blk_cell BK341.out 3).trans rfl; have hcz28_4 : w27.cell? ⟨gb341, 4, none⟩ = some (.int .i64 a0_4) := (blk_cell BK341.out 4).trans rfl; have hfz28_0 := blk_frozen BK341.out 0; have hfz28_1 := blk_frozen BK341.out 1; have hfz28_2 := blk_frozen BK341.out 2; have hfz28_3 := blk_frozen BK341.out 3; have hfz28_4 := blk_frozen BK341.out 4) | ((with_reducible refine gate_callee (f := 12) rfl ?_); refine goesL_ (some 16) rfl rfl Tryd.func12 (by kernel_rfl) rfl #[.int .i64 (Int.tmod a1 4001), .agg #[.int .i64 a0_0, .int .i64 a0_1, .int .i64 a0_2, .int .i64 a0_3, .int .i64 a0_4]] rfl (by (try simp only [List.map_toArray, List.map_cons, List.map_nil]); first | done | rfl | (simp only [List.length_drop, List.length_take]; rfl)) ?_; (with_reducible refine (rule_Day.calls k (Int.tmod a1 4001) a0_0 a0_1 a0_2 a0_3 a0_4 t343 t344 _ ?side1 A4.out).mono ?_); (case side1 => exact GL.below HG.out (by repeat (first | (with_reducible first | exact HB.out | apply below_alloc | apply pw_below_drewN | apply below_drew1 | refine below_set ?_ GE341.out) | exact HB.out))); rintro e w29 ⟨rfl, hb⟩; refine ⟨_, rfl, ?_⟩; have n0_ := Aside0.mk (blk_below (g := gb341) (o := .cells #[.int .i64 a0_0, .int .i64 a0_1, .int .i64 a0_2, .int .i64 a0_3, .int .i64 a0_4] 25 (0, 0)) (by (with_reducible repeat (first | refine blk_drewN ?_ _ | refine blk_drew ?_ | refine blk_alloc ?_ _)); exact BK341.out) hb); have n1_ := Aside0.mk (below_step (by repeat (first | (with_reducible first | exact HB.out | apply below_alloc | apply pw_below_drewN | apply below_drew1 | refine below_set ?_ GE341.out) | exact HB.out)) hb); clear BK341; clear HB; have BK341 := n0_; have HB := n1_; clear n0_ n1_; (try clear hb); (try clear hb2); (try clear hk); (try clear hi); have hcz30_0 : w29.cell? ⟨gb341, 0, none⟩ = some (.int .i64 a0_0) := (blk_cell BK341.out 0).trans rfl; have hcz30_1 : w29.cell? ⟨gb341, 1, none⟩ = some (.int .i64 a0_1) := (blk_cell BK341.out 1).trans rfl; have hcz30_2 : w29.cell? ⟨gb341, 2, none⟩ = some (.int .i64 a0_2) := (blk_cell BK341.out 2).trans rfl; have hcz30_3 : w29.cell? ⟨gb341, 3, none⟩ = some (.int .i64 a0_3) := (blk_cell BK341.out 3).trans rfl; have hcz30_4 : w29.cell? ⟨gb341, 4, none⟩ = some (.int .i64 a0_4) := (blk_cell BK341.out 4).trans rfl; have hfz30_0 := blk_frozen BK341.out 0; have hfz30_1 := blk_frozen BK341.out 1; have hfz30_2 := blk_frozen BK341.out 2; have hfz30_3 := blk_frozen BK341.out 3; have hfz30_4 := blk_frozen BK341.out 4) | ((with_reducible refine gate_callee (f := 12) rfl ?_); refine goesL_ (some 23) rfl rfl Tryd.func12 (by kernel_rfl) rfl #[.int .i64 (wrap64 ((Int.tmod a1 4001) + 1)), .agg #[.int .i64 a0_0, .int .i64 a0_1, .int .i64 a0_2, .int .i64 a0_3, .int .i64 a0_4]] rfl (by (try simp only [List.map_toArray, List.map_cons, List.map_nil]); first | done | rfl | (simp only [List.length_drop, List.length_take]; rfl)) ?_; (with_reducible refine (rule_Day.calls k (wrap64 ((Int.tmod a1 4001) + 1)) a0_0 a0_1 a0_2 a0_3 a0_4 t345 t346 _ ?side1 A5.out).mono ?_); (case side1 => exact GL.below HG.out (by repeat (first | (with_reducible first | exact HB.out | apply below_alloc | apply pw_below_drewN | apply below_drew1 | refine below_set ?_ GE341.out) | exact HB.out))); rintro e w31 ⟨rfl, hb⟩; refine ⟨_, rfl, ?_⟩; have n0_ := Aside0.mk (blk_below (g := gb341) (o := .cells #[.int .i64 a0_0, .int .i64 a0_1, .int .i64 a0_2, .int .i64 a0_3, .int .i64 a0_4] 25 (0, 0)) (by (with_reducible repeat (first | refine blk_drewN ?_ _ | refine blk_drew ?_ | refine blk_alloc ?_ _)); exact BK341.out) hb); have n1_ := Aside0.mk (below_step (by repeat (first | (with_reducible first | exact HB.out | apply below_alloc | apply pw_below_drewN | apply below_drew1 | refine below_set ?_ GE341.out) | exact HB.out)) hb); clear BK341; clear HB; have BK341 := n0_; have HB := n1_; clear n0_ n1_; (try clear hb); (try clear hb2); (try clear hk); (try clear hi); have hcz32_0 : w31.cell? ⟨gb341, 0, none⟩ = some (.int .i64 a0_0) := (blk_cell BK341.out 0).trans rfl; have hcz32_1 : w31.cell? ⟨gb341, 1, none⟩ = some (.int .i64 a0_1) := (blk_cell BK341.out 1).trans rfl; have hcz32_2 : w31.cell? ⟨gb341, 2, none⟩ = some (.int .i64 a0_2) := (blk_cell BK341.out 2).trans rfl; have hcz32_3 : w31.cell? ⟨gb341, 3, none⟩ = some (.int .i64 a0_3) := (blk_cell BK341.out 3).trans rfl; have hcz32_4 : w31.cell? ⟨gb341, 4, none⟩ = some (.int .i64 a0_4) := (blk_cell BK341.out 4).trans rfl; have hfz32_0 := blk_frozen BK341.out 0; have hfz32_1 := blk_frozen BK341.out 1; have hfz32_2 := blk_frozen BK341.out 2; have hfz32_3 := blk_frozen BK341.out 3; have hfz32_4 := blk_frozen BK341.out 4))
            go_ret
            exact ⟨by first | rfl | (simp [errW_none, errW_some] <;> rfl) | (simp [*, errW_none, errW_some] <;> rfl), by repeat (first | (with_reducible first | exact HB.out | apply below_alloc | apply pw_below_drewN | apply below_drew1 | refine below_set ?_ GE341.out) | exact HB.out)⟩
          · rw [if_neg c25] at H
            have c25b0 : ((wrap64 (t345 - t343)) == 365) = false := beq_eq_false_iff_ne.mpr c25
            have c25b1 : ((wrap64 (t345 - t343)) != 365) = true := bne_iff_ne.mpr c25
            obtain rfl := Option.some.inj H
            go_enter Tryd.func10, Tryd.ntmps10
            go_wp2_with (first | ((with_reducible refine gate_dst (N := 2) rfl ?_); refine box_event ?hg (N := 2) ?hd (cs := #[.int .i64 a0_0, .int .i64 a0_1, .int .i64 a0_2, .int .i64 a0_3, .int .i64 a0_4]) (t := 25) ?hr ?_; (case hd => rfl); (case hg => rfl); (case hr => first | (go_simp; done) | (go_simp; rfl)); intro gb341 hg w33 hbox hb; have n0_ := Aside0.mk (below_step (by repeat (first | (with_reducible first | exact HB.out | apply below_alloc | apply pw_below_drewN | apply below_drew1) | exact HB.out)) hb); have n1_ := Aside0.mk (hbox); have n2_ := Aside0.mk ((by rw [hg]; exact (below_size (by repeat (first | (with_reducible first | exact HB.out | apply below_alloc | apply pw_below_drewN | apply below_drew1) | exact HB.out))) : w.heap.size ≤ gb341)); have n3_ := Aside0.mk ((by rw [hg]; exact (below_size (by repeat (first | (with_reducible first | exact HB.out | apply below_alloc | apply pw_below_drewN | apply below_drew1) | exact HB.out))) : w.heap.size ≤ gb341)); clear HB; have HB := n0_; have BK341 := n1_; have GW341 := n2_; have GE341 := n3_; clear n0_ n1_ n2_ n3_; clear hb hbox hg) | ((with_reducible refine gate_callee (f := 11) rfl ?_); refine goesL_ (some 10) rfl rfl Tryd.func11 (by kernel_rfl) rfl #[] rfl (by (try simp only [List.map_toArray, List.map_cons, List.map_nil]); first | done | rfl | (simp only [List.length_drop, List.length_take]; rfl)) ?_; (with_reducible refine (longcaselaw09_shown.calls  true _ ?side1 A3.out).mono ?_); (case side1 => exact GL.below HG.out (by repeat (first | (with_reducible first | exact HB.out | apply below_alloc | apply pw_below_drewN | apply below_drew1 | refine below_set ?_ GE341.out) | exact HB.out))); rintro e w34 ⟨rfl, hb⟩; refine ⟨_, rfl, ?_⟩; have n0_ := Aside0.mk (blk_below (g := gb341) (o := .cells #[.int .i64 a0_0, .int .i64 a0_1, .int .i64 a0_2, .int .i64 a0_3, .int .i64 a0_4] 25 (0, 0)) (by (with_reducible repeat (first | refine blk_drewN ?_ _ | refine blk_drew ?_ | refine blk_alloc ?_ _)); exact BK341.out) hb); have n1_ := Aside0.mk (below_step (by repeat (first | (with_reducible first | exact HB.out | apply below_alloc | apply pw_below_drewN | apply below_drew1 | refine below_set ?_ GE341.out) | exact HB.out)) hb); clear BK341; clear HB; have BK341 := n0_; have HB := n1_; clear n0_ n1_; (try clear hb); (try clear hb2); (try clear hk); (try clear hi); have hcz35_0 : w34.cell? ⟨gb341, 0, none⟩ = some (.int .i64 a0_0) := (blk_cell BK341.out 0).trans rfl; have hcz35_1 : w34.cell? ⟨gb341, 1, none⟩ = some (.int .i64 a0_1) := (blk_cell BK341.out 1).trans rfl; have hcz35_2 : w34.cell? ⟨gb341, 2, none⟩ = some (.int .i64 a0_2) := (blk_cell BK341.out 2).trans rfl; have hcz35_3 : w34.cell? ⟨gb341, 3, none⟩ = some (.int .i64 a0_3) := (blk_cell BK341.out 3).trans rfl; have hcz35_4 : w34.cell? ⟨gb341, 4, none⟩ = some (.int .i64 a0_4) := (blk_cell BK341.out 4).trans rfl; have hfz35_0 := blk_frozen BK341.out 0; have hfz35_1 := blk_frozen BK341.out 1; have hfz35_2 := blk_frozen BK341.out 2; have hfz35_3 := blk_frozen BK341.out 3; have hfz35_4 := blk_frozen BK341.out 4) | ((with_reducible refine gate_callee (f := 12) rfl ?_); refine goesL_ (some 16) rfl rfl Tryd.func12 (by kernel_rfl) rfl #[.int .i64 (Int.tmod a1 4001), .agg #[.int .i64 a0_0, .int .i64 a0_1, .int .i64 a0_2, .int .i64 a0_3, .int .i64 a0_4]] rfl (by (try simp only [List.map_toArray, List.map_cons, List.map_nil]); first | done | rfl | (simp only [List.length_drop, List.length_take]; rfl)) ?_; (with_reducible refine (rule_Day.calls k (Int.tmod a1 4001) a0_0 a0_1 a0_2 a0_3 a0_4 t343 t344 _ ?side1 A4.out).mono ?_); (case side1 => exact GL.below HG.out (by repeat (first | (with_reducible first | exact HB.out | apply below_alloc | apply pw_below_drewN | apply below_drew1 | refine below_set ?_ GE341.out) | exact HB.out))); rintro e w36 ⟨rfl, hb⟩; refine ⟨_, rfl, ?_⟩; have n0_ := Aside0.mk (blk_below (g := gb341) (o := .cells #[.int .i64 a0_0, .int .i64 a0_1, .int .i64 a0_2, .int .i64 a0_3, .int .i64 a0_4] 25 (0, 0)) (by (with_reducible repeat (first | refine blk_drewN ?_ _ | refine blk_drew ?_ | refine blk_alloc ?_ _)); exact BK341.out) hb); have n1_ := Aside0.mk (below_step (by repeat (first | (with_reducible first | exact HB.out | apply below_alloc | apply pw_below_drewN | apply below_drew1 | refine below_set ?_ GE341.out) | exact HB.out)) hb); clear BK341; clear HB; have BK341 := n0_; have HB := n1_; clear n0_ n1_; (try clear hb); (try clear hb2); (try clear hk); (try clear hi); have hcz37_0 : w36.cell? ⟨gb341, 0, none⟩ = some (.int .i64 a0_0) := (blk_cell BK341.out 0).trans rfl; have hcz37_1 : w36.cell? ⟨gb341, 1, none⟩ = some (.int .i64 a0_1) := (blk_cell BK341.out 1).trans rfl; have hcz37_2 : w36.cell? ⟨gb341, 2, none⟩ = some (.int .i64 a0_2) := (blk_cell BK341.out 2).trans rfl; have hcz37_3 : w36.cell? ⟨gb341, 3, none⟩ = some (.int .i64 a0_3) := (blk_cell BK341.out 3).trans rfl; have hcz37_4 : w36.cell? ⟨gb341, 4, none⟩ = some (.int .i64 a0_4) := (blk_cell BK341.out 4).trans rfl; have hfz37_0 := blk_frozen BK341.out 0; have hfz37_1 := blk_frozen BK341.out 1; have hfz37_2 := blk_frozen BK341.out 2; have hfz37_3 := blk_frozen BK341.out 3; have hfz37_4 := blk_frozen BK341.out 4) | ((with_reducible refine gate_callee (f := 12) rfl ?_); refine goesL_ (some 23) rfl rfl Tryd.func12 (by kernel_rfl) rfl #[.int .i64 (wrap64 ((Int.tmod a1 4001) + 1)), .agg #[.int .i64 a0_0, .int .i64 a0_1, .int .i64 a0_2, .int .i64 a0_3, .int .i64 a0_4]] rfl (by (try simp only [List.map_toArray, List.map_cons, List.map_nil]); first | done | rfl | (simp only [List.length_drop, List.length_take]; rfl)) ?_; (with_reducible refine (rule_Day.calls k (wrap64 ((Int.tmod a1 4001) + 1)) a0_0 a0_1 a0_2 a0_3 a0_4 t345 t346 _ ?side1 A5.out).mono ?_); (case side1 => exact GL.below HG.out (by repeat (first | (with_reducible first | exact HB.out | apply below_alloc | apply pw_below_drewN | apply below_drew1 | refine below_set ?_ GE341.out) | exact HB.out))); rintro e w38 ⟨rfl, hb⟩; refine ⟨_, rfl, ?_⟩; have n0_ := Aside0.mk (blk_below (g := gb341) (o := .cells #[.int .i64 a0_0, .int .i64 a0_1, .int .i64 a0_2, .int .i64 a0_3, .int .i64 a0_4] 25 (0, 0)) (by (with_reducible repeat (first | refine blk_drewN ?_ _ | refine blk_drew ?_ | refine blk_alloc ?_ _)); exact BK341.out) hb); have n1_ := Aside0.mk (below_step (by repeat (first | (with_reducible first | exact HB.out | apply below_alloc | apply pw_below_drewN | apply below_drew1 | refine below_set ?_ GE341.out) | exact HB.out)) hb); clear BK341; clear HB; have BK341 := n0_; have HB := n1_; clear n0_ n1_; (try clear hb); (try clear hb2); (try clear hk); (try clear hi); have hcz39_0 : w38.cell? ⟨gb341, 0, none⟩ = some (.int .i64 a0_0) := (blk_cell BK341.out 0).trans rfl; have hcz39_1 : w38.cell? ⟨gb341, 1, none⟩ = some (.int .i64 a0_1) := (blk_cell BK341.out 1).trans rfl; have hcz39_2 : w38.cell? ⟨gb341, 2, none⟩ = some (.int .i64 a0_2) := (blk_cell BK341.out 2).trans rfl; have hcz39_3 : w38.cell? ⟨gb341, 3, none⟩ = some (.int .i64 a0_3) := (blk_cell BK341.out 3).trans rfl; have hcz39_4 : w38.cell? ⟨gb341, 4, none⟩ = some (.int .i64 a0_4) := (blk_cell BK341.out 4).trans rfl; have hfz39_0 := blk_frozen BK341.out 0; have hfz39_1 := blk_frozen BK341.out 1; have hfz39_2 := blk_frozen BK341.out 2; have hfz39_3 := blk_frozen BK341.out 3; have hfz39_4 := blk_frozen BK341.out 4))
            go_ret
            exact ⟨by first | rfl | (simp [errW_none, errW_some] <;> rfl) | (simp [*, errW_none, errW_some] <;> rfl), by repeat (first | (with_reducible first | exact HB.out | apply below_alloc | apply pw_below_drewN | apply below_drew1 | refine below_set ?_ GE341.out) | exact HB.out)⟩
        · rw [if_neg c24] at H
          have c24b0 : (t346 == 0) = false := beq_eq_false_iff_ne.mpr c24
          have c24b1 : (t346 != 0) = true := bne_iff_ne.mpr c24
          obtain rfl := Option.some.inj H
          go_enter Tryd.func10, Tryd.ntmps10
          go_wp2_with (first | ((with_reducible refine gate_dst (N := 2) rfl ?_); refine box_event ?hg (N := 2) ?hd (cs := #[.int .i64 a0_0, .int .i64 a0_1, .int .i64 a0_2, .int .i64 a0_3, .int .i64 a0_4]) (t := 25) ?hr ?_; (case hd => rfl); (case hg => rfl); (case hr => first | (go_simp; done) | (go_simp; rfl)); intro gb341 hg w40 hbox hb; have n0_ := Aside0.mk (below_step (by repeat (first | (with_reducible first | exact HB.out | apply below_alloc | apply pw_below_drewN | apply below_drew1) | exact HB.out)) hb); have n1_ := Aside0.mk (hbox); have n2_ := Aside0.mk ((by rw [hg]; exact (below_size (by repeat (first | (with_reducible first | exact HB.out | apply below_alloc | apply pw_below_drewN | apply below_drew1) | exact HB.out))) : w.heap.size ≤ gb341)); have n3_ := Aside0.mk ((by rw [hg]; exact (below_size (by repeat (first | (with_reducible first | exact HB.out | apply below_alloc | apply pw_below_drewN | apply below_drew1) | exact HB.out))) : w.heap.size ≤ gb341)); clear HB; have HB := n0_; have BK341 := n1_; have GW341 := n2_; have GE341 := n3_; clear n0_ n1_ n2_ n3_; clear hb hbox hg) | ((with_reducible refine gate_callee (f := 11) rfl ?_); refine goesL_ (some 10) rfl rfl Tryd.func11 (by kernel_rfl) rfl #[] rfl (by (try simp only [List.map_toArray, List.map_cons, List.map_nil]); first | done | rfl | (simp only [List.length_drop, List.length_take]; rfl)) ?_; (with_reducible refine (longcaselaw09_shown.calls  true _ ?side1 A3.out).mono ?_); (case side1 => exact GL.below HG.out (by repeat (first | (with_reducible first | exact HB.out | apply below_alloc | apply pw_below_drewN | apply below_drew1 | refine below_set ?_ GE341.out) | exact HB.out))); rintro e w41 ⟨rfl, hb⟩; refine ⟨_, rfl, ?_⟩; have n0_ := Aside0.mk (blk_below (g := gb341) (o := .cells #[.int .i64 a0_0, .int .i64 a0_1, .int .i64 a0_2, .int .i64 a0_3, .int .i64 a0_4] 25 (0, 0)) (by (with_reducible repeat (first | refine blk_drewN ?_ _ | refine blk_drew ?_ | refine blk_alloc ?_ _)); exact BK341.out) hb); have n1_ := Aside0.mk (below_step (by repeat (first | (with_reducible first | exact HB.out | apply below_alloc | apply pw_below_drewN | apply below_drew1 | refine below_set ?_ GE341.out) | exact HB.out)) hb); clear BK341; clear HB; have BK341 := n0_; have HB := n1_; clear n0_ n1_; (try clear hb); (try clear hb2); (try clear hk); (try clear hi); have hcz42_0 : w41.cell? ⟨gb341, 0, none⟩ = some (.int .i64 a0_0) := (blk_cell BK341.out 0).trans rfl; have hcz42_1 : w41.cell? ⟨gb341, 1, none⟩ = some (.int .i64 a0_1) := (blk_cell BK341.out 1).trans rfl; have hcz42_2 : w41.cell? ⟨gb341, 2, none⟩ = some (.int .i64 a0_2) := (blk_cell BK341.out 2).trans rfl; have hcz42_3 : w41.cell? ⟨gb341, 3, none⟩ = some (.int .i64 a0_3) := (blk_cell BK341.out 3).trans rfl; have hcz42_4 : w41.cell? ⟨gb341, 4, none⟩ = some (.int .i64 a0_4) := (blk_cell BK341.out 4).trans rfl; have hfz42_0 := blk_frozen BK341.out 0; have hfz42_1 := blk_frozen BK341.out 1; have hfz42_2 := blk_frozen BK341.out 2; have hfz42_3 := blk_frozen BK341.out 3; have hfz42_4 := blk_frozen BK341.out 4) | ((with_reducible refine gate_callee (f := 12) rfl ?_); refine goesL_ (some 16) rfl rfl Tryd.func12 (by kernel_rfl) rfl #[.int .i64 (Int.tmod a1 4001), .agg #[.int .i64 a0_0, .int .i64 a0_1, .int .i64 a0_2, .int .i64 a0_3, .int .i64 a0_4]] rfl (by (try simp only [List.map_toArray, List.map_cons, List.map_nil]); first | done | rfl | (simp only [List.length_drop, List.length_take]; rfl)) ?_; (with_reducible refine (rule_Day.calls k (Int.tmod a1 4001) a0_0 a0_1 a0_2 a0_3 a0_4 t343 t344 _ ?side1 A4.out).mono ?_); (case side1 => exact GL.below HG.out (by repeat (first | (with_reducible first | exact HB.out | apply below_alloc | apply pw_below_drewN | apply below_drew1 | refine below_set ?_ GE341.out) | exact HB.out))); rintro e w43 ⟨rfl, hb⟩; refine ⟨_, rfl, ?_⟩; have n0_ := Aside0.mk (blk_below (g := gb341) (o := .cells #[.int .i64 a0_0, .int .i64 a0_1, .int .i64 a0_2, .int .i64 a0_3, .int .i64 a0_4] 25 (0, 0)) (by (with_reducible repeat (first | refine blk_drewN ?_ _ | refine blk_drew ?_ | refine blk_alloc ?_ _)); exact BK341.out) hb); have n1_ := Aside0.mk (below_step (by repeat (first | (with_reducible first | exact HB.out | apply below_alloc | apply pw_below_drewN | apply below_drew1 | refine below_set ?_ GE341.out) | exact HB.out)) hb); clear BK341; clear HB; have BK341 := n0_; have HB := n1_; clear n0_ n1_; (try clear hb); (try clear hb2); (try clear hk); (try clear hi); have hcz44_0 : w43.cell? ⟨gb341, 0, none⟩ = some (.int .i64 a0_0) := (blk_cell BK341.out 0).trans rfl; have hcz44_1 : w43.cell? ⟨gb341, 1, none⟩ = some (.int .i64 a0_1) := (blk_cell BK341.out 1).trans rfl; have hcz44_2 : w43.cell? ⟨gb341, 2, none⟩ = some (.int .i64 a0_2) := (blk_cell BK341.out 2).trans rfl; have hcz44_3 : w43.cell? ⟨gb341, 3, none⟩ = some (.int .i64 a0_3) := (blk_cell BK341.out 3).trans rfl; have hcz44_4 : w43.cell? ⟨gb341, 4, none⟩ = some (.int .i64 a0_4) := (blk_cell BK341.out 4).trans rfl; have hfz44_0 := blk_frozen BK341.out 0; have hfz44_1 := blk_frozen BK341.out 1; have hfz44_2 := blk_frozen BK341.out 2; have hfz44_3 := blk_frozen BK341.out 3; have hfz44_4 := blk_frozen BK341.out 4) | ((with_reducible refine gate_callee (f := 12) rfl ?_); refine goesL_ (some 23) rfl rfl Tryd.func12 (by kernel_rfl) rfl #[.int .i64 (wrap64 ((Int.tmod a1 4001) + 1)), .agg #[.int .i64 a0_0, .int .i64 a0_1, .int .i64 a0_2, .int .i64 a0_3, .int .i64 a0_4]] rfl (by (try simp only [List.map_toArray, List.map_cons, List.map_nil]); first | done | rfl | (simp only [List.length_drop, List.length_take]; rfl)) ?_; (with_reducible refine (rule_Day.calls k (wrap64 ((Int.tmod a1 4001) + 1)) a0_0 a0_1 a0_2 a0_3 a0_4 t345 t346 _ ?side1 A5.out).mono ?_); (case side1 => exact GL.below HG.out (by repeat (first | (with_reducible first | exact HB.out | apply below_alloc | apply pw_below_drewN | apply below_drew1 | refine below_set ?_ GE341.out) | exact HB.out))); rintro e w45 ⟨rfl, hb⟩; refine ⟨_, rfl, ?_⟩; have n0_ := Aside0.mk (blk_below (g := gb341) (o := .cells #[.int .i64 a0_0, .int .i64 a0_1, .int .i64 a0_2, .int .i64 a0_3, .int .i64 a0_4] 25 (0, 0)) (by (with_reducible repeat (first | refine blk_drewN ?_ _ | refine blk_drew ?_ | refine blk_alloc ?_ _)); exact BK341.out) hb); have n1_ := Aside0.mk (below_step (by repeat (first | (with_reducible first | exact HB.out | apply below_alloc | apply pw_below_drewN | apply below_drew1 | refine below_set ?_ GE341.out) | exact HB.out)) hb); clear BK341; clear HB; have BK341 := n0_; have HB := n1_; clear n0_ n1_; (try clear hb); (try clear hb2); (try clear hk); (try clear hi); have hcz46_0 : w45.cell? ⟨gb341, 0, none⟩ = some (.int .i64 a0_0) := (blk_cell BK341.out 0).trans rfl; have hcz46_1 : w45.cell? ⟨gb341, 1, none⟩ = some (.int .i64 a0_1) := (blk_cell BK341.out 1).trans rfl; have hcz46_2 : w45.cell? ⟨gb341, 2, none⟩ = some (.int .i64 a0_2) := (blk_cell BK341.out 2).trans rfl; have hcz46_3 : w45.cell? ⟨gb341, 3, none⟩ = some (.int .i64 a0_3) := (blk_cell BK341.out 3).trans rfl; have hcz46_4 : w45.cell? ⟨gb341, 4, none⟩ = some (.int .i64 a0_4) := (blk_cell BK341.out 4).trans rfl; have hfz46_0 := blk_frozen BK341.out 0; have hfz46_1 := blk_frozen BK341.out 1; have hfz46_2 := blk_frozen BK341.out 2; have hfz46_3 := blk_frozen BK341.out 3; have hfz46_4 := blk_frozen BK341.out 4))
          go_ret
          exact ⟨by first | rfl | (simp [errW_none, errW_some] <;> rfl) | (simp [*, errW_none, errW_some] <;> rfl), by repeat (first | (with_reducible first | exact HB.out | apply below_alloc | apply pw_below_drewN | apply below_drew1 | refine below_set ?_ GE341.out) | exact HB.out)⟩
      · replace c23 := Bool.eq_false_iff.mpr c23
        subst c23
        have H1 : (some false) = some r := by rw [if_neg (show ¬ (false = true) by decide)] at H; exact H
        clear H
        have H := H1
        clear H1
        obtain rfl := Option.some.inj H
        go_enter Tryd.func10, Tryd.ntmps10
        go_wp2_with (first | ((with_reducible refine gate_dst (N := 2) rfl ?_); refine box_event ?hg (N := 2) ?hd (cs := #[.int .i64 a0_0, .int .i64 a0_1, .int .i64 a0_2, .int .i64 a0_3, .int .i64 a0_4]) (t := 25) ?hr ?_; (case hd => rfl); (case hg => rfl); (case hr => first | (go_simp; done) | (go_simp; rfl)); intro gb341 hg w47 hbox hb; have n0_ := Aside0.mk (below_step (by repeat (first | (with_reducible first | exact HB.out | apply below_alloc | apply pw_below_drewN | apply below_drew1) | exact HB.out)) hb); have n1_ := Aside0.mk (hbox); have n2_ := Aside0.mk ((by rw [hg]; exact (below_size (by repeat (first | (with_reducible first | exact HB.out | apply below_alloc | apply pw_below_drewN | apply below_drew1) | exact HB.out))) : w.heap.size ≤ gb341)); have n3_ := Aside0.mk ((by rw [hg]; exact (below_size (by repeat (first | (with_reducible first | exact HB.out | apply below_alloc | apply pw_below_drewN | apply below_drew1) | exact HB.out))) : w.heap.size ≤ gb341)); clear HB; have HB := n0_; have BK341 := n1_; have GW341 := n2_; have GE341 := n3_; clear n0_ n1_ n2_ n3_; clear hb hbox hg) | ((with_reducible refine gate_callee (f := 11) rfl ?_); refine goesL_ (some 10) rfl rfl Tryd.func11 (by kernel_rfl) rfl #[] rfl (by (try simp only [List.map_toArray, List.map_cons, List.map_nil]); first | done | rfl | (simp only [List.length_drop, List.length_take]; rfl)) ?_; (with_reducible refine (longcaselaw09_shown.calls  false _ ?side1 A3.out).mono ?_); (case side1 => exact GL.below HG.out (by repeat (first | (with_reducible first | exact HB.out | apply below_alloc | apply pw_below_drewN | apply below_drew1 | refine below_set ?_ GE341.out) | exact HB.out))); rintro e w48 ⟨rfl, hb⟩; refine ⟨_, rfl, ?_⟩; have n0_ := Aside0.mk (blk_below (g := gb341) (o := .cells #[.int .i64 a0_0, .int .i64 a0_1, .int .i64 a0_2, .int .i64 a0_3, .int .i64 a0_4] 25 (0, 0)) (by (with_reducible repeat (first | refine blk_drewN ?_ _ | refine blk_drew ?_ | refine blk_alloc ?_ _)); exact BK341.out) hb); have n1_ := Aside0.mk (below_step (by repeat (first | (with_reducible first | exact HB.out | apply below_alloc | apply pw_below_drewN | apply below_drew1 | refine below_set ?_ GE341.out) | exact HB.out)) hb); clear BK341; clear HB; have BK341 := n0_; have HB := n1_; clear n0_ n1_; (try clear hb); (try clear hb2); (try clear hk); (try clear hi); have hcz49_0 : w48.cell? ⟨gb341, 0, none⟩ = some (.int .i64 a0_0) := (blk_cell BK341.out 0).trans rfl; have hcz49_1 : w48.cell? ⟨gb341, 1, none⟩ = some (.int .i64 a0_1) := (blk_cell BK341.out 1).trans rfl; have hcz49_2 : w48.cell? ⟨gb341, 2, none⟩ = some (.int .i64 a0_2) := (blk_cell BK341.out 2).trans rfl; have hcz49_3 : w48.cell? ⟨gb341, 3, none⟩ = some (.int .i64 a0_3) := (blk_cell BK341.out 3).trans rfl; have hcz49_4 : w48.cell? ⟨gb341, 4, none⟩ = some (.int .i64 a0_4) := (blk_cell BK341.out 4).trans rfl; have hfz49_0 := blk_frozen BK341.out 0; have hfz49_1 := blk_frozen BK341.out 1; have hfz49_2 := blk_frozen BK341.out 2; have hfz49_3 := blk_frozen BK341.out 3; have hfz49_4 := blk_frozen BK341.out 4) | ((with_reducible refine gate_callee (f := 12) rfl ?_); refine goesL_ (some 16) rfl rfl Tryd.func12 (by kernel_rfl) rfl #[.int .i64 (Int.tmod a1 4001), .agg #[.int .i64 a0_0, .int .i64 a0_1, .int .i64 a0_2, .int .i64 a0_3, .int .i64 a0_4]] rfl (by (try simp only [List.map_toArray, List.map_cons, List.map_nil]); first | done | rfl | (simp only [List.length_drop, List.length_take]; rfl)) ?_; (with_reducible refine (rule_Day.calls k (Int.tmod a1 4001) a0_0 a0_1 a0_2 a0_3 a0_4 t343 t344 _ ?side1 A4.out).mono ?_); (case side1 => exact GL.below HG.out (by repeat (first | (with_reducible first | exact HB.out | apply below_alloc | apply pw_below_drewN | apply below_drew1 | refine below_set ?_ GE341.out) | exact HB.out))); rintro e w50 ⟨rfl, hb⟩; refine ⟨_, rfl, ?_⟩; have n0_ := Aside0.mk (blk_below (g := gb341) (o := .cells #[.int .i64 a0_0, .int .i64 a0_1, .int .i64 a0_2, .int .i64 a0_3, .int .i64 a0_4] 25 (0, 0)) (by (with_reducible repeat (first | refine blk_drewN ?_ _ | refine blk_drew ?_ | refine blk_alloc ?_ _)); exact BK341.out) hb); have n1_ := Aside0.mk (below_step (by repeat (first | (with_reducible first | exact HB.out | apply below_alloc | apply pw_below_drewN | apply below_drew1 | refine below_set ?_ GE341.out) | exact HB.out)) hb); clear BK341; clear HB; have BK341 := n0_; have HB := n1_; clear n0_ n1_; (try clear hb); (try clear hb2); (try clear hk); (try clear hi); have hcz51_0 : w50.cell? ⟨gb341, 0, none⟩ = some (.int .i64 a0_0) := (blk_cell BK341.out 0).trans rfl; have hcz51_1 : w50.cell? ⟨gb341, 1, none⟩ = some (.int .i64 a0_1) := (blk_cell BK341.out 1).trans rfl; have hcz51_2 : w50.cell? ⟨gb341, 2, none⟩ = some (.int .i64 a0_2) := (blk_cell BK341.out 2).trans rfl; have hcz51_3 : w50.cell? ⟨gb341, 3, none⟩ = some (.int .i64 a0_3) := (blk_cell BK341.out 3).trans rfl; have hcz51_4 : w50.cell? ⟨gb341, 4, none⟩ = some (.int .i64 a0_4) := (blk_cell BK341.out 4).trans rfl; have hfz51_0 := blk_frozen BK341.out 0; have hfz51_1 := blk_frozen BK341.out 1; have hfz51_2 := blk_frozen BK341.out 2; have hfz51_3 := blk_frozen BK341.out 3; have hfz51_4 := blk_frozen BK341.out 4) | ((with_reducible refine gate_callee (f := 12) rfl ?_); refine goesL_ (some 23) rfl rfl Tryd.func12 (by kernel_rfl) rfl #[.int .i64 (wrap64 ((Int.tmod a1 4001) + 1)), .agg #[.int .i64 a0_0, .int .i64 a0_1, .int .i64 a0_2, .int .i64 a0_3, .int .i64 a0_4]] rfl (by (try simp only [List.map_toArray, List.map_cons, List.map_nil]); first | done | rfl | (simp only [List.length_drop, List.length_take]; rfl)) ?_; (with_reducible refine (rule_Day.calls k (wrap64 ((Int.tmod a1 4001) + 1)) a0_0 a0_1 a0_2 a0_3 a0_4 t345 t346 _ ?side1 A5.out).mono ?_); (case side1 => exact GL.below HG.out (by repeat (first | (with_reducible first | exact HB.out | apply below_alloc | apply pw_below_drewN | apply below_drew1 | refine below_set ?_ GE341.out) | exact HB.out))); rintro e w52 ⟨rfl, hb⟩; refine ⟨_, rfl, ?_⟩; have n0_ := Aside0.mk (blk_below (g := gb341) (o := .cells #[.int .i64 a0_0, .int .i64 a0_1, .int .i64 a0_2, .int .i64 a0_3, .int .i64 a0_4] 25 (0, 0)) (by (with_reducible repeat (first | refine blk_drewN ?_ _ | refine blk_drew ?_ | refine blk_alloc ?_ _)); exact BK341.out) hb); have n1_ := Aside0.mk (below_step (by repeat (first | (with_reducible first | exact HB.out | apply below_alloc | apply pw_below_drewN | apply below_drew1 | refine below_set ?_ GE341.out) | exact HB.out)) hb); clear BK341; clear HB; have BK341 := n0_; have HB := n1_; clear n0_ n1_; (try clear hb); (try clear hb2); (try clear hk); (try clear hi); have hcz53_0 : w52.cell? ⟨gb341, 0, none⟩ = some (.int .i64 a0_0) := (blk_cell BK341.out 0).trans rfl; have hcz53_1 : w52.cell? ⟨gb341, 1, none⟩ = some (.int .i64 a0_1) := (blk_cell BK341.out 1).trans rfl; have hcz53_2 : w52.cell? ⟨gb341, 2, none⟩ = some (.int .i64 a0_2) := (blk_cell BK341.out 2).trans rfl; have hcz53_3 : w52.cell? ⟨gb341, 3, none⟩ = some (.int .i64 a0_3) := (blk_cell BK341.out 3).trans rfl; have hcz53_4 : w52.cell? ⟨gb341, 4, none⟩ = some (.int .i64 a0_4) := (blk_cell BK341.out 4).trans rfl; have hfz53_0 := blk_frozen BK341.out 0; have hfz53_1 := blk_frozen BK341.out 1; have hfz53_2 := blk_frozen BK341.out 2; have hfz53_3 := blk_frozen BK341.out 3; have hfz53_4 := blk_frozen BK341.out 4))
        go_ret
        exact ⟨by first | rfl | (simp [errW_none, errW_some] <;> rfl) | (simp [*, errW_none, errW_some] <;> rfl), by repeat (first | (with_reducible first | exact HB.out | apply below_alloc | apply pw_below_drewN | apply below_drew1 | refine below_set ?_ GE341.out) | exact HB.out)⟩
  · rw [if_neg c6] at H
    have c6b0 : (t344 == 0) = false := beq_eq_false_iff_ne.mpr c6
    have c6b1 : (t344 != 0) = true := bne_iff_ne.mpr c6
    by_cases c54 : t342 = true
    · subst c54
      have H1 : (some (t344 == t346)) = some r := by rw [if_pos rfl] at H; exact H
      clear H
      have H := H1
      clear H1
      obtain rfl := Option.some.inj H
      go_enter Tryd.func10, Tryd.ntmps10
      go_wp2_with (first | ((with_reducible refine gate_dst (N := 2) rfl ?_); refine box_event ?hg (N := 2) ?hd (cs := #[.int .i64 a0_0, .int .i64 a0_1, .int .i64 a0_2, .int .i64 a0_3, .int .i64 a0_4]) (t := 25) ?hr ?_; (case hd => rfl); (case hg => rfl); (case hr => first | (go_simp; done) | (go_simp; rfl)); intro gb341 hg w55 hbox hb; have n0_ := Aside0.mk (below_step (by repeat (first | (with_reducible first | exact HB.out | apply below_alloc | apply pw_below_drewN | apply below_drew1) | exact HB.out)) hb); have n1_ := Aside0.mk (hbox); have n2_ := Aside0.mk ((by rw [hg]; exact (below_size (by repeat (first | (with_reducible first | exact HB.out | apply below_alloc | apply pw_below_drewN | apply below_drew1) | exact HB.out))) : w.heap.size ≤ gb341)); have n3_ := Aside0.mk ((by rw [hg]; exact (below_size (by repeat (first | (with_reducible first | exact HB.out | apply below_alloc | apply pw_below_drewN | apply below_drew1) | exact HB.out))) : w.heap.size ≤ gb341)); clear HB; have HB := n0_; have BK341 := n1_; have GW341 := n2_; have GE341 := n3_; clear n0_ n1_ n2_ n3_; clear hb hbox hg) | ((with_reducible refine gate_callee (f := 11) rfl ?_); refine goesL_ (some 10) rfl rfl Tryd.func11 (by kernel_rfl) rfl #[] rfl (by (try simp only [List.map_toArray, List.map_cons, List.map_nil]); first | done | rfl | (simp only [List.length_drop, List.length_take]; rfl)) ?_; (with_reducible refine (longcaselaw09_shown.calls  true _ ?side1 A3.out).mono ?_); (case side1 => exact GL.below HG.out (by repeat (first | (with_reducible first | exact HB.out | apply below_alloc | apply pw_below_drewN | apply below_drew1 | refine below_set ?_ GE341.out) | exact HB.out))); rintro e w56 ⟨rfl, hb⟩; refine ⟨_, rfl, ?_⟩; have n0_ := Aside0.mk (blk_below (g := gb341) (o := .cells #[.int .i64 a0_0, .int .i64 a0_1, .int .i64 a0_2, .int .i64 a0_3, .int .i64 a0_4] 25 (0, 0)) (by (with_reducible repeat (first | refine blk_drewN ?_ _ | refine blk_drew ?_ | refine blk_alloc ?_ _)); exact BK341.out) hb); have n1_ := Aside0.mk (below_step (by repeat (first | (with_reducible first | exact HB.out | apply below_alloc | apply pw_below_drewN | apply below_drew1 | refine below_set ?_ GE341.out) | exact HB.out)) hb); clear BK341; clear HB; have BK341 := n0_; have HB := n1_; clear n0_ n1_; (try clear hb); (try clear hb2); (try clear hk); (try clear hi); have hcz57_0 : w56.cell? ⟨gb341, 0, none⟩ = some (.int .i64 a0_0) := (blk_cell BK341.out 0).trans rfl; have hcz57_1 : w56.cell? ⟨gb341, 1, none⟩ = some (.int .i64 a0_1) := (blk_cell BK341.out 1).trans rfl; have hcz57_2 : w56.cell? ⟨gb341, 2, none⟩ = some (.int .i64 a0_2) := (blk_cell BK341.out 2).trans rfl; have hcz57_3 : w56.cell? ⟨gb341, 3, none⟩ = some (.int .i64 a0_3) := (blk_cell BK341.out 3).trans rfl; have hcz57_4 : w56.cell? ⟨gb341, 4, none⟩ = some (.int .i64 a0_4) := (blk_cell BK341.out 4).trans rfl; have hfz57_0 := blk_frozen BK341.out 0; have hfz57_1 := blk_frozen BK341.out 1; have hfz57_2 := blk_frozen BK341.out 2; have hfz57_3 := blk_frozen BK341.out 3; have hfz57_4 := blk_frozen BK341.out 4) | ((with_reducible refine gate_callee (f := 12) rfl ?_); refine goesL_ (some 16) rfl rfl Tryd.func12 (by kernel_rfl) rfl #[.int .i64 (Int.tmod a1 4001), .agg #[.int .i64 a0_0, .int .i64 a0_1, .int .i64 a0_2, .int .i64 a0_3, .int .i64 a0_4]] rfl (by (try simp only [List.map_toArray, List.map_cons, List.map_nil]); first | done | rfl | (simp only [List.length_drop, List.length_take]; rfl)) ?_; (with_reducible refine (rule_Day.calls k (Int.tmod a1 4001) a0_0 a0_1 a0_2 a0_3 a0_4 t343 t344 _ ?side1 A4.out).mono ?_); (case side1 => exact GL.below HG.out (by repeat (first | (with_reducible first | exact HB.out | apply below_alloc | apply pw_below_drewN | apply below_drew1 | refine below_set ?_ GE341.out) | exact HB.out))); rintro e w58 ⟨rfl, hb⟩; refine ⟨_, rfl, ?_⟩; have n0_ := Aside0.mk (blk_below (g := gb341) (o := .cells #[.int .i64 a0_0, .int .i64 a0_1, .int .i64 a0_2, .int .i64 a0_3, .int .i64 a0_4] 25 (0, 0)) (by (with_reducible repeat (first | refine blk_drewN ?_ _ | refine blk_drew ?_ | refine blk_alloc ?_ _)); exact BK341.out) hb); have n1_ := Aside0.mk (below_step (by repeat (first | (with_reducible first | exact HB.out | apply below_alloc | apply pw_below_drewN | apply below_drew1 | refine below_set ?_ GE341.out) | exact HB.out)) hb); clear BK341; clear HB; have BK341 := n0_; have HB := n1_; clear n0_ n1_; (try clear hb); (try clear hb2); (try clear hk); (try clear hi); have hcz59_0 : w58.cell? ⟨gb341, 0, none⟩ = some (.int .i64 a0_0) := (blk_cell BK341.out 0).trans rfl; have hcz59_1 : w58.cell? ⟨gb341, 1, none⟩ = some (.int .i64 a0_1) := (blk_cell BK341.out 1).trans rfl; have hcz59_2 : w58.cell? ⟨gb341, 2, none⟩ = some (.int .i64 a0_2) := (blk_cell BK341.out 2).trans rfl; have hcz59_3 : w58.cell? ⟨gb341, 3, none⟩ = some (.int .i64 a0_3) := (blk_cell BK341.out 3).trans rfl; have hcz59_4 : w58.cell? ⟨gb341, 4, none⟩ = some (.int .i64 a0_4) := (blk_cell BK341.out 4).trans rfl; have hfz59_0 := blk_frozen BK341.out 0; have hfz59_1 := blk_frozen BK341.out 1; have hfz59_2 := blk_frozen BK341.out 2; have hfz59_3 := blk_frozen BK341.out 3; have hfz59_4 := blk_frozen BK341.out 4) | ((with_reducible refine gate_callee (f := 12) rfl ?_); refine goesL_ (some 23) rfl rfl Tryd.func12 (by kernel_rfl) rfl #[.int .i64 (wrap64 ((Int.tmod a1 4001) + 1)), .agg #[.int .i64 a0_0, .int .i64 a0_1, .int .i64 a0_2, .int .i64 a0_3, .int .i64 a0_4]] rfl (by (try simp only [List.map_toArray, List.map_cons, List.map_nil]); first | done | rfl | (simp only [List.length_drop, List.length_take]; rfl)) ?_; (with_reducible refine (rule_Day.calls k (wrap64 ((Int.tmod a1 4001) + 1)) a0_0 a0_1 a0_2 a0_3 a0_4 t345 t346 _ ?side1 A5.out).mono ?_); (case side1 => exact GL.below HG.out (by repeat (first | (with_reducible first | exact HB.out | apply below_alloc | apply pw_below_drewN | apply below_drew1 | refine below_set ?_ GE341.out) | exact HB.out))); rintro e w60 ⟨rfl, hb⟩; refine ⟨_, rfl, ?_⟩; have n0_ := Aside0.mk (blk_below (g := gb341) (o := .cells #[.int .i64 a0_0, .int .i64 a0_1, .int .i64 a0_2, .int .i64 a0_3, .int .i64 a0_4] 25 (0, 0)) (by (with_reducible repeat (first | refine blk_drewN ?_ _ | refine blk_drew ?_ | refine blk_alloc ?_ _)); exact BK341.out) hb); have n1_ := Aside0.mk (below_step (by repeat (first | (with_reducible first | exact HB.out | apply below_alloc | apply pw_below_drewN | apply below_drew1 | refine below_set ?_ GE341.out) | exact HB.out)) hb); clear BK341; clear HB; have BK341 := n0_; have HB := n1_; clear n0_ n1_; (try clear hb); (try clear hb2); (try clear hk); (try clear hi)))
      go_ret
      exact ⟨by first | rfl | (simp [errW_none, errW_some] <;> rfl) | (simp [*, errW_none, errW_some] <;> rfl), by repeat (first | (with_reducible first | exact HB.out | apply below_alloc | apply pw_below_drewN | apply below_drew1 | refine below_set ?_ GE341.out) | exact HB.out)⟩
    · replace c54 := Bool.eq_false_iff.mpr c54
      subst c54
      have H1 : (some false) = some r := by rw [if_neg (show ¬ (false = true) by decide)] at H; exact H
      clear H
      have H := H1
      clear H1
      obtain rfl := Option.some.inj H
      go_enter Tryd.func10, Tryd.ntmps10
      go_wp2_with (first | ((with_reducible refine gate_dst (N := 2) rfl ?_); refine box_event ?hg (N := 2) ?hd (cs := #[.int .i64 a0_0, .int .i64 a0_1, .int .i64 a0_2, .int .i64 a0_3, .int .i64 a0_4]) (t := 25) ?hr ?_; (case hd => rfl); (case hg => rfl); (case hr => first | (go_simp; done) | (go_simp; rfl)); intro gb341 hg w61 hbox hb; have n0_ := Aside0.mk (below_step (by repeat (first | (with_reducible first | exact HB.out | apply below_alloc | apply pw_below_drewN | apply below_drew1) | exact HB.out)) hb); have n1_ := Aside0.mk (hbox); have n2_ := Aside0.mk ((by rw [hg]; exact (below_size (by repeat (first | (with_reducible first | exact HB.out | apply below_alloc | apply pw_below_drewN | apply below_drew1) | exact HB.out))) : w.heap.size ≤ gb341)); have n3_ := Aside0.mk ((by rw [hg]; exact (below_size (by repeat (first | (with_reducible first | exact HB.out | apply below_alloc | apply pw_below_drewN | apply below_drew1) | exact HB.out))) : w.heap.size ≤ gb341)); clear HB; have HB := n0_; have BK341 := n1_; have GW341 := n2_; have GE341 := n3_; clear n0_ n1_ n2_ n3_; clear hb hbox hg) | ((with_reducible refine gate_callee (f := 11) rfl ?_); refine goesL_ (some 10) rfl rfl Tryd.func11 (by kernel_rfl) rfl #[] rfl (by (try simp only [List.map_toArray, List.map_cons, List.map_nil]); first | done | rfl | (simp only [List.length_drop, List.length_take]; rfl)) ?_; (with_reducible refine (longcaselaw09_shown.calls  false _ ?side1 A3.out).mono ?_); (case side1 => exact GL.below HG.out (by repeat (first | (with_reducible first | exact HB.out | apply below_alloc | apply pw_below_drewN | apply below_drew1 | refine below_set ?_ GE341.out) | exact HB.out))); rintro e w62 ⟨rfl, hb⟩; refine ⟨_, rfl, ?_⟩; have n0_ := Aside0.mk (blk_below (g := gb341) (o := .cells #[.int .i64 a0_0, .int .i64 a0_1, .int .i64 a0_2, .int .i64 a0_3, .int .i64 a0_4] 25 (0, 0)) (by (with_reducible repeat (first | refine blk_drewN ?_ _ | refine blk_drew ?_ | refine blk_alloc ?_ _)); exact BK341.out) hb); have n1_ := Aside0.mk (below_step (by repeat (first | (with_reducible first | exact HB.out | apply below_alloc | apply pw_below_drewN | apply below_drew1 | refine below_set ?_ GE341.out) | exact HB.out)) hb); clear BK341; clear HB; have BK341 := n0_; have HB := n1_; clear n0_ n1_; (try clear hb); (try clear hb2); (try clear hk); (try clear hi); have hcz63_0 : w62.cell? ⟨gb341, 0, none⟩ = some (.int .i64 a0_0) := (blk_cell BK341.out 0).trans rfl; have hcz63_1 : w62.cell? ⟨gb341, 1, none⟩ = some (.int .i64 a0_1) := (blk_cell BK341.out 1).trans rfl; have hcz63_2 : w62.cell? ⟨gb341, 2, none⟩ = some (.int .i64 a0_2) := (blk_cell BK341.out 2).trans rfl; have hcz63_3 : w62.cell? ⟨gb341, 3, none⟩ = some (.int .i64 a0_3) := (blk_cell BK341.out 3).trans rfl; have hcz63_4 : w62.cell? ⟨gb341, 4, none⟩ = some (.int .i64 a0_4) := (blk_cell BK341.out 4).trans rfl; have hfz63_0 := blk_frozen BK341.out 0; have hfz63_1 := blk_frozen BK341.out 1; have hfz63_2 := blk_frozen BK341.out 2; have hfz63_3 := blk_frozen BK341.out 3; have hfz63_4 := blk_frozen BK341.out 4) | ((with_reducible refine gate_callee (f := 12) rfl ?_); refine goesL_ (some 16) rfl rfl Tryd.func12 (by kernel_rfl) rfl #[.int .i64 (Int.tmod a1 4001), .agg #[.int .i64 a0_0, .int .i64 a0_1, .int .i64 a0_2, .int .i64 a0_3, .int .i64 a0_4]] rfl (by (try simp only [List.map_toArray, List.map_cons, List.map_nil]); first | done | rfl | (simp only [List.length_drop, List.length_take]; rfl)) ?_; (with_reducible refine (rule_Day.calls k (Int.tmod a1 4001) a0_0 a0_1 a0_2 a0_3 a0_4 t343 t344 _ ?side1 A4.out).mono ?_); (case side1 => exact GL.below HG.out (by repeat (first | (with_reducible first | exact HB.out | apply below_alloc | apply pw_below_drewN | apply below_drew1 | refine below_set ?_ GE341.out) | exact HB.out))); rintro e w64 ⟨rfl, hb⟩; refine ⟨_, rfl, ?_⟩; have n0_ := Aside0.mk (blk_below (g := gb341) (o := .cells #[.int .i64 a0_0, .int .i64 a0_1, .int .i64 a0_2, .int .i64 a0_3, .int .i64 a0_4] 25 (0, 0)) (by (with_reducible repeat (first | refine blk_drewN ?_ _ | refine blk_drew ?_ | refine blk_alloc ?_ _)); exact BK341.out) hb); have n1_ := Aside0.mk (below_step (by repeat (first | (with_reducible first | exact HB.out | apply below_alloc | apply pw_below_drewN | apply below_drew1 | refine below_set ?_ GE341.out) | exact HB.out)) hb); clear BK341; clear HB; have BK341 := n0_; have HB := n1_; clear n0_ n1_; (try clear hb); (try clear hb2); (try clear hk); (try clear hi); have hcz65_0 : w64.cell? ⟨gb341, 0, none⟩ = some (.int .i64 a0_0) := (blk_cell BK341.out 0).trans rfl; have hcz65_1 : w64.cell? ⟨gb341, 1, none⟩ = some (.int .i64 a0_1) := (blk_cell BK341.out 1).trans rfl; have hcz65_2 : w64.cell? ⟨gb341, 2, none⟩ = some (.int .i64 a0_2) := (blk_cell BK341.out 2).trans rfl; have hcz65_3 : w64.cell? ⟨gb341, 3, none⟩ = some (.int .i64 a0_3) := (blk_cell BK341.out 3).trans rfl; have hcz65_4 : w64.cell? ⟨gb341, 4, none⟩ = some (.int .i64 a0_4) := (blk_cell BK341.out 4).trans rfl; have hfz65_0 := blk_frozen BK341.out 0; have hfz65_1 := blk_frozen BK341.out 1; have hfz65_2 := blk_frozen BK341.out 2; have hfz65_3 := blk_frozen BK341.out 3; have hfz65_4 := blk_frozen BK341.out 4) | ((with_reducible refine gate_callee (f := 12) rfl ?_); refine goesL_ (some 23) rfl rfl Tryd.func12 (by kernel_rfl) rfl #[.int .i64 (wrap64 ((Int.tmod a1 4001) + 1)), .agg #[.int .i64 a0_0, .int .i64 a0_1, .int .i64 a0_2, .int .i64 a0_3, .int .i64 a0_4]] rfl (by (try simp only [List.map_toArray, List.map_cons, List.map_nil]); first | done | rfl | (simp only [List.length_drop, List.length_take]; rfl)) ?_; (with_reducible refine (rule_Day.calls k (wrap64 ((Int.tmod a1 4001) + 1)) a0_0 a0_1 a0_2 a0_3 a0_4 t345 t346 _ ?side1 A5.out).mono ?_); (case side1 => exact GL.below HG.out (by repeat (first | (with_reducible first | exact HB.out | apply below_alloc | apply pw_below_drewN | apply below_drew1 | refine below_set ?_ GE341.out) | exact HB.out))); rintro e w66 ⟨rfl, hb⟩; refine ⟨_, rfl, ?_⟩; have n0_ := Aside0.mk (blk_below (g := gb341) (o := .cells #[.int .i64 a0_0, .int .i64 a0_1, .int .i64 a0_2, .int .i64 a0_3, .int .i64 a0_4] 25 (0, 0)) (by (with_reducible repeat (first | refine blk_drewN ?_ _ | refine blk_drew ?_ | refine blk_alloc ?_ _)); exact BK341.out) hb); have n1_ := Aside0.mk (below_step (by repeat (first | (with_reducible first | exact HB.out | apply below_alloc | apply pw_below_drewN | apply below_drew1 | refine below_set ?_ GE341.out) | exact HB.out)) hb); clear BK341; clear HB; have BK341 := n0_; have HB := n1_; clear n0_ n1_; (try clear hb); (try clear hb2); (try clear hk); (try clear hi)))
      go_ret
      exact ⟨by first | rfl | (simp [errW_none, errW_some] <;> rfl) | (simp [*, errW_none, errW_some] <;> rfl), by repeat (first | (with_reducible first | exact HB.out | apply below_alloc | apply pw_below_drewN | apply below_drew1 | refine below_set ?_ GE341.out) | exact HB.out)⟩

end Go.Proofs.YtgbehcahdgamoaaDoor.Fn

namespace Go.Proofs.YtgbehcahdgamoaaDoor.Fn
open Go.RowKit Go.Proofs.YtgbehcahdgamoaaDoorW.PrintWords Go.Proofs.YtgbehcahdgamoaaDoorW.PrintLast Go.Proofs.YtgbehcahdgamoaaDoorW.PrintMore

theorem tmod_range (a b : Int) (hb : 0 < b) : -b < Int.tmod a b ∧ Int.tmod a b < b := by
  have h2 := Int.tmod_eq_emod (a := a) (b := b)
  have h3 := Int.emod_nonneg a (show b ≠ 0 by omega)
  have h4 := Int.emod_lt_of_pos a hb
  have hn : (b.natAbs : Int) = b := Int.natAbs_of_nonneg (by omega)
  by_cases hd : 0 ≤ a ∨ b ∣ a
  · rw [if_pos hd] at h2; omega
  · rw [if_neg hd, hn] at h2
    have hne : a % b ≠ 0 := fun e => hd (.inr (Int.dvd_of_emod_eq_zero e))
    omega
theorem year_len (y : Int) : daysN (y + 1) 1 1 = daysN y 1 1 + 365 + (if leapB y = true then 1 else 0) := by
  unfold daysN yM mM leapB
  simp only [show (1 : Int) < 3 by decide, if_true]
  by_cases h4 : y % 4 = 0 <;> by_cases h100 : y % 100 = 0 <;> by_cases h400 : y % 400 = 0 <;> simp [h4, h100, h400] <;> omega
theorem may_small (y : Int) (h : -5000 ≤ y ∧ y ≤ 5000) : mayB y = true := by unfold mayB; simp; omega

theorem RuleYears_pure (c0 : Int) (c1 : Int) (c2 : Int) (c3 : Int) (c4 : Int) (y : Int) : longcaselaw09_RuleYears.f 3 c0 c1 c2 c3 c4 y = some true := by
  unfold longcaselaw09_RuleYears.f longcaselaw09_shown.f
  simp only [Option.bind_some]
  have hz := tmod_range y 4001 (by decide)
  generalize Int.tmod y 4001 = z at hz
  rw [w64 (a := z + 1) ⟨by omega, by omega⟩, day_eq 0 z c0 c1 c2 c3 c4, day_eq 0 (z + 1) c0 c1 c2 c3 c4, may_small z (by omega), may_small (z + 1) (by omega)]
  simp only [Option.bind_some, Bool.true_and]
  cases hc : chgB c0 c1 c2 c3 c4 true
  · simp
  · simp only [if_true]
    by_cases h3 : c0 = 3
    · rw [if_pos h3]
      rfl
    · rw [if_neg h3]
      have s1 := dayN_size z c0 c1 c2 c3 c4 (may_small z (by omega)) hc
      have s2 := dayN_size (z + 1) c0 c1 c2 c3 c4 (may_small (z + 1) (by omega)) hc
      rw [w64 (a := dayN (z + 1) c0 c1 c2 c3 - dayN z c0 c1 c2 c3) ⟨by omega, by omega⟩]
      have hD : dateB c0 c1 c2 c3 c4 = true := by unfold chgB at hc; simp only [Bool.and_eq_true] at hc; exact hc.2
      have hl := year_len z
      have hd : dayN (z + 1) c0 c1 c2 c3 - dayN z c0 c1 c2 c3 = 365 ∨ dayN (z + 1) c0 c1 c2 c3 - dayN z c0 c1 c2 c3 = 366 := by
        unfold dateB at hD
        unfold dayN
        by_cases h1 : c0 = 1
        · rw [if_pos h1, if_pos h1]
          have hb : ¬ (leapB z = true ∧ leapB (z + 1) = true) := by unfold leapB; simp; omega
          by_cases l1 : leapB z = true
          · have l2 : ¬ leapB (z + 1) = true := fun e => hb ⟨l1, e⟩
            rw [if_pos l1] at hl
            rw [if_neg (fun e => l2 e.1)]
            split <;> omega
          · rw [if_neg l1] at hl
            rw [if_neg (c := leapB z = true ∧ _) (fun e => l1 e.1)]
            split <;> omega
        · rw [if_neg h1] at hD
          rw [if_neg h1, if_neg h1]
          by_cases h2 : c0 = 2
          · rw [if_pos h2, if_pos h2]
            split at hl <;> omega
          · rw [if_neg h2, if_neg h3] at hD
            cases hD
      rcases hd with e | e
      · rw [if_pos e]
      · rw [if_neg (by omega), e]
        rfl

theorem RuleYears_walk (c0 : Int) (c1 : Int) (c2 : Int) (c3 : Int) (c4 : Int) (y : Int) (w : World) (hG : GL w) :
    Calls Tryd.prog 10 #[.agg #[.int .i64 c0, .int .i64 c1, .int .i64 c2, .int .i64 c3, .int .i64 c4], .int .i64 y] w fun e w' => e = .returned (.bool true) ∧ Below w.heap.size w w' :=
  longcaselaw09_RuleYears.calls 3 c0 c1 c2 c3 c4 y true w hG (RuleYears_pure c0 c1 c2 c3 c4 y)
end Go.Proofs.YtgbehcahdgamoaaDoor.Fn
