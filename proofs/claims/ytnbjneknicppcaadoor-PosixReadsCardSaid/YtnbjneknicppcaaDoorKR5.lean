/- Part 5 of the texts for KTR: contracts and plain laws that it leans on. -/
import Derived.Test.YtnbjneknicppcaaDoorKR4
import Derived.Test.YtnbjneknicppcaaDoorKR2
import Derived.Lib.LaidTab
import Derived.Lib.ItoaNum
namespace Go.Proofs.YtnbjneknicppcaaDoor.Fn
set_option linter.unusedVariables false
set_option linter.unusedSimpArgs false
open Go.RowKit Go.Proofs.YtnbjneknicppcaaDoorW.PrintWords Go.Proofs.YtnbjneknicppcaaDoorW.PrintLast Go.Lib
theorem setRow_alloc (w : World) (z cs : Array Value) (T : TypeId) : (w.alloc (.cells z T)).setRow w.heap.size cs = w.alloc (.cells cs T) := by
  unfold World.setRow World.alloc
  simp only [World.mk.injEq, true_and, and_true]
  rw [Array.ext_iff]
  constructor
  · simp
  · intro i h1 h2
    simp only [Array.getElem_modify, Array.getElem_push]
    by_cases h : w.heap.size = i
    · subst h; simp
    · rw [if_neg h]
      have : i < w.heap.size := by simp at h2; omega
      rw [dif_pos this, dif_pos this]
def s1L : List UInt8 := [69, 83, 84, 53, 69, 68, 84, 44, 77, 51, 46, 50, 46, 48, 44, 77, 49, 49, 46, 49, 46, 48]
def r1R : Rul := ⟨⟨-18000, false, ⟨#[69, 83, 84]⟩⟩, ⟨-14400, true, ⟨#[69, 68, 84]⟩⟩, true, ⟨3, 3, 2, 0, 7200⟩, ⟨3, 11, 1, 0, 7200⟩⟩
def s2L : List UInt8 := [60, 43, 48, 51, 51, 48, 62, 45, 51, 58, 51, 48]
def r2R : Rul := ⟨⟨12600, false, ⟨#[43, 48, 51, 51, 48]⟩⟩, .zero, false, .zero, .zero⟩
def s3L : List UInt8 := [69, 83, 84, 53, 69, 68, 84]
theorem shown_1 : tkRule false s1L = some r1R := by kernel_rfl
theorem shown_2 : tkRule false s2L = some r2R := by kernel_rfl
theorem shown_3 : tkRule false s3L = none := by kernel_rfl
theorem shown_4 : prRule r1R = s1L := by kernel_rfl
theorem shown_5 : r1R.right false = true := by kernel_rfl
theorem shown_6 : r1R.right true = true := by kernel_rfl
theorem shown_7 : Rul.zero.right true = false := by kernel_rfl
set_option maxRecDepth 100000 in
set_option maxHeartbeats 8000000 in
theorem shown8_calls (w : World) (hG : G8 w) :
    Calls Tryd.prog 13 #[] w fun e w' => e = .returned (.bool true) ∧ Below w.heap.size w w' := by
  have HG := Aside0.mk hG
  clear hG
  have HA : Aside0 (∀ W, Calls Tryd.prog 18 #[.string ⟨#[69, 83, 84, 53, 69, 68, 84, 44, 77, 51, 46, 50, 46, 48, 44, 77, 49, 49, 46, 49, 46, 48]⟩, .bool false] W fun e w' => e = .returned (.tuple #[.agg #[.int .i64 (-18000), .bool false, .string ⟨#[69, 83, 84]⟩, .int .i64 (-14400), .bool true, .string ⟨#[69, 68, 84]⟩, .bool true, .int .i64 3, .int .i64 3, .int .i64 2, .int .i64 0, .int .i64 7200, .int .i64 3, .int .i64 11, .int .i64 1, .int .i64 0, .int .i64 7200], .int .i64 0]) ∧ Below W.heap.size W w') := ⟨fun W => Parse_yes s1L (by decide) false W r1R shown_1⟩
  have HB : Aside0 (∀ W, G8 W → Calls Tryd.prog 15 #[.agg #[.int .i64 (-18000), .bool false, .string ⟨#[69, 83, 84]⟩, .int .i64 (-14400), .bool true, .string ⟨#[69, 68, 84]⟩, .bool true, .int .i64 3, .int .i64 3, .int .i64 2, .int .i64 0, .int .i64 7200, .int .i64 3, .int .i64 11, .int .i64 1, .int .i64 0, .int .i64 7200], .bool false] W fun e w' => e = .returned (.tuple #[.string ⟨#[69, 83, 84, 53, 69, 68, 84, 44, 77, 51, 46, 50, 46, 48, 44, 77, 49, 49, 46, 49, 46, 48]⟩, .int .i64 0]) ∧ Below W.heap.size W w') := ⟨fun W hW => by
    have := Print_yes (-18000) false [69, 83, 84] (-14400) true [69, 68, 84] true 3 3 2 0 7200 3 11 1 0 7200 false shown_5 W hW
    rw [show prRule (⟨⟨-18000, false, Tx [69, 83, 84]⟩, ⟨-14400, true, Tx [69, 68, 84]⟩, true, ⟨3, 3, 2, 0, 7200⟩, ⟨3, 11, 1, 0, 7200⟩⟩ : Rul) = s1L from shown_4] at this
    exact this⟩
  have HC : Aside0 (∀ W, Calls Tryd.prog 18 #[.string ⟨#[60, 43, 48, 51, 51, 48, 62, 45, 51, 58, 51, 48]⟩, .bool false] W fun e w' => e = .returned (.tuple #[.agg #[.int .i64 12600, .bool false, .string ⟨#[43, 48, 51, 51, 48]⟩, .int .i64 0, .bool false, .string ⟨#[]⟩, .bool false, .int .i64 0, .int .i64 0, .int .i64 0, .int .i64 0, .int .i64 0, .int .i64 0, .int .i64 0, .int .i64 0, .int .i64 0, .int .i64 0], .int .i64 0]) ∧ Below W.heap.size W w') := ⟨fun W => Parse_yes s2L (by decide) false W r2R shown_2⟩
  have HD : Aside0 (∀ W, G8 W → Calls Tryd.prog 18 #[.string ⟨#[69, 83, 84, 53, 69, 68, 84]⟩, .bool false] W fun e w' => e = .returned (.tuple #[.agg #[.int .i64 0, .bool false, .string ⟨#[]⟩, .int .i64 0, .bool false, .string ⟨#[]⟩, .bool false, .int .i64 0, .int .i64 0, .int .i64 0, .int .i64 0, .int .i64 0, .int .i64 0, .int .i64 0, .int .i64 0, .int .i64 0, .int .i64 0], .int .i64 4]) ∧ Below W.heap.size W w') := ⟨fun W hW => Parse_no s3L (by decide) false W hW shown_3⟩
  have HE : Aside0 (∀ W, Calls Tryd.prog 15 #[.agg #[.int .i64 0, .bool false, .string ⟨#[]⟩, .int .i64 0, .bool false, .string ⟨#[]⟩, .bool false, .int .i64 0, .int .i64 0, .int .i64 0, .int .i64 0, .int .i64 0, .int .i64 0, .int .i64 0, .int .i64 0, .int .i64 0, .int .i64 0], .bool true] W fun e w' => e = .returned (.tuple #[.string ⟨#[]⟩, .int .i64 1]) ∧ Below W.heap.size W w') := ⟨fun W => Print_no 0 false ⟨#[]⟩ 0 false ⟨#[]⟩ false 0 0 0 0 0 0 0 0 0 0 true shown_7 W⟩
  have HF : Aside0 (∀ W, Calls Tryd.prog 16 #[.agg #[.int .i64 (-18000), .bool false, .string ⟨#[69, 83, 84]⟩, .int .i64 (-14400), .bool true, .string ⟨#[69, 68, 84]⟩, .bool true, .int .i64 3, .int .i64 3, .int .i64 2, .int .i64 0, .int .i64 7200, .int .i64 3, .int .i64 11, .int .i64 1, .int .i64 0, .int .i64 7200], .bool true] W fun e w' => e = .returned (.bool true) ∧ Below W.heap.size W w') := ⟨fun W => posix_Right.calls 3 (-18000) false ⟨#[69, 83, 84]⟩ (-14400) true ⟨#[69, 68, 84]⟩ true 3 3 2 0 7200 3 11 1 0 7200 true true W (by rw [rightR_eq 0]; exact congrArg some shown_6)⟩
  go_enter Tryd.func13, Tryd.ntmps13
  go_wp2_with fail
  refine (HA.out _).mono ?_
  rintro e w1 ⟨rfl, hb1⟩
  have H1 := Aside0.mk hb1
  clear hb1 HA
  go_wp2_with (first | ((with_reducible refine gate_store (t := 27) (p := 1) rfl ?_); refine wpList_store_row rfl 27 (.tmp 1) (.tmp 13) rfl w1.heap.size #[.int .i64 (-18000), .bool false, .string ⟨#[69, 83, 84]⟩, .int .i64 (-14400), .bool true, .string ⟨#[69, 68, 84]⟩, .bool true, .int .i64 3, .int .i64 3, .int .i64 2, .int .i64 0, .int .i64 7200, .int .i64 3, .int .i64 11, .int .i64 1, .int .i64 0, .int .i64 7200] rfl rfl 27 _ (blk_new _ _) (by kernel_rfl) rfl (by simp [Value.oneCell']) ?_; rw [setRow_alloc]) | ((with_reducible refine gate_dst (N := 16) rfl ?_); refine wpList_load_row rfl 27 _ rfl w1.heap.size rfl 27 #[.int .i64 (-18000), .bool false, .string ⟨#[69, 83, 84]⟩, .int .i64 (-14400), .bool true, .string ⟨#[69, 68, 84]⟩, .bool true, .int .i64 3, .int .i64 3, .int .i64 2, .int .i64 0, .int .i64 7200, .int .i64 3, .int .i64 11, .int .i64 1, .int .i64 0, .int .i64 7200] (0, 0) _ (blk_new _ _) Tryd.underlying27 rfl (by kernel_rfl) ?_))
  refine (HB.out _ (HG.out.below (below_alloc H1.out _))).mono ?_
  rintro e w2 ⟨rfl, hb2⟩
  have B1 := Aside0.mk (blk_below (blk_new _ _) hb2)
  have H2 := Aside0.mk ((below_alloc H1.out (.cells #[.int .i64 (-18000), .bool false, .string ⟨#[69, 83, 84]⟩, .int .i64 (-14400), .bool true, .string ⟨#[69, 68, 84]⟩, .bool true, .int .i64 3, .int .i64 3, .int .i64 2, .int .i64 0, .int .i64 7200, .int .i64 3, .int .i64 11, .int .i64 1, .int .i64 0, .int .i64 7200] 27)).trans (hb2.mono (by have := H1.out.size; simp; omega)))
  clear hb2 HB H1
  go_wp2_with fail
  refine (HC.out _).mono ?_
  rintro e w3 ⟨rfl, hb3⟩
  have B2 := Aside0.mk (blk_below B1.out hb3)
  have H3 := Aside0.mk (H2.out.trans (hb3.mono H2.out.size))
  clear hb3 HC H2 B1
  go_wp2_with ((with_reducible refine gate_store (t := 27) (p := 5) rfl ?_); refine wpList_store_row rfl 27 (.tmp 5) (.tmp 22) rfl w3.heap.size #[.int .i64 12600, .bool false, .string ⟨#[43, 48, 51, 51, 48]⟩, .int .i64 0, .bool false, .string ⟨#[]⟩, .bool false, .int .i64 0, .int .i64 0, .int .i64 0, .int .i64 0, .int .i64 0, .int .i64 0, .int .i64 0, .int .i64 0, .int .i64 0, .int .i64 0] rfl rfl 27 _ (blk_new _ _) (by kernel_rfl) rfl (by simp [Value.oneCell']) ?_; rw [setRow_alloc])
  refine (HD.out _ (HG.out.below (below_alloc H3.out _))).mono ?_
  rintro e w4 ⟨rfl, hb4⟩
  have B3 := Aside0.mk (blk_below (blk_alloc B2.out _) hb4)
  have B4 := Aside0.mk (blk_below (blk_new _ _) hb4)
  have H4 := Aside0.mk ((below_alloc H3.out (.cells #[.int .i64 12600, .bool false, .string ⟨#[43, 48, 51, 51, 48]⟩, .int .i64 0, .bool false, .string ⟨#[]⟩, .bool false, .int .i64 0, .int .i64 0, .int .i64 0, .int .i64 0, .int .i64 0, .int .i64 0, .int .i64 0, .int .i64 0, .int .i64 0, .int .i64 0] 27)).trans (hb4.mono (by have := H3.out.size; simp; omega)))
  clear hb4 HD H3 B2
  go_wp2_with ((with_reducible refine gate_store (t := 27) (p := 7) rfl ?_); refine wpList_store_row rfl 27 (.tmp 7) (.tmp 26) rfl w4.heap.size #[.int .i64 0, .bool false, .string ⟨#[]⟩, .int .i64 0, .bool false, .string ⟨#[]⟩, .bool false, .int .i64 0, .int .i64 0, .int .i64 0, .int .i64 0, .int .i64 0, .int .i64 0, .int .i64 0, .int .i64 0, .int .i64 0, .int .i64 0] rfl rfl 27 _ (blk_new _ _) (by kernel_rfl) rfl (by simp [Value.oneCell']) ?_; rw [setRow_alloc])
  refine (HE.out _).mono ?_
  rintro e w5 ⟨rfl, hb5⟩
  have B5 := Aside0.mk (blk_below (blk_alloc B3.out _) hb5)
  have B6 := Aside0.mk (blk_below (blk_alloc B4.out _) hb5)
  have H5 := Aside0.mk ((below_alloc H4.out (.cells #[.int .i64 0, .bool false, .string ⟨#[]⟩, .int .i64 0, .bool false, .string ⟨#[]⟩, .bool false, .int .i64 0, .int .i64 0, .int .i64 0, .int .i64 0, .int .i64 0, .int .i64 0, .int .i64 0, .int .i64 0, .int .i64 0, .int .i64 0] 27)).trans (hb5.mono (by have := H4.out.size; simp; omega)))
  clear hb5 HE H4 B3 B4
  have c0 := (blk_cell B5.out 0).trans rfl
  have c1 := (blk_cell B5.out 1).trans rfl
  have c2 := (blk_cell B5.out 2).trans rfl
  have c3 := (blk_cell B5.out 3).trans rfl
  have c4 := (blk_cell B5.out 4).trans rfl
  have c5 := (blk_cell B5.out 5).trans rfl
  have c6 := (blk_cell B5.out 6).trans rfl
  have c7 := (blk_cell B5.out 7).trans rfl
  have c8 := (blk_cell B5.out 8).trans rfl
  have c9 := (blk_cell B5.out 9).trans rfl
  have c10 := (blk_cell B5.out 10).trans rfl
  have c11 := (blk_cell B5.out 11).trans rfl
  have c12 := (blk_cell B5.out 12).trans rfl
  have c13 := (blk_cell B5.out 13).trans rfl
  have c14 := (blk_cell B5.out 14).trans rfl
  have c15 := (blk_cell B5.out 15).trans rfl
  have c16 := (blk_cell B5.out 16).trans rfl
  have d0 := (blk_cell B6.out 0).trans rfl
  have d6 := (blk_cell B6.out 6).trans rfl
  simp only [List.getElem?_toArray, List.getElem?_cons_succ, List.getElem?_cons_zero] at c0 c1 c2 c3 c4 c5 c6 c7 c8 c9 c10 c11 c12 c13 c14 c15 c16 d0 d6
  have e1 : (⟨#[69, 83, 84, 53, 69, 68, 84, 44, 77, 51, 46, 50, 46, 48, 44, 77, 49, 49, 46, 49, 46, 48]⟩ : ByteArray).toList = [69, 83, 84, 53, 69, 68, 84, 44, 77, 51, 46, 50, 46, 48, 44, 77, 49, 49, 46, 49, 46, 48] := by decide +kernel
  go_wp2_with (go_at_call 16; refine (HF.out _).mono ?_)
  rintro e w6 ⟨rfl, hb6⟩
  have H6 := Aside0.mk (H5.out.trans (hb6.mono H5.out.size))
  clear hb6
  go_wp2
  go_ret
  exact ⟨rfl, H6.out⟩
end Go.Proofs.YtnbjneknicppcaaDoor.Fn

namespace Go.Proofs.YtnbjneknicppcaaDoor.Fn
set_option linter.unusedVariables false
set_option linter.unusedSimpArgs false
open Go.RowKit
structure GL (w : World) : Prop where
  tab : Lib.TabIs Tryd.prog w "internal/strconv.uint64pow10" .u64 Lib.pow10Tab
  err : ∃ tp p, w.var? Tryd.prog "strconv.ErrSyntax" = some #[.iface tp p]
theorem gl_var {w w' : World} {n : String} {g : Nat} {cs : Array Value} (hg : Tryd.prog.globalNamed n = some g) (h : w.var? Tryd.prog n = some cs) (hb : Below w.heap.size w w') : w'.var? Tryd.prog n = some cs := by
  have hB : g < w.heap.size := by
    unfold World.var? at h
    rw [hg] at h
    simp only [Option.bind_some] at h
    rcases Nat.lt_or_ge g w.heap.size with h' | h'
    · exact h'
    · simp [Array.getElem?_eq_none h'] at h
  unfold World.var? at h ⊢
  rw [hg] at h ⊢
  simp only [Option.bind_some] at h ⊢
  rw [hb.block g hB]
  exact h
theorem gl_tab : Tryd.prog.globalNamed "internal/strconv.uint64pow10" = some 0 := by kernel_rfl
theorem gl_syn : Tryd.prog.globalNamed "strconv.ErrSyntax" = some 2 := by kernel_rfl
theorem GL.below {w w' : World} (h : GL w) (hb : Below w.heap.size w w') : GL w' := by
  obtain ⟨tp, p, h2⟩ := h.err
  exact ⟨gl_var gl_tab h.tab hb, tp, p, gl_var gl_syn h2 hb⟩
end Go.Proofs.YtnbjneknicppcaaDoor.Fn

namespace Go.Proofs.YtnbjneknicppcaaDoor.Fn
set_option linter.unusedVariables false
set_option linter.unusedSimpArgs false
open Go.RowKit
theorem GL.to8 {w : World} (h : GL w) : G8 w := ⟨h.tab, h.err⟩
theorem G8.toL {w : World} (h : G8 w) : GL w := ⟨h.tab, h.err⟩
def longcaselaw08_shown.f : Option Bool := some true
theorem longcaselaw08_shown.calls (r : Bool) (w : World) (hG : GL w) (h : longcaselaw08_shown.f = some r) :
    Calls Tryd.prog 13 #[] w fun e w' => e = .returned (.bool r) ∧ Below w.heap.size w w' := by
  obtain rfl : true = r := Option.some.inj h
  exact shown8_calls w hG.to8
def posix_Print.f (s0 : Int) (s1 : Bool) (s2 : ByteArray) (d0 : Int) (d1 : Bool) (d2 : ByteArray) (bo : Bool) (a0 : Int) (a1 : Int) (a2 : Int) (a3 : Int) (a4 : Int) (e0 : Int) (e1 : Int) (e2 : Int) (e3 : Int) (e4 : Int) (wide : Bool) : Option (ByteArray × Int) :=
  some (if rightB s0 s1 s2 d0 d1 d2 bo a0 a1 a2 a3 a4 e0 e1 e2 e3 e4 wide = true then (Tx (prRule ⟨⟨s0, s1, s2⟩, ⟨d0, d1, d2⟩, bo, ⟨a0, a1, a2, a3, a4⟩, ⟨e0, e1, e2, e3, e4⟩⟩), 0) else (emptyS, 1))
theorem posix_Print.calls (s0 : Int) (s1 : Bool) (s2 : ByteArray) (d0 : Int) (d1 : Bool) (d2 : ByteArray) (bo : Bool) (a0 : Int) (a1 : Int) (a2 : Int) (a3 : Int) (a4 : Int) (e0 : Int) (e1 : Int) (e2 : Int) (e3 : Int) (e4 : Int) (wide : Bool) (r1 : ByteArray) (r2 : Int) (w : World) (hG : GL w) (h : posix_Print.f s0 s1 s2 d0 d1 d2 bo a0 a1 a2 a3 a4 e0 e1 e2 e3 e4 wide = some (r1, r2)) :
    Calls Tryd.prog 15 #[.agg #[.int .i64 s0, .bool s1, .string s2, .int .i64 d0, .bool d1, .string d2, .bool bo, .int .i64 a0, .int .i64 a1, .int .i64 a2, .int .i64 a3, .int .i64 a4, .int .i64 e0, .int .i64 e1, .int .i64 e2, .int .i64 e3, .int .i64 e4], .bool wide] w fun e w' => e = .returned (.tuple #[.string r1, .int .i64 r2]) ∧ Below w.heap.size w w' := by
  unfold posix_Print.f at h
  cases hr : rightB s0 s1 s2 d0 d1 d2 bo a0 a1 a2 a3 a4 e0 e1 e2 e3 e4 wide
  · rw [hr, if_neg (by decide)] at h
    cases h
    exact Print_no s0 s1 s2 d0 d1 d2 bo a0 a1 a2 a3 a4 e0 e1 e2 e3 e4 wide hr w
  · rw [hr, if_pos rfl] at h
    cases h
    have := Print_yes s0 s1 s2.data.toList d0 d1 d2.data.toList bo a0 a1 a2 a3 a4 e0 e1 e2 e3 e4 wide (by simp only [Tx_of]; exact hr) w hG.to8
    simp only [Tx_of] at this
    exact this
def Rul.tup (r : Rul) (c : Int) : Int × Bool × ByteArray × Int × Bool × ByteArray × Bool × Int × Int × Int × Int × Int × Int × Int × Int × Int × Int × Int :=
  (r.std.off, r.std.dst, r.std.name, r.dst.off, r.dst.dst, r.dst.name, r.both, r.st.how, r.st.n, r.st.week, r.st.wday, r.st.time, r.en.how, r.en.n, r.en.week, r.en.wday, r.en.time, c)
def posix_Parse.f (s : ByteArray) (wide : Bool) : Option (Int × Bool × ByteArray × Int × Bool × ByteArray × Bool × Int × Int × Int × Int × Int × Int × Int × Int × Int × Int × Int) :=
  if s.size ≤ 1000 then some (match tkRule wide s.data.toList with | some r => r.tup 0 | none => Rul.zero.tup 4) else none
theorem posix_Parse.calls (s : ByteArray) (wide : Bool) (r1 : Int) (r2 : Bool) (r3 : ByteArray) (r4 : Int) (r5 : Bool) (r6 : ByteArray) (r7 : Bool) (r8 r9 r10 r11 r12 r13 r14 r15 r16 r17 r18 : Int) (w : World) (hG : GL w)
    (h : posix_Parse.f s wide = some (r1, r2, r3, r4, r5, r6, r7, r8, r9, r10, r11, r12, r13, r14, r15, r16, r17, r18)) :
    Calls Tryd.prog 18 #[.string s, .bool wide] w fun e w' => e = .returned (.tuple #[.agg #[.int .i64 r1, .bool r2, .string r3, .int .i64 r4, .bool r5, .string r6, .bool r7, .int .i64 r8, .int .i64 r9, .int .i64 r10, .int .i64 r11, .int .i64 r12, .int .i64 r13, .int .i64 r14, .int .i64 r15, .int .i64 r16, .int .i64 r17], .int .i64 r18]) ∧ Below w.heap.size w w' := by
  unfold posix_Parse.f at h
  split at h
  · rename_i hs
    have hl : s.data.toList.length ≤ 1000 := by rw [Array.length_toList]; exact hs
    cases ht : tkRule wide s.data.toList with
    | none =>
      have H := Parse_no s.data.toList hl wide w hG.to8 ht
      rw [ht] at h
      simp only [Rul.tup, Option.some.injEq, Prod.mk.injEq] at h
      obtain ⟨rfl, rfl, rfl, rfl, rfl, rfl, rfl, rfl, rfl, rfl, rfl, rfl, rfl, rfl, rfl, rfl, rfl, rfl⟩ := h
      simp only [Tx_of] at H
      exact H
    | some r =>
      have H := Parse_yes s.data.toList hl wide w r ht
      rw [ht] at h
      simp only [Rul.tup, Option.some.injEq, Prod.mk.injEq] at h
      obtain ⟨rfl, rfl, rfl, rfl, rfl, rfl, rfl, rfl, rfl, rfl, rfl, rfl, rfl, rfl, rfl, rfl, rfl, rfl⟩ := h
      simp only [Tx_of] at H
      exact H
  · cases h
end Go.Proofs.YtnbjneknicppcaaDoor.Fn

namespace Go.Proofs.YtnbjneknicppcaaDoor.Fn
set_option linter.unusedVariables false
set_option linter.unusedSimpArgs false
def Stop (p : UInt8 → Bool) (t : List UInt8) : Prop := ∀ c r, t = c :: r → p c = false
theorem Stop.nil (p : UInt8 → Bool) : Stop p [] := fun _ _ h => by cases h
theorem Stop.cons {p : UInt8 → Bool} {c : UInt8} (h : p c = false) (r : List UInt8) : Stop p (c :: r) := fun _ _ e => by cases e; exact h
theorem tkSixty_none (t : List UInt8) (h : eats 58 t = false) : tkSixty t = some (0, false, t) := by
  unfold tkSixty; rw [if_neg (by rw [h]; decide)]
theorem eats_cons (c x : UInt8) (t : List UInt8) : eats c (x :: t) = (x == c) := by simp [eats]
end Go.Proofs.YtnbjneknicppcaaDoor.Fn

namespace Go.Proofs.YtnbjneknicppcaaDoor.Fn
set_option linter.unusedVariables false
set_option linter.unusedSimpArgs false
end Go.Proofs.YtnbjneknicppcaaDoor.Fn

namespace Go.Proofs.YtnbjneknicppcaaDoor.Fn
set_option linter.unusedVariables false
set_option linter.unusedSimpArgs false
/-! Nothing shorter is read as it. -/
theorem numN_ltF : ∀ (l : List UInt8) (acc : Nat), l.all digB = true → l.foldl (fun n c => n * 10 + (c.toNat - 48)) acc < (acc + 1) * 10 ^ l.length
  | [], acc, _ => by simp
  | c :: l, acc, h => by
    rw [List.all_cons, Bool.and_eq_true] at h
    have h2 := h.1
    have h3 : c.toNat ≤ 57 := by unfold digB at h2; simp at h2; omega
    have h4 := numN_ltF l (acc * 10 + (c.toNat - 48)) h.2
    rw [List.foldl_cons, List.length_cons, Nat.pow_succ]
    refine Nat.lt_of_lt_of_le h4 ?_
    rw [Nat.mul_comm (10 ^ l.length) 10, ← Nat.mul_assoc]
    exact Nat.mul_le_mul_right _ (by omega)
theorem numN_lt (l : List UInt8) (h : l.all digB = true) : numN l < 10 ^ l.length := by
  have := numN_ltF l 0 h
  simpa [numN] using this
theorem run_rest (p : UInt8 → Bool) (m : Nat) (l : List UInt8) : (runRest p m l).length + (runOf p m l).length = l.length := by
  have := run_len2 p m l
  unfold runRest; rw [List.length_drop]; omega
theorem tkSixty_short {l l' : List UInt8} {n : Int} {b : Bool} (h : tkSixty l = some (n, b, l')) : (0 ≤ n ∧ n < 60) ∧ (b = true ∧ l'.length + 3 = l.length ∨ b = false ∧ n = 0 ∧ l' = l) := by
  unfold tkSixty at h
  split at h
  · rename_i he
    split at h
    · rename_i h2
      split at h
      · rename_i h60
        cases h
        have := run_rest digB 2 l.tail
        have hl : l.length = l.tail.length + 1 := by
          cases l with
          | nil => cases he
          | cons c r => rfl
        refine ⟨⟨by unfold numOf; omega, h60⟩, .inl ⟨rfl, by omega⟩⟩
      · cases h
    · cases h
  · cases h; exact ⟨by omega, .inr ⟨rfl, rfl, rfl⟩⟩
theorem takeWhile_len (p : UInt8 → Bool) (l : List UInt8) : (l.takeWhile p).length ≤ l.length := (List.takeWhile_prefix p).length_le
end Go.Proofs.YtnbjneknicppcaaDoor.Fn

namespace Go.Proofs.YtnbjneknicppcaaDoor.Fn
set_option linter.unusedVariables false
set_option linter.unusedSimpArgs false
open Go.RowKit Go.Proofs.YtnbjneknicppcaaDoorW.PrintWords Go.Proofs.YtnbjneknicppcaaDoorW.PrintLast Go.Proofs.YtnbjneknicppcaaDoorW.PrintMore
theorem Parse_some {s : ByteArray} {wide : Bool} {r : Rul} (hs : s.size ≤ 1000) (h : tkRule wide s.data.toList = some r) : posix_Parse.f s wide = some (r.tup 0) := by
  unfold posix_Parse.f; rw [if_pos hs, h]
theorem Parse_none {s : ByteArray} {wide : Bool} (hs : s.size ≤ 1000) (h : tkRule wide s.data.toList = none) : posix_Parse.f s wide = some (Rul.zero.tup 4) := by
  unfold posix_Parse.f; rw [if_pos hs, h]
theorem cut_size (s : ByteArray) (m : Nat) : (s.extract 0 (mn (s.size : Int) m).toNat).size ≤ m := by
  rw [ByteArray.size_extract]
  unfold mn
  split <;> omega
theorem cut_ok (s : ByteArray) (m : Nat) : 0 ≤ mn (s.size : Int) m ∧ mn (s.size : Int) m ≤ (s.size : Int) := by
  unfold mn
  split <;> omega
end Go.Proofs.YtnbjneknicppcaaDoor.Fn

namespace Go.Proofs.YtnbjneknicppcaaDoor.Fn
open Go.RowKit Go.Proofs.YtnbjneknicppcaaDoorW.PrintWords Go.Proofs.YtnbjneknicppcaaDoorW.PrintLast Go.Proofs.YtnbjneknicppcaaDoorW.PrintMore
attribute [local go_sem] max2_int min2_int max_two min_two max_three min_three max_four min_four
set_option linter.unusedVariables false
set_option linter.unusedSimpArgs false
/-! ### longcaseref08_Change: function 24 -/
def longcaseref08_Change.j0 : Nat → Bool → Int → Int → Int → Int → Int → Option (Bool)
  | 0, _, _, _, _, _, _ => none
  | k + 1, x29, x181000, x181001, x181002, x181003, x181004 => if x29 = true then (some false) else (if x181000 = 1 then (if x181001 ≥ 1 then (if x181001 ≤ 365 then (if x181002 = 0 then (some (x181003 == 0)) else (some false)) else (some false)) else (some false)) else (if x181000 = 2 then (if x181001 ≥ 0 then (if x181001 ≤ 365 then (if x181002 = 0 then (some (x181003 == 0)) else (some false)) else (some false)) else (some false)) else (if x181000 = 3 then (if x181001 ≥ 1 then (if x181001 ≤ 12 then (if x181002 ≥ 1 then (if x181002 ≤ 5 then (if x181003 ≥ 0 then (some (decide (x181003 ≤ 6))) else (some false)) else (some false)) else (some false)) else (some false)) else (some false)) else (some false))))
def longcaseref08_Change.f (k : Nat) (a0_0 : Int) (a0_1 : Int) (a0_2 : Int) (a0_3 : Int) (a0_4 : Int) (a1 : Bool) : Option (Bool) := if a1 = true then (if a0_4 < (-604799) then (longcaseref08_Change.j0 k true a0_0 a0_1 a0_2 a0_3 a0_4) else (if a0_4 > 604799 then (longcaseref08_Change.j0 k true a0_0 a0_1 a0_2 a0_3 a0_4) else (longcaseref08_Change.j0 k false a0_0 a0_1 a0_2 a0_3 a0_4))) else (if a0_4 < 0 then (longcaseref08_Change.j0 k true a0_0 a0_1 a0_2 a0_3 a0_4) else (longcaseref08_Change.j0 k (decide (a0_4 > 89999)) a0_0 a0_1 a0_2 a0_3 a0_4))
theorem longcaseref08_Change.mono_l : ∀ k, (∀ y0 y1 y2 y3 y4 y5, LeO (longcaseref08_Change.j0 k y0 y1 y2 y3 y4 y5) (longcaseref08_Change.j0 (k + 1) y0 y1 y2 y3 y4 y5))
  | 0 => fun _ _ _ _ _ _ r h => by simp [longcaseref08_Change.j0] at h
  | k + 1 => by
    have ih0 := longcaseref08_Change.mono_l k
    · intro y0 y1 y2 y3 y4 y5
      unfold longcaseref08_Change.j0
      repeat' first
      | (with_reducible exact ih0 _ _ _ _ _ _)
      | (with_reducible exact LeO.refl _)
      | (with_reducible exact LeO.none _)
      | (with_reducible refine LeO.ite ?_ ?_)
      | (with_reducible refine LeO.bind ?_ (fun _ => ?_))
      | exact ih0 _ _ _ _ _ _
      | exact LeO.none _
      | refine LeO.ite ?_ ?_
      | refine LeO.bind ?_ (fun _ => ?_)
theorem longcaseref08_Change.mono : ∀ a0 a1 a2 a3 a4 a5 k, LeO (longcaseref08_Change.f k a0 a1 a2 a3 a4 a5) (longcaseref08_Change.f (k + 1) a0 a1 a2 a3 a4 a5) := by
  intro a0 a1 a2 a3 a4 a5 k
  have ih0 := longcaseref08_Change.mono_l k
  unfold longcaseref08_Change.f
  repeat' first
      | (with_reducible exact ih0 _ _ _ _ _ _)
      | (with_reducible exact LeO.refl _)
      | (with_reducible exact LeO.none _)
      | (with_reducible refine LeO.ite ?_ ?_)
      | (with_reducible refine LeO.bind ?_ (fun _ => ?_))
      | exact ih0 _ _ _ _ _ _
      | exact LeO.none _
      | refine LeO.ite ?_ ?_
      | refine LeO.bind ?_ (fun _ => ?_)
set_option maxHeartbeats 8000000 in
set_option maxRecDepth 100000 in
theorem longcaseref08_Change.calls (k : Nat) (a0_0 : Int) (a0_1 : Int) (a0_2 : Int) (a0_3 : Int) (a0_4 : Int) (a1 : Bool) (r : Bool) (w : World) (h : longcaseref08_Change.f k a0_0 a0_1 a0_2 a0_3 a0_4 a1 = some r) :
    Calls Tryd.prog 24 #[.agg #[.int .i64 a0_0, .int .i64 a0_1, .int .i64 a0_2, .int .i64 a0_3, .int .i64 a0_4], .bool a1] w fun e w' => e = .returned (.bool r) ∧ Below w.heap.size w w' := by
  have hu25 := Tryd.underlying25
  have HB := Aside0.mk (Below.refl w.heap.size w)
  have H : (if a1 = true then (if a0_4 < (-604799) then (longcaseref08_Change.j0 k true a0_0 a0_1 a0_2 a0_3 a0_4) else (if a0_4 > 604799 then (longcaseref08_Change.j0 k true a0_0 a0_1 a0_2 a0_3 a0_4) else (longcaseref08_Change.j0 k false a0_0 a0_1 a0_2 a0_3 a0_4))) else (if a0_4 < 0 then (longcaseref08_Change.j0 k true a0_0 a0_1 a0_2 a0_3 a0_4) else (longcaseref08_Change.j0 k (decide (a0_4 > 89999)) a0_0 a0_1 a0_2 a0_3 a0_4))) = some r := h
  clear h
  have HC3 := Aside0.mk H
  clear H
  go_enter Tryd.func24, Tryd.ntmps24
  go_upto_region 1 with (first | ((with_reducible refine gate_dst (N := 2) rfl ?_); refine box_event ?hg (N := 2) ?hd (cs := #[.int .i64 a0_0, .int .i64 a0_1, .int .i64 a0_2, .int .i64 a0_3, .int .i64 a0_4]) (t := 25) ?hr ?_; (case hd => rfl); (case hg => rfl); (case hr => first | (go_simp; done) | (go_simp; rfl)); intro gb180 hg w4 hbox hb; have n0_ := Aside0.mk (below_step (by repeat (first | (with_reducible first | exact HB.out | apply below_alloc | apply pw_below_drewN | apply below_drew1) | exact HB.out)) hb); have n1_ := Aside0.mk (hbox); have n2_ := Aside0.mk ((by rw [hg]; exact (below_size (by repeat (first | (with_reducible first | exact HB.out | apply below_alloc | apply pw_below_drewN | apply below_drew1) | exact HB.out))) : w.heap.size ≤ gb180)); have n3_ := Aside0.mk ((by rw [hg]; exact (below_size (by repeat (first | (with_reducible first | exact HB.out | apply below_alloc | apply pw_below_drewN | apply below_drew1) | exact HB.out))) : w.heap.size ≤ gb180)); clear HB; have HB := n0_; have BK180 := n1_; have GW180 := n2_; have GE180 := n3_; clear n0_ n1_ n2_ n3_; clear hb hbox hg))
  (try simp only [Act.put, List.setIfInBounds_toArray, List.set_cons_zero, List.set_cons_succ])
  go_cut [29] (fun v29 wc => ∃ (kq : Nat) (x29_2 : Bool), v29 = .bool x29_2 ∧ Aside0 (longcaseref08_Change.j0 kq x29_2 a0_0 a0_1 a0_2 a0_3 a0_4 = some r) ∧ Aside0 (kq ≤ k) ∧ Aside0 (wc.heap[gb180]? = some (.cells #[.int .i64 a0_0, .int .i64 a0_1, .int .i64 a0_2, .int .i64 a0_3, .int .i64 a0_4] 25 (0, 0))) ∧ Aside0 (Below w.heap.size w wc))
  case first =>
    have H := HC3.out
    clear HC3
    by_cases c5 : a1 = true
    · subst c5
      have H1 : (if a0_4 < (-604799) then (longcaseref08_Change.j0 k true a0_0 a0_1 a0_2 a0_3 a0_4) else (if a0_4 > 604799 then (longcaseref08_Change.j0 k true a0_0 a0_1 a0_2 a0_3 a0_4) else (longcaseref08_Change.j0 k false a0_0 a0_1 a0_2 a0_3 a0_4))) = some r := by rw [if_pos rfl] at H; exact H
      clear H
      have H := H1
      clear H1
      by_cases c6 : a0_4 < (-604799)
      · rw [if_pos c6] at H
        have c6b0 : decide (a0_4 < (-604799)) = true := decide_eq_true c6
        clear c6
        (first | rw [c6b0] | (simp only [i64_w, i32_w]; rw [c6b0]) | skip)
        have H' := Aside0.mk H
        clear H
        have hcz7_0 : w4.cell? ⟨gb180, 0, none⟩ = some (.int .i64 a0_0) := (blk_cell BK180.out 0).trans rfl
        have hcz7_1 : w4.cell? ⟨gb180, 1, none⟩ = some (.int .i64 a0_1) := (blk_cell BK180.out 1).trans rfl
        have hcz7_2 : w4.cell? ⟨gb180, 2, none⟩ = some (.int .i64 a0_2) := (blk_cell BK180.out 2).trans rfl
        have hcz7_3 : w4.cell? ⟨gb180, 3, none⟩ = some (.int .i64 a0_3) := (blk_cell BK180.out 3).trans rfl
        have hcz7_4 : w4.cell? ⟨gb180, 4, none⟩ = some (.int .i64 a0_4) := (blk_cell BK180.out 4).trans rfl
        have hfz7_0 := blk_frozen BK180.out 0
        have hfz7_1 := blk_frozen BK180.out 1
        have hfz7_2 := blk_frozen BK180.out 2
        have hfz7_3 := blk_frozen BK180.out 3
        have hfz7_4 := blk_frozen BK180.out 4
        go_wp2
        go_meet
        case rel => exact ⟨_, (true), (by first | rfl | (simp; done) | (simp [*]; done)), H', ⟨by first | omega | exact Nat.le_refl _⟩, ⟨by (with_reducible repeat (first | refine blk_drewN ?_ _ | refine blk_drew ?_ | refine blk_alloc ?_ _)); exact BK180.out⟩, ⟨by repeat (first | (with_reducible first | exact HB.out | apply below_alloc | apply pw_below_drewN | apply below_drew1 | refine below_set ?_ GE180.out) | exact HB.out)⟩⟩
      · rw [if_neg c6] at H
        have c6b0 : decide (a0_4 < (-604799)) = false := decide_eq_false c6
        clear c6
        (first | rw [c6b0] | (simp only [i64_w, i32_w]; rw [c6b0]) | skip)
        by_cases c8 : a0_4 > 604799
        · rw [if_pos c8] at H
          have c8b0 : decide (604799 < a0_4) = true := decide_eq_true c8
          clear c8
          have H' := Aside0.mk H
          clear H
          have hcz9_0 : w4.cell? ⟨gb180, 0, none⟩ = some (.int .i64 a0_0) := (blk_cell BK180.out 0).trans rfl
          have hcz9_1 : w4.cell? ⟨gb180, 1, none⟩ = some (.int .i64 a0_1) := (blk_cell BK180.out 1).trans rfl
          have hcz9_2 : w4.cell? ⟨gb180, 2, none⟩ = some (.int .i64 a0_2) := (blk_cell BK180.out 2).trans rfl
          have hcz9_3 : w4.cell? ⟨gb180, 3, none⟩ = some (.int .i64 a0_3) := (blk_cell BK180.out 3).trans rfl
          have hcz9_4 : w4.cell? ⟨gb180, 4, none⟩ = some (.int .i64 a0_4) := (blk_cell BK180.out 4).trans rfl
          have hfz9_0 := blk_frozen BK180.out 0
          have hfz9_1 := blk_frozen BK180.out 1
          have hfz9_2 := blk_frozen BK180.out 2
          have hfz9_3 := blk_frozen BK180.out 3
          have hfz9_4 := blk_frozen BK180.out 4
          go_wp2
          go_meet
          case rel => exact ⟨_, (true), (by first | rfl | (simp; done) | (simp [*]; done)), H', ⟨by first | omega | exact Nat.le_refl _⟩, ⟨by (with_reducible repeat (first | refine blk_drewN ?_ _ | refine blk_drew ?_ | refine blk_alloc ?_ _)); exact BK180.out⟩, ⟨by repeat (first | (with_reducible first | exact HB.out | apply below_alloc | apply pw_below_drewN | apply below_drew1 | refine below_set ?_ GE180.out) | exact HB.out)⟩⟩
        · rw [if_neg c8] at H
          have c8b0 : decide (604799 < a0_4) = false := decide_eq_false c8
          clear c8
          have H' := Aside0.mk H
          clear H
          have hcz10_0 : w4.cell? ⟨gb180, 0, none⟩ = some (.int .i64 a0_0) := (blk_cell BK180.out 0).trans rfl
          have hcz10_1 : w4.cell? ⟨gb180, 1, none⟩ = some (.int .i64 a0_1) := (blk_cell BK180.out 1).trans rfl
          have hcz10_2 : w4.cell? ⟨gb180, 2, none⟩ = some (.int .i64 a0_2) := (blk_cell BK180.out 2).trans rfl
          have hcz10_3 : w4.cell? ⟨gb180, 3, none⟩ = some (.int .i64 a0_3) := (blk_cell BK180.out 3).trans rfl
          have hcz10_4 : w4.cell? ⟨gb180, 4, none⟩ = some (.int .i64 a0_4) := (blk_cell BK180.out 4).trans rfl
          have hfz10_0 := blk_frozen BK180.out 0
          have hfz10_1 := blk_frozen BK180.out 1
          have hfz10_2 := blk_frozen BK180.out 2
          have hfz10_3 := blk_frozen BK180.out 3
          have hfz10_4 := blk_frozen BK180.out 4
          go_wp2
          go_meet
          case rel => exact ⟨_, (false), (by first | rfl | (simp; done) | (simp [*]; done)), H', ⟨by first | omega | exact Nat.le_refl _⟩, ⟨by (with_reducible repeat (first | refine blk_drewN ?_ _ | refine blk_drew ?_ | refine blk_alloc ?_ _)); exact BK180.out⟩, ⟨by repeat (first | (with_reducible first | exact HB.out | apply below_alloc | apply pw_below_drewN | apply below_drew1 | refine below_set ?_ GE180.out) | exact HB.out)⟩⟩
    · replace c5 := Bool.eq_false_iff.mpr c5
      subst c5
      have H1 : (if a0_4 < 0 then (longcaseref08_Change.j0 k true a0_0 a0_1 a0_2 a0_3 a0_4) else (longcaseref08_Change.j0 k (decide (a0_4 > 89999)) a0_0 a0_1 a0_2 a0_3 a0_4)) = some r := by rw [if_neg (show ¬ (false = true) by decide)] at H; exact H
      clear H
      have H := H1
      clear H1
      by_cases c11 : a0_4 < 0
      · rw [if_pos c11] at H
        have c11b0 : decide (a0_4 < 0) = true := decide_eq_true c11
        clear c11
        have H' := Aside0.mk H
        clear H
        have hcz12_0 : w4.cell? ⟨gb180, 0, none⟩ = some (.int .i64 a0_0) := (blk_cell BK180.out 0).trans rfl
        have hcz12_1 : w4.cell? ⟨gb180, 1, none⟩ = some (.int .i64 a0_1) := (blk_cell BK180.out 1).trans rfl
        have hcz12_2 : w4.cell? ⟨gb180, 2, none⟩ = some (.int .i64 a0_2) := (blk_cell BK180.out 2).trans rfl
        have hcz12_3 : w4.cell? ⟨gb180, 3, none⟩ = some (.int .i64 a0_3) := (blk_cell BK180.out 3).trans rfl
        have hcz12_4 : w4.cell? ⟨gb180, 4, none⟩ = some (.int .i64 a0_4) := (blk_cell BK180.out 4).trans rfl
        have hfz12_0 := blk_frozen BK180.out 0
        have hfz12_1 := blk_frozen BK180.out 1
        have hfz12_2 := blk_frozen BK180.out 2
        have hfz12_3 := blk_frozen BK180.out 3
        have hfz12_4 := blk_frozen BK180.out 4
        go_wp2
        go_meet
        case rel => exact ⟨_, (true), (by first | rfl | (simp; done) | (simp [*]; done)), H', ⟨by first | omega | exact Nat.le_refl _⟩, ⟨by (with_reducible repeat (first | refine blk_drewN ?_ _ | refine blk_drew ?_ | refine blk_alloc ?_ _)); exact BK180.out⟩, ⟨by repeat (first | (with_reducible first | exact HB.out | apply below_alloc | apply pw_below_drewN | apply below_drew1 | refine below_set ?_ GE180.out) | exact HB.out)⟩⟩
      · rw [if_neg c11] at H
        have c11b0 : decide (a0_4 < 0) = false := decide_eq_false c11
        clear c11
        have H' := Aside0.mk H
        clear H
        have hcz13_0 : w4.cell? ⟨gb180, 0, none⟩ = some (.int .i64 a0_0) := (blk_cell BK180.out 0).trans rfl
        have hcz13_1 : w4.cell? ⟨gb180, 1, none⟩ = some (.int .i64 a0_1) := (blk_cell BK180.out 1).trans rfl
        have hcz13_2 : w4.cell? ⟨gb180, 2, none⟩ = some (.int .i64 a0_2) := (blk_cell BK180.out 2).trans rfl
        have hcz13_3 : w4.cell? ⟨gb180, 3, none⟩ = some (.int .i64 a0_3) := (blk_cell BK180.out 3).trans rfl
        have hcz13_4 : w4.cell? ⟨gb180, 4, none⟩ = some (.int .i64 a0_4) := (blk_cell BK180.out 4).trans rfl
        have hfz13_0 := blk_frozen BK180.out 0
        have hfz13_1 := blk_frozen BK180.out 1
        have hfz13_2 := blk_frozen BK180.out 2
        have hfz13_3 := blk_frozen BK180.out 3
        have hfz13_4 := blk_frozen BK180.out 4
        go_wp2
        go_meet
        case rel => exact ⟨_, (decide (a0_4 > 89999)), (by first | rfl | (simp; done) | (simp [*]; done)), H', ⟨by first | omega | exact Nat.le_refl _⟩, ⟨by (with_reducible repeat (first | refine blk_drewN ?_ _ | refine blk_drew ?_ | refine blk_alloc ?_ _)); exact BK180.out⟩, ⟨by repeat (first | (with_reducible first | exact HB.out | apply below_alloc | apply pw_below_drewN | apply below_drew1 | refine below_set ?_ GE180.out) | exact HB.out)⟩⟩
  case rest =>
    clear HC3
    try clear c1
    try clear c2
    try clear p2
    try clear c5
    try clear c6
    try clear c6b0
    try clear c8
    try clear c8b0
    try clear c11
    try clear c11b0
    try clear hcz10_0
    try clear hcz10_1
    try clear hcz10_2
    try clear hcz10_3
    try clear hcz10_4
    try clear hcz12_0
    try clear hcz12_1
    try clear hcz12_2
    try clear hcz12_3
    try clear hcz12_4
    try clear hcz13_0
    try clear hcz13_1
    try clear hcz13_2
    try clear hcz13_3
    try clear hcz13_4
    try clear hcz7_0
    try clear hcz7_1
    try clear hcz7_2
    try clear hcz7_3
    try clear hcz7_4
    try clear hcz9_0
    try clear hcz9_1
    try clear hcz9_2
    try clear hcz9_3
    try clear hcz9_4
    try clear hfz10_0
    try clear hfz10_1
    try clear hfz10_2
    try clear hfz10_3
    try clear hfz10_4
    try clear hfz12_0
    try clear hfz12_1
    try clear hfz12_2
    try clear hfz12_3
    try clear hfz12_4
    try clear hfz13_0
    try clear hfz13_1
    try clear hfz13_2
    try clear hfz13_3
    try clear hfz13_4
    try clear hfz7_0
    try clear hfz7_1
    try clear hfz7_2
    try clear hfz7_3
    try clear hfz7_4
    try clear hfz9_0
    try clear hfz9_1
    try clear hfz9_2
    try clear hfz9_3
    try clear hfz9_4
    obtain ⟨kq, x29_2, rfl, HA, HJ2, BK180, HB⟩ := hcut
    cases kq with
    | zero => exact absurd HA.out (by simp [longcaseref08_Change.j0])
    | succ kj2 =>
      have H := HA.out
      clear HA
      simp only [longcaseref08_Change.j0] at H
      by_cases c14 : x29_2 = true
      · subst c14
        have H1 : (some false) = some r := by rw [if_pos rfl] at H; exact H
        clear H
        have H := H1
        clear H1
        obtain rfl := Option.some.inj H
        go_wp2
        go_ret
        exact ⟨by first | rfl | (simp [errW_none, errW_some] <;> rfl) | (simp [*, errW_none, errW_some] <;> rfl), by repeat (first | (with_reducible first | exact HB.out | apply below_alloc | apply pw_below_drewN | apply below_drew1 | refine below_set ?_ GE180.out) | exact HB.out)⟩
      · replace c14 := Bool.eq_false_iff.mpr c14
        subst c14
        have H1 : (if a0_0 = 1 then (if a0_1 ≥ 1 then (if a0_1 ≤ 365 then (if a0_2 = 0 then (some (a0_3 == 0)) else (some false)) else (some false)) else (some false)) else (if a0_0 = 2 then (if a0_1 ≥ 0 then (if a0_1 ≤ 365 then (if a0_2 = 0 then (some (a0_3 == 0)) else (some false)) else (some false)) else (some false)) else (if a0_0 = 3 then (if a0_1 ≥ 1 then (if a0_1 ≤ 12 then (if a0_2 ≥ 1 then (if a0_2 ≤ 5 then (if a0_3 ≥ 0 then (some (decide (a0_3 ≤ 6))) else (some false)) else (some false)) else (some false)) else (some false)) else (some false)) else (some false)))) = some r := by rw [if_neg (show ¬ (false = true) by decide)] at H; exact H
        clear H
        have H := H1
        clear H1
        by_cases c15 : a0_0 = 1
        · rw [if_pos c15] at H
          have c15b0 : (a0_0 == 1) = true := beq_iff_eq.mpr c15
          have c15b1 : (a0_0 != 1) = false := bne_eq_false_iff_eq.mpr c15
          clear c15
          by_cases c16 : a0_1 ≥ 1
          · rw [if_pos c16] at H
            have c16b0 : decide (1 ≤ a0_1) = true := decide_eq_true c16
            clear c16
            by_cases c17 : a0_1 ≤ 365
            · rw [if_pos c17] at H
              have c17b0 : decide (a0_1 ≤ 365) = true := decide_eq_true c17
              clear c17
              by_cases c18 : a0_2 = 0
              · rw [if_pos c18] at H
                have c18b0 : (a0_2 == 0) = true := beq_iff_eq.mpr c18
                have c18b1 : (a0_2 != 0) = false := bne_eq_false_iff_eq.mpr c18
                clear c18
                obtain rfl := Option.some.inj H
                have hcz19_0 : wc.cell? ⟨gb180, 0, none⟩ = some (.int .i64 a0_0) := (blk_cell BK180.out 0).trans rfl
                have hcz19_1 : wc.cell? ⟨gb180, 1, none⟩ = some (.int .i64 a0_1) := (blk_cell BK180.out 1).trans rfl
                have hcz19_2 : wc.cell? ⟨gb180, 2, none⟩ = some (.int .i64 a0_2) := (blk_cell BK180.out 2).trans rfl
                have hcz19_3 : wc.cell? ⟨gb180, 3, none⟩ = some (.int .i64 a0_3) := (blk_cell BK180.out 3).trans rfl
                have hcz19_4 : wc.cell? ⟨gb180, 4, none⟩ = some (.int .i64 a0_4) := (blk_cell BK180.out 4).trans rfl
                have hfz19_0 := blk_frozen BK180.out 0
                have hfz19_1 := blk_frozen BK180.out 1
                have hfz19_2 := blk_frozen BK180.out 2
                have hfz19_3 := blk_frozen BK180.out 3
                have hfz19_4 := blk_frozen BK180.out 4
                go_wp2
                go_ret
                exact ⟨by first | rfl | (simp [errW_none, errW_some] <;> rfl) | (simp [*, errW_none, errW_some] <;> rfl), by repeat (first | (with_reducible first | exact HB.out | apply below_alloc | apply pw_below_drewN | apply below_drew1 | refine below_set ?_ GE180.out) | exact HB.out)⟩
              · rw [if_neg c18] at H
                have c18b0 : (a0_2 == 0) = false := beq_eq_false_iff_ne.mpr c18
                have c18b1 : (a0_2 != 0) = true := bne_iff_ne.mpr c18
                obtain rfl := Option.some.inj H
                have hcz20_0 : wc.cell? ⟨gb180, 0, none⟩ = some (.int .i64 a0_0) := (blk_cell BK180.out 0).trans rfl
                have hcz20_1 : wc.cell? ⟨gb180, 1, none⟩ = some (.int .i64 a0_1) := (blk_cell BK180.out 1).trans rfl
                have hcz20_2 : wc.cell? ⟨gb180, 2, none⟩ = some (.int .i64 a0_2) := (blk_cell BK180.out 2).trans rfl
                have hcz20_3 : wc.cell? ⟨gb180, 3, none⟩ = some (.int .i64 a0_3) := (blk_cell BK180.out 3).trans rfl
                have hcz20_4 : wc.cell? ⟨gb180, 4, none⟩ = some (.int .i64 a0_4) := (blk_cell BK180.out 4).trans rfl
                have hfz20_0 := blk_frozen BK180.out 0
                have hfz20_1 := blk_frozen BK180.out 1
                have hfz20_2 := blk_frozen BK180.out 2
                have hfz20_3 := blk_frozen BK180.out 3
                have hfz20_4 := blk_frozen BK180.out 4
                go_wp2
                go_ret
                exact ⟨by first | rfl | (simp [errW_none, errW_some] <;> rfl) | (simp [*, errW_none, errW_some] <;> rfl), by repeat (first | (with_reducible first | exact HB.out | apply below_alloc | apply pw_below_drewN | apply below_drew1 | refine below_set ?_ GE180.out) | exact HB.out)⟩
            · rw [if_neg c17] at H
              have c17b0 : decide (a0_1 ≤ 365) = false := decide_eq_false c17
              clear c17
              obtain rfl := Option.some.inj H
              have hcz21_0 : wc.cell? ⟨gb180, 0, none⟩ = some (.int .i64 a0_0) := (blk_cell BK180.out 0).trans rfl
              have hcz21_1 : wc.cell? ⟨gb180, 1, none⟩ = some (.int .i64 a0_1) := (blk_cell BK180.out 1).trans rfl
              have hcz21_2 : wc.cell? ⟨gb180, 2, none⟩ = some (.int .i64 a0_2) := (blk_cell BK180.out 2).trans rfl
              have hcz21_3 : wc.cell? ⟨gb180, 3, none⟩ = some (.int .i64 a0_3) := (blk_cell BK180.out 3).trans rfl
              have hcz21_4 : wc.cell? ⟨gb180, 4, none⟩ = some (.int .i64 a0_4) := (blk_cell BK180.out 4).trans rfl
              have hfz21_0 := blk_frozen BK180.out 0
              have hfz21_1 := blk_frozen BK180.out 1
              have hfz21_2 := blk_frozen BK180.out 2
              have hfz21_3 := blk_frozen BK180.out 3
              have hfz21_4 := blk_frozen BK180.out 4
              go_wp2
              go_ret
              exact ⟨by first | rfl | (simp [errW_none, errW_some] <;> rfl) | (simp [*, errW_none, errW_some] <;> rfl), by repeat (first | (with_reducible first | exact HB.out | apply below_alloc | apply pw_below_drewN | apply below_drew1 | refine below_set ?_ GE180.out) | exact HB.out)⟩
          · rw [if_neg c16] at H
            have c16b0 : decide (1 ≤ a0_1) = false := decide_eq_false c16
            clear c16
            obtain rfl := Option.some.inj H
            have hcz22_0 : wc.cell? ⟨gb180, 0, none⟩ = some (.int .i64 a0_0) := (blk_cell BK180.out 0).trans rfl
            have hcz22_1 : wc.cell? ⟨gb180, 1, none⟩ = some (.int .i64 a0_1) := (blk_cell BK180.out 1).trans rfl
            have hcz22_2 : wc.cell? ⟨gb180, 2, none⟩ = some (.int .i64 a0_2) := (blk_cell BK180.out 2).trans rfl
            have hcz22_3 : wc.cell? ⟨gb180, 3, none⟩ = some (.int .i64 a0_3) := (blk_cell BK180.out 3).trans rfl
            have hcz22_4 : wc.cell? ⟨gb180, 4, none⟩ = some (.int .i64 a0_4) := (blk_cell BK180.out 4).trans rfl
            have hfz22_0 := blk_frozen BK180.out 0
            have hfz22_1 := blk_frozen BK180.out 1
            have hfz22_2 := blk_frozen BK180.out 2
            have hfz22_3 := blk_frozen BK180.out 3
            have hfz22_4 := blk_frozen BK180.out 4
            go_wp2
            go_ret
            exact ⟨by first | rfl | (simp [errW_none, errW_some] <;> rfl) | (simp [*, errW_none, errW_some] <;> rfl), by repeat (first | (with_reducible first | exact HB.out | apply below_alloc | apply pw_below_drewN | apply below_drew1 | refine below_set ?_ GE180.out) | exact HB.out)⟩
        · rw [if_neg c15] at H
          have c15b0 : (a0_0 == 1) = false := beq_eq_false_iff_ne.mpr c15
          have c15b1 : (a0_0 != 1) = true := bne_iff_ne.mpr c15
          by_cases c23 : a0_0 = 2
          · rw [if_pos c23] at H
            have c23b0 : (a0_0 == 2) = true := beq_iff_eq.mpr c23
            have c23b1 : (a0_0 != 2) = false := bne_eq_false_iff_eq.mpr c23
            clear c23
            by_cases c24 : a0_1 ≥ 0
            · rw [if_pos c24] at H
              have c24b0 : decide (0 ≤ a0_1) = true := decide_eq_true c24
              clear c24
              by_cases c25 : a0_1 ≤ 365
              · rw [if_pos c25] at H
                have c25b0 : decide (a0_1 ≤ 365) = true := decide_eq_true c25
                clear c25
                by_cases c26 : a0_2 = 0
                · rw [if_pos c26] at H
                  have c26b0 : (a0_2 == 0) = true := beq_iff_eq.mpr c26
                  have c26b1 : (a0_2 != 0) = false := bne_eq_false_iff_eq.mpr c26
                  clear c26
                  obtain rfl := Option.some.inj H
                  have hcz27_0 : wc.cell? ⟨gb180, 0, none⟩ = some (.int .i64 a0_0) := (blk_cell BK180.out 0).trans rfl
                  have hcz27_1 : wc.cell? ⟨gb180, 1, none⟩ = some (.int .i64 a0_1) := (blk_cell BK180.out 1).trans rfl
                  have hcz27_2 : wc.cell? ⟨gb180, 2, none⟩ = some (.int .i64 a0_2) := (blk_cell BK180.out 2).trans rfl
                  have hcz27_3 : wc.cell? ⟨gb180, 3, none⟩ = some (.int .i64 a0_3) := (blk_cell BK180.out 3).trans rfl
                  have hcz27_4 : wc.cell? ⟨gb180, 4, none⟩ = some (.int .i64 a0_4) := (blk_cell BK180.out 4).trans rfl
                  have hfz27_0 := blk_frozen BK180.out 0
                  have hfz27_1 := blk_frozen BK180.out 1
                  have hfz27_2 := blk_frozen BK180.out 2
                  have hfz27_3 := blk_frozen BK180.out 3
                  have hfz27_4 := blk_frozen BK180.out 4
                  go_wp2
                  go_ret
                  exact ⟨by first | rfl | (simp [errW_none, errW_some] <;> rfl) | (simp [*, errW_none, errW_some] <;> rfl), by repeat (first | (with_reducible first | exact HB.out | apply below_alloc | apply pw_below_drewN | apply below_drew1 | refine below_set ?_ GE180.out) | exact HB.out)⟩
                · rw [if_neg c26] at H
                  have c26b0 : (a0_2 == 0) = false := beq_eq_false_iff_ne.mpr c26
                  have c26b1 : (a0_2 != 0) = true := bne_iff_ne.mpr c26
                  obtain rfl := Option.some.inj H
                  have hcz28_0 : wc.cell? ⟨gb180, 0, none⟩ = some (.int .i64 a0_0) := (blk_cell BK180.out 0).trans rfl
                  have hcz28_1 : wc.cell? ⟨gb180, 1, none⟩ = some (.int .i64 a0_1) := (blk_cell BK180.out 1).trans rfl
                  have hcz28_2 : wc.cell? ⟨gb180, 2, none⟩ = some (.int .i64 a0_2) := (blk_cell BK180.out 2).trans rfl
                  have hcz28_3 : wc.cell? ⟨gb180, 3, none⟩ = some (.int .i64 a0_3) := (blk_cell BK180.out 3).trans rfl
                  have hcz28_4 : wc.cell? ⟨gb180, 4, none⟩ = some (.int .i64 a0_4) := (blk_cell BK180.out 4).trans rfl
                  have hfz28_0 := blk_frozen BK180.out 0
                  have hfz28_1 := blk_frozen BK180.out 1
                  have hfz28_2 := blk_frozen BK180.out 2
                  have hfz28_3 := blk_frozen BK180.out 3
                  have hfz28_4 := blk_frozen BK180.out 4
                  go_wp2
                  go_ret
                  exact ⟨by first | rfl | (simp [errW_none, errW_some] <;> rfl) | (simp [*, errW_none, errW_some] <;> rfl), by repeat (first | (with_reducible first | exact HB.out | apply below_alloc | apply pw_below_drewN | apply below_drew1 | refine below_set ?_ GE180.out) | exact HB.out)⟩
              · rw [if_neg c25] at H
                have c25b0 : decide (a0_1 ≤ 365) = false := decide_eq_false c25
                clear c25
                obtain rfl := Option.some.inj H
                have hcz29_0 : wc.cell? ⟨gb180, 0, none⟩ = some (.int .i64 a0_0) := (blk_cell BK180.out 0).trans rfl
                have hcz29_1 : wc.cell? ⟨gb180, 1, none⟩ = some (.int .i64 a0_1) := (blk_cell BK180.out 1).trans rfl
                have hcz29_2 : wc.cell? ⟨gb180, 2, none⟩ = some (.int .i64 a0_2) := (blk_cell BK180.out 2).trans rfl
                have hcz29_3 : wc.cell? ⟨gb180, 3, none⟩ = some (.int .i64 a0_3) := (blk_cell BK180.out 3).trans rfl
                have hcz29_4 : wc.cell? ⟨gb180, 4, none⟩ = some (.int .i64 a0_4) := (blk_cell BK180.out 4).trans rfl
                have hfz29_0 := blk_frozen BK180.out 0
                have hfz29_1 := blk_frozen BK180.out 1
                have hfz29_2 := blk_frozen BK180.out 2
                have hfz29_3 := blk_frozen BK180.out 3
                have hfz29_4 := blk_frozen BK180.out 4
                go_wp2
                go_ret
                exact ⟨by first | rfl | (simp [errW_none, errW_some] <;> rfl) | (simp [*, errW_none, errW_some] <;> rfl), by repeat (first | (with_reducible first | exact HB.out | apply below_alloc | apply pw_below_drewN | apply below_drew1 | refine below_set ?_ GE180.out) | exact HB.out)⟩
            · rw [if_neg c24] at H
              have c24b0 : decide (0 ≤ a0_1) = false := decide_eq_false c24
              clear c24
              obtain rfl := Option.some.inj H
              have hcz30_0 : wc.cell? ⟨gb180, 0, none⟩ = some (.int .i64 a0_0) := (blk_cell BK180.out 0).trans rfl
              have hcz30_1 : wc.cell? ⟨gb180, 1, none⟩ = some (.int .i64 a0_1) := (blk_cell BK180.out 1).trans rfl
              have hcz30_2 : wc.cell? ⟨gb180, 2, none⟩ = some (.int .i64 a0_2) := (blk_cell BK180.out 2).trans rfl
              have hcz30_3 : wc.cell? ⟨gb180, 3, none⟩ = some (.int .i64 a0_3) := (blk_cell BK180.out 3).trans rfl
              have hcz30_4 : wc.cell? ⟨gb180, 4, none⟩ = some (.int .i64 a0_4) := (blk_cell BK180.out 4).trans rfl
              have hfz30_0 := blk_frozen BK180.out 0
              have hfz30_1 := blk_frozen BK180.out 1
              have hfz30_2 := blk_frozen BK180.out 2
              have hfz30_3 := blk_frozen BK180.out 3
              have hfz30_4 := blk_frozen BK180.out 4
              go_wp2
              go_ret
              exact ⟨by first | rfl | (simp [errW_none, errW_some] <;> rfl) | (simp [*, errW_none, errW_some] <;> rfl), by repeat (first | (with_reducible first | exact HB.out | apply below_alloc | apply pw_below_drewN | apply below_drew1 | refine below_set ?_ GE180.out) | exact HB.out)⟩
          · rw [if_neg c23] at H
            have c23b0 : (a0_0 == 2) = false := beq_eq_false_iff_ne.mpr c23
            have c23b1 : (a0_0 != 2) = true := bne_iff_ne.mpr c23
            by_cases c31 : a0_0 = 3
            · rw [if_pos c31] at H
              have c31b0 : (a0_0 == 3) = true := beq_iff_eq.mpr c31
              have c31b1 : (a0_0 != 3) = false := bne_eq_false_iff_eq.mpr c31
              clear c31
              by_cases c32 : a0_1 ≥ 1
              · rw [if_pos c32] at H
                have c32b0 : decide (1 ≤ a0_1) = true := decide_eq_true c32
                clear c32
                by_cases c33 : a0_1 ≤ 12
                · rw [if_pos c33] at H
                  have c33b0 : decide (a0_1 ≤ 12) = true := decide_eq_true c33
                  clear c33
                  by_cases c34 : a0_2 ≥ 1
                  · rw [if_pos c34] at H
                    have c34b0 : decide (1 ≤ a0_2) = true := decide_eq_true c34
                    clear c34
                    by_cases c35 : a0_2 ≤ 5
                    · rw [if_pos c35] at H
                      have c35b0 : decide (a0_2 ≤ 5) = true := decide_eq_true c35
                      clear c35
                      by_cases c36 : a0_3 ≥ 0
                      · rw [if_pos c36] at H
                        have c36b0 : decide (0 ≤ a0_3) = true := decide_eq_true c36
                        clear c36
                        obtain rfl := Option.some.inj H
                        have hcz37_0 : wc.cell? ⟨gb180, 0, none⟩ = some (.int .i64 a0_0) := (blk_cell BK180.out 0).trans rfl
                        have hcz37_1 : wc.cell? ⟨gb180, 1, none⟩ = some (.int .i64 a0_1) := (blk_cell BK180.out 1).trans rfl
                        have hcz37_2 : wc.cell? ⟨gb180, 2, none⟩ = some (.int .i64 a0_2) := (blk_cell BK180.out 2).trans rfl
                        have hcz37_3 : wc.cell? ⟨gb180, 3, none⟩ = some (.int .i64 a0_3) := (blk_cell BK180.out 3).trans rfl
                        have hcz37_4 : wc.cell? ⟨gb180, 4, none⟩ = some (.int .i64 a0_4) := (blk_cell BK180.out 4).trans rfl
                        have hfz37_0 := blk_frozen BK180.out 0
                        have hfz37_1 := blk_frozen BK180.out 1
                        have hfz37_2 := blk_frozen BK180.out 2
                        have hfz37_3 := blk_frozen BK180.out 3
                        have hfz37_4 := blk_frozen BK180.out 4
                        go_wp2
                        go_ret
                        exact ⟨by first | rfl | (simp [errW_none, errW_some] <;> rfl) | (simp [*, errW_none, errW_some] <;> rfl), by repeat (first | (with_reducible first | exact HB.out | apply below_alloc | apply pw_below_drewN | apply below_drew1 | refine below_set ?_ GE180.out) | exact HB.out)⟩
                      · rw [if_neg c36] at H
                        have c36b0 : decide (0 ≤ a0_3) = false := decide_eq_false c36
                        clear c36
                        obtain rfl := Option.some.inj H
                        have hcz38_0 : wc.cell? ⟨gb180, 0, none⟩ = some (.int .i64 a0_0) := (blk_cell BK180.out 0).trans rfl
                        have hcz38_1 : wc.cell? ⟨gb180, 1, none⟩ = some (.int .i64 a0_1) := (blk_cell BK180.out 1).trans rfl
                        have hcz38_2 : wc.cell? ⟨gb180, 2, none⟩ = some (.int .i64 a0_2) := (blk_cell BK180.out 2).trans rfl
                        have hcz38_3 : wc.cell? ⟨gb180, 3, none⟩ = some (.int .i64 a0_3) := (blk_cell BK180.out 3).trans rfl
                        have hcz38_4 : wc.cell? ⟨gb180, 4, none⟩ = some (.int .i64 a0_4) := (blk_cell BK180.out 4).trans rfl
                        have hfz38_0 := blk_frozen BK180.out 0
                        have hfz38_1 := blk_frozen BK180.out 1
                        have hfz38_2 := blk_frozen BK180.out 2
                        have hfz38_3 := blk_frozen BK180.out 3
                        have hfz38_4 := blk_frozen BK180.out 4
                        go_wp2
                        go_ret
                        exact ⟨by first | rfl | (simp [errW_none, errW_some] <;> rfl) | (simp [*, errW_none, errW_some] <;> rfl), by repeat (first | (with_reducible first | exact HB.out | apply below_alloc | apply pw_below_drewN | apply below_drew1 | refine below_set ?_ GE180.out) | exact HB.out)⟩
                    · rw [if_neg c35] at H
                      have c35b0 : decide (a0_2 ≤ 5) = false := decide_eq_false c35
                      clear c35
                      obtain rfl := Option.some.inj H
                      have hcz39_0 : wc.cell? ⟨gb180, 0, none⟩ = some (.int .i64 a0_0) := (blk_cell BK180.out 0).trans rfl
                      have hcz39_1 : wc.cell? ⟨gb180, 1, none⟩ = some (.int .i64 a0_1) := (blk_cell BK180.out 1).trans rfl
                      have hcz39_2 : wc.cell? ⟨gb180, 2, none⟩ = some (.int .i64 a0_2) := (blk_cell BK180.out 2).trans rfl
                      have hcz39_3 : wc.cell? ⟨gb180, 3, none⟩ = some (.int .i64 a0_3) := (blk_cell BK180.out 3).trans rfl
                      have hcz39_4 : wc.cell? ⟨gb180, 4, none⟩ = some (.int .i64 a0_4) := (blk_cell BK180.out 4).trans rfl
                      have hfz39_0 := blk_frozen BK180.out 0
                      have hfz39_1 := blk_frozen BK180.out 1
                      have hfz39_2 := blk_frozen BK180.out 2
                      have hfz39_3 := blk_frozen BK180.out 3
                      have hfz39_4 := blk_frozen BK180.out 4
                      go_wp2
                      go_ret
                      exact ⟨by first | rfl | (simp [errW_none, errW_some] <;> rfl) | (simp [*, errW_none, errW_some] <;> rfl), by repeat (first | (with_reducible first | exact HB.out | apply below_alloc | apply pw_below_drewN | apply below_drew1 | refine below_set ?_ GE180.out) | exact HB.out)⟩
                  · rw [if_neg c34] at H
                    have c34b0 : decide (1 ≤ a0_2) = false := decide_eq_false c34
                    clear c34
                    obtain rfl := Option.some.inj H
                    have hcz40_0 : wc.cell? ⟨gb180, 0, none⟩ = some (.int .i64 a0_0) := (blk_cell BK180.out 0).trans rfl
                    have hcz40_1 : wc.cell? ⟨gb180, 1, none⟩ = some (.int .i64 a0_1) := (blk_cell BK180.out 1).trans rfl
                    have hcz40_2 : wc.cell? ⟨gb180, 2, none⟩ = some (.int .i64 a0_2) := (blk_cell BK180.out 2).trans rfl
                    have hcz40_3 : wc.cell? ⟨gb180, 3, none⟩ = some (.int .i64 a0_3) := (blk_cell BK180.out 3).trans rfl
                    have hcz40_4 : wc.cell? ⟨gb180, 4, none⟩ = some (.int .i64 a0_4) := (blk_cell BK180.out 4).trans rfl
                    have hfz40_0 := blk_frozen BK180.out 0
                    have hfz40_1 := blk_frozen BK180.out 1
                    have hfz40_2 := blk_frozen BK180.out 2
                    have hfz40_3 := blk_frozen BK180.out 3
                    have hfz40_4 := blk_frozen BK180.out 4
                    go_wp2
                    go_ret
                    exact ⟨by first | rfl | (simp [errW_none, errW_some] <;> rfl) | (simp [*, errW_none, errW_some] <;> rfl), by repeat (first | (with_reducible first | exact HB.out | apply below_alloc | apply pw_below_drewN | apply below_drew1 | refine below_set ?_ GE180.out) | exact HB.out)⟩
                · rw [if_neg c33] at H
                  have c33b0 : decide (a0_1 ≤ 12) = false := decide_eq_false c33
                  clear c33
                  obtain rfl := Option.some.inj H
                  have hcz41_0 : wc.cell? ⟨gb180, 0, none⟩ = some (.int .i64 a0_0) := (blk_cell BK180.out 0).trans rfl
                  have hcz41_1 : wc.cell? ⟨gb180, 1, none⟩ = some (.int .i64 a0_1) := (blk_cell BK180.out 1).trans rfl
                  have hcz41_2 : wc.cell? ⟨gb180, 2, none⟩ = some (.int .i64 a0_2) := (blk_cell BK180.out 2).trans rfl
                  have hcz41_3 : wc.cell? ⟨gb180, 3, none⟩ = some (.int .i64 a0_3) := (blk_cell BK180.out 3).trans rfl
                  have hcz41_4 : wc.cell? ⟨gb180, 4, none⟩ = some (.int .i64 a0_4) := (blk_cell BK180.out 4).trans rfl
                  have hfz41_0 := blk_frozen BK180.out 0
                  have hfz41_1 := blk_frozen BK180.out 1
                  have hfz41_2 := blk_frozen BK180.out 2
                  have hfz41_3 := blk_frozen BK180.out 3
                  have hfz41_4 := blk_frozen BK180.out 4
                  go_wp2
                  go_ret
                  exact ⟨by first | rfl | (simp [errW_none, errW_some] <;> rfl) | (simp [*, errW_none, errW_some] <;> rfl), by repeat (first | (with_reducible first | exact HB.out | apply below_alloc | apply pw_below_drewN | apply below_drew1 | refine below_set ?_ GE180.out) | exact HB.out)⟩
              · rw [if_neg c32] at H
                have c32b0 : decide (1 ≤ a0_1) = false := decide_eq_false c32
                clear c32
                obtain rfl := Option.some.inj H
                have hcz42_0 : wc.cell? ⟨gb180, 0, none⟩ = some (.int .i64 a0_0) := (blk_cell BK180.out 0).trans rfl
                have hcz42_1 : wc.cell? ⟨gb180, 1, none⟩ = some (.int .i64 a0_1) := (blk_cell BK180.out 1).trans rfl
                have hcz42_2 : wc.cell? ⟨gb180, 2, none⟩ = some (.int .i64 a0_2) := (blk_cell BK180.out 2).trans rfl
                have hcz42_3 : wc.cell? ⟨gb180, 3, none⟩ = some (.int .i64 a0_3) := (blk_cell BK180.out 3).trans rfl
                have hcz42_4 : wc.cell? ⟨gb180, 4, none⟩ = some (.int .i64 a0_4) := (blk_cell BK180.out 4).trans rfl
                have hfz42_0 := blk_frozen BK180.out 0
                have hfz42_1 := blk_frozen BK180.out 1
                have hfz42_2 := blk_frozen BK180.out 2
                have hfz42_3 := blk_frozen BK180.out 3
                have hfz42_4 := blk_frozen BK180.out 4
                go_wp2
                go_ret
                exact ⟨by first | rfl | (simp [errW_none, errW_some] <;> rfl) | (simp [*, errW_none, errW_some] <;> rfl), by repeat (first | (with_reducible first | exact HB.out | apply below_alloc | apply pw_below_drewN | apply below_drew1 | refine below_set ?_ GE180.out) | exact HB.out)⟩
            · rw [if_neg c31] at H
              have c31b0 : (a0_0 == 3) = false := beq_eq_false_iff_ne.mpr c31
              have c31b1 : (a0_0 != 3) = true := bne_iff_ne.mpr c31
              obtain rfl := Option.some.inj H
              have hcz43_0 : wc.cell? ⟨gb180, 0, none⟩ = some (.int .i64 a0_0) := (blk_cell BK180.out 0).trans rfl
              have hcz43_1 : wc.cell? ⟨gb180, 1, none⟩ = some (.int .i64 a0_1) := (blk_cell BK180.out 1).trans rfl
              have hcz43_2 : wc.cell? ⟨gb180, 2, none⟩ = some (.int .i64 a0_2) := (blk_cell BK180.out 2).trans rfl
              have hcz43_3 : wc.cell? ⟨gb180, 3, none⟩ = some (.int .i64 a0_3) := (blk_cell BK180.out 3).trans rfl
              have hcz43_4 : wc.cell? ⟨gb180, 4, none⟩ = some (.int .i64 a0_4) := (blk_cell BK180.out 4).trans rfl
              have hfz43_0 := blk_frozen BK180.out 0
              have hfz43_1 := blk_frozen BK180.out 1
              have hfz43_2 := blk_frozen BK180.out 2
              have hfz43_3 := blk_frozen BK180.out 3
              have hfz43_4 := blk_frozen BK180.out 4
              go_wp2
              go_ret
              exact ⟨by first | rfl | (simp [errW_none, errW_some] <;> rfl) | (simp [*, errW_none, errW_some] <;> rfl), by repeat (first | (with_reducible first | exact HB.out | apply below_alloc | apply pw_below_drewN | apply below_drew1 | refine below_set ?_ GE180.out) | exact HB.out)⟩
end Go.Proofs.YtnbjneknicppcaaDoor.Fn

namespace Go.Proofs.YtnbjneknicppcaaDoor.Fn
open Go.RowKit Go.Proofs.YtnbjneknicppcaaDoorW.PrintWords Go.Proofs.YtnbjneknicppcaaDoorW.PrintLast Go.Proofs.YtnbjneknicppcaaDoorW.PrintMore
attribute [local go_sem] max2_int min2_int max_two min_two max_three min_three max_four min_four
set_option linter.unusedVariables false
set_option linter.unusedSimpArgs false
/-! ### longcaseref08_digit: function 41 -/
def longcaseref08_digit.f (a0 : Int) : Option (Bool) := if a0 ≥ 48 then (some (decide (a0 ≤ 57))) else (some false)
set_option maxHeartbeats 8000000 in
set_option maxRecDepth 100000 in
theorem longcaseref08_digit.calls (a0 : Int) (r : Bool) (w : World) (h : longcaseref08_digit.f a0 = some r) :
    Calls Tryd.prog 41 #[.int .u8 a0] w fun e w' => e = .returned (.bool r) ∧ Drawn0 w w' := by
  have H : (if a0 ≥ 48 then (some (decide (a0 ≤ 57))) else (some false)) = some r := h
  clear h
  by_cases c2 : a0 ≥ 48
  · rw [if_pos c2] at H
    have c2b0 : decide (48 ≤ a0) = true := decide_eq_true c2
    clear c2
    obtain rfl := Option.some.inj H
    go_enter Tryd.func41, Tryd.ntmps41
    go_wp2
    go_ret
    exact ⟨by first | rfl | (simp; done) | (simp [*]; done), by repeat (first | exact Drawn0.refl _ | apply Drawn0.step)⟩
  · rw [if_neg c2] at H
    have c2b0 : decide (48 ≤ a0) = false := decide_eq_false c2
    clear c2
    obtain rfl := Option.some.inj H
    go_enter Tryd.func41, Tryd.ntmps41
    go_wp2
    go_ret
    exact ⟨by first | rfl | (simp; done) | (simp [*]; done), by repeat (first | exact Drawn0.refl _ | apply Drawn0.step)⟩
end Go.Proofs.YtnbjneknicppcaaDoor.Fn

namespace Go.Proofs.YtnbjneknicppcaaDoor.Fn
open Go.RowKit Go.Proofs.YtnbjneknicppcaaDoorW.PrintWords Go.Proofs.YtnbjneknicppcaaDoorW.PrintLast Go.Proofs.YtnbjneknicppcaaDoorW.PrintMore
attribute [local go_sem] max2_int min2_int max_two min_two max_three min_three max_four min_four
set_option linter.unusedVariables false
set_option linter.unusedSimpArgs false
/-! ### longcaseref08_letter: function 40 -/
def longcaseref08_letter.f (a0 : Int) : Option (Bool) := if a0 ≥ 97 then (if a0 ≤ 122 then (some true) else (if a0 ≥ 65 then (some (decide (a0 ≤ 90))) else (some false))) else (if a0 ≥ 65 then (some (decide (a0 ≤ 90))) else (some false))
set_option maxHeartbeats 8000000 in
set_option maxRecDepth 100000 in
theorem longcaseref08_letter.calls (a0 : Int) (r : Bool) (w : World) (h : longcaseref08_letter.f a0 = some r) :
    Calls Tryd.prog 40 #[.int .u8 a0] w fun e w' => e = .returned (.bool r) ∧ Drawn0 w w' := by
  have H : (if a0 ≥ 97 then (if a0 ≤ 122 then (some true) else (if a0 ≥ 65 then (some (decide (a0 ≤ 90))) else (some false))) else (if a0 ≥ 65 then (some (decide (a0 ≤ 90))) else (some false))) = some r := h
  clear h
  by_cases c2 : a0 ≥ 97
  · rw [if_pos c2] at H
    have c2b0 : decide (97 ≤ a0) = true := decide_eq_true c2
    clear c2
    by_cases c3 : a0 ≤ 122
    · rw [if_pos c3] at H
      have c3b0 : decide (a0 ≤ 122) = true := decide_eq_true c3
      clear c3
      obtain rfl := Option.some.inj H
      go_enter Tryd.func40, Tryd.ntmps40
      go_wp2
      go_ret
      exact ⟨by first | rfl | (simp; done) | (simp [*]; done), by repeat (first | exact Drawn0.refl _ | apply Drawn0.step)⟩
    · rw [if_neg c3] at H
      have c3b0 : decide (a0 ≤ 122) = false := decide_eq_false c3
      clear c3
      by_cases c4 : a0 ≥ 65
      · rw [if_pos c4] at H
        have c4b0 : decide (65 ≤ a0) = true := decide_eq_true c4
        clear c4
        obtain rfl := Option.some.inj H
        go_enter Tryd.func40, Tryd.ntmps40
        go_wp2
        go_ret
        exact ⟨by first | rfl | (simp; done) | (simp [*]; done), by repeat (first | exact Drawn0.refl _ | apply Drawn0.step)⟩
      · rw [if_neg c4] at H
        have c4b0 : decide (65 ≤ a0) = false := decide_eq_false c4
        clear c4
        obtain rfl := Option.some.inj H
        go_enter Tryd.func40, Tryd.ntmps40
        go_wp2
        go_ret
        exact ⟨by first | rfl | (simp; done) | (simp [*]; done), by repeat (first | exact Drawn0.refl _ | apply Drawn0.step)⟩
  · rw [if_neg c2] at H
    have c2b0 : decide (97 ≤ a0) = false := decide_eq_false c2
    clear c2
    by_cases c5 : a0 ≥ 65
    · rw [if_pos c5] at H
      have c5b0 : decide (65 ≤ a0) = true := decide_eq_true c5
      clear c5
      obtain rfl := Option.some.inj H
      go_enter Tryd.func40, Tryd.ntmps40
      go_wp2
      go_ret
      exact ⟨by first | rfl | (simp; done) | (simp [*]; done), by repeat (first | exact Drawn0.refl _ | apply Drawn0.step)⟩
    · rw [if_neg c5] at H
      have c5b0 : decide (65 ≤ a0) = false := decide_eq_false c5
      clear c5
      obtain rfl := Option.some.inj H
      go_enter Tryd.func40, Tryd.ntmps40
      go_wp2
      go_ret
      exact ⟨by first | rfl | (simp; done) | (simp [*]; done), by repeat (first | exact Drawn0.refl _ | apply Drawn0.step)⟩
end Go.Proofs.YtnbjneknicppcaaDoor.Fn

namespace Go.Proofs.YtnbjneknicppcaaDoor.Fn
open Go.RowKit Go.Proofs.YtnbjneknicppcaaDoorW.PrintWords Go.Proofs.YtnbjneknicppcaaDoorW.PrintLast Go.Proofs.YtnbjneknicppcaaDoorW.PrintMore
attribute [local go_sem] max2_int min2_int max_two min_two max_three min_three max_four min_four
set_option linter.unusedVariables false
set_option linter.unusedSimpArgs false
/-! ### longcaseref08_name: function 22 -/
mutual
def longcaseref08_name.j0 : Nat → ByteArray → Bool → Option (Bool)
  | 0, _, _ => none
  | k + 1, x0, x11 => if x11 = true then (some false) else (longcaseref08_name.l0 k x0 0)
def longcaseref08_name.l0 : Nat → ByteArray → Int → Option (Bool)
  | 0, _, _ => none
  | k + 1, x0, x3 => if x3 < (x0.size : Int) then (if 0 ≤ x3 then ((longcaseref08_letter.f (bt x0 x3)).bind fun t178 => (if t178 = true then (longcaseref08_name.l0 k x0 (wrap64 (x3 + 1))) else ((longcaseref08_digit.f (bt x0 x3)).bind fun t179 => (if t179 = true then (longcaseref08_name.l0 k x0 (wrap64 (x3 + 1))) else (if (bt x0 x3) = 43 then (longcaseref08_name.l0 k x0 (wrap64 (x3 + 1))) else (if (bt x0 x3) = 45 then (longcaseref08_name.l0 k x0 (wrap64 (x3 + 1))) else (some false))))))) else (none)) else (some true)
end
def longcaseref08_name.f (k : Nat) (a0 : ByteArray) : Option (Bool) := if (a0.size : Int) < 3 then (longcaseref08_name.j0 k a0 true) else (longcaseref08_name.j0 k a0 (decide ((a0.size : Int) > 20)))
theorem longcaseref08_name.mono_l : ∀ k, (∀ y0 y1, LeO (longcaseref08_name.j0 k y0 y1) (longcaseref08_name.j0 (k + 1) y0 y1)) ∧ (∀ y0 y1, LeO (longcaseref08_name.l0 k y0 y1) (longcaseref08_name.l0 (k + 1) y0 y1))
  | 0 => ⟨fun _ _ r h => by simp [longcaseref08_name.j0] at h, fun _ _ r h => by simp [longcaseref08_name.l0] at h⟩
  | k + 1 => by
    obtain ⟨ih0, ih1⟩ := longcaseref08_name.mono_l k
    refine ⟨?_, ?_⟩
    · intro y0 y1
      unfold longcaseref08_name.j0
      repeat' first
      | (with_reducible exact ih0 _ _)
      | (with_reducible exact ih1 _ _)
      | (with_reducible exact LeO.refl _)
      | (with_reducible exact LeO.none _)
      | (with_reducible refine LeO.ite ?_ ?_)
      | (with_reducible refine LeO.bind ?_ (fun _ => ?_))
      | exact ih0 _ _
      | exact ih1 _ _
      | exact LeO.none _
      | refine LeO.ite ?_ ?_
      | refine LeO.bind ?_ (fun _ => ?_)
    · intro y0 y1
      unfold longcaseref08_name.l0
      repeat' first
      | (with_reducible exact ih0 _ _)
      | (with_reducible exact ih1 _ _)
      | (with_reducible exact LeO.refl _)
      | (with_reducible exact LeO.none _)
      | (with_reducible refine LeO.ite ?_ ?_)
      | (with_reducible refine LeO.bind ?_ (fun _ => ?_))
      | exact ih0 _ _
      | exact ih1 _ _
      | exact LeO.none _
      | refine LeO.ite ?_ ?_
      | refine LeO.bind ?_ (fun _ => ?_)
theorem longcaseref08_name.mono : ∀ a0 k, LeO (longcaseref08_name.f k a0) (longcaseref08_name.f (k + 1) a0) := by
  intro a0 k
  obtain ⟨ih0, ih1⟩ := longcaseref08_name.mono_l k
  unfold longcaseref08_name.f
  repeat' first
      | (with_reducible exact ih0 _ _)
      | (with_reducible exact ih1 _ _)
      | (with_reducible exact LeO.refl _)
      | (with_reducible exact LeO.none _)
      | (with_reducible refine LeO.ite ?_ ?_)
      | (with_reducible refine LeO.bind ?_ (fun _ => ?_))
      | exact ih0 _ _
      | exact ih1 _ _
      | exact LeO.none _
      | refine LeO.ite ?_ ?_
      | refine LeO.bind ?_ (fun _ => ?_)
set_option maxHeartbeats 8000000 in
set_option maxRecDepth 100000 in
theorem longcaseref08_name.calls (k : Nat) (a0 : ByteArray) (r : Bool) (w : World) (h : longcaseref08_name.f k a0 = some r) :
    Calls Tryd.prog 22 #[.string a0] w fun e w' => e = .returned (.bool r) ∧ Drawn0 w w' := by
  have H : (if (a0.size : Int) < 3 then (longcaseref08_name.j0 k a0 true) else (longcaseref08_name.j0 k a0 (decide ((a0.size : Int) > 20)))) = some r := h
  clear h
  have HC2 := Aside0.mk H
  clear H
  go_enter Tryd.func22, Tryd.ntmps22
  go_upto_region 1 with (fail)
  go_cut [11] (fun v11 wc => ∃ (kq : Nat) (x11_1 : Bool), v11 = .bool x11_1 ∧ Aside0 (longcaseref08_name.j0 kq a0 x11_1 = some r) ∧ Aside0 (kq ≤ k) ∧ Drawn0 w wc)
  case first =>
    have H := HC2.out
    clear HC2
    by_cases c3 : (a0.size : Int) < 3
    · rw [if_pos c3] at H
      have c3b0 : decide ((a0.size : Int) < 3) = true := decide_eq_true c3
      have c3b1 : decide (a0.size < 3) = true := decide_eq_true (by omega)
      clear c3
      (first | rw [c3b0] | (simp only [i64_w, i32_w]; rw [c3b0]) | skip)
      have H' := Aside0.mk H
      clear H
      go_wp2
      go_meet
      case rel => exact ⟨_, (true), (by first | rfl | (simp; done) | (simp [*]; done)), H', ⟨by first | omega | exact Nat.le_refl _⟩, by repeat (first | exact Drawn0.refl _ | apply Drawn0.step)⟩
    · rw [if_neg c3] at H
      have c3b0 : decide ((a0.size : Int) < 3) = false := decide_eq_false c3
      have c3b1 : decide (a0.size < 3) = false := decide_eq_false (by omega)
      clear c3
      (first | rw [c3b0] | (simp only [i64_w, i32_w]; rw [c3b0]) | skip)
      have H' := Aside0.mk H
      clear H
      go_wp2
      go_meet
      case rel => exact ⟨_, (decide ((a0.size : Int) > 20)), (by first | rfl | (simp; done) | (simp [*]; done)), H', ⟨by first | omega | exact Nat.le_refl _⟩, by repeat (first | exact Drawn0.refl _ | apply Drawn0.step)⟩
  case rest =>
    clear HC2
    try clear c2
    try clear p2
    try clear c3
    try clear c3b0
    try clear c3b1
    obtain ⟨kq, x11_1, rfl, HA, HJ1, ⟨mc1, rfl⟩⟩ := hcut
    cases kq with
    | zero => exact absurd HA.out (by simp [longcaseref08_name.j0])
    | succ kj1 =>
      have H := HA.out
      clear HA
      simp only [longcaseref08_name.j0] at H
      by_cases c4 : x11_1 = true
      · subst c4
        have H1 : (some false) = some r := by rw [if_pos rfl] at H; exact H
        clear H
        have H := H1
        clear H1
        obtain rfl := Option.some.inj H
        go_wp2
        go_ret
        exact ⟨by first | rfl | (simp; done) | (simp [*]; done), by repeat (first | exact Drawn0.refl _ | apply Drawn0.step)⟩
      · replace c4 := Bool.eq_false_iff.mpr c4
        subst c4
        have H1 : (longcaseref08_name.l0 kj1 a0 0) = some r := by rw [if_neg (show ¬ (false = true) by decide)] at H; exact H
        clear H
        have H := H1
        clear H1
        have H' := Aside0.mk H
        clear H
        go_wp2
        go_loopg [3] kj1 (fun kq v3 w' => ∃ (x3_2 : Int), v3 = .int .i64 x3_2 ∧ Aside0 (longcaseref08_name.l0 kq a0 x3_2 = some r) ∧ Aside0 (kq ≤ kj1) ∧ Drawn0 w w')
        case atStart => exact ⟨(0), (by first | rfl | (simp; done) | (simp [*]; done)), H', ⟨Nat.le_refl _⟩, by repeat (first | exact Drawn0.refl _ | apply Drawn0.step)⟩
        case round =>
          clear H'
          try clear c1
          try clear c2
          try clear p2
          try clear c3
          try clear c3b0
          try clear c3b1
          try clear c4
          try clear p2
          obtain ⟨x3_2, rfl, HA, HK2, ⟨m2, rfl⟩⟩ := hrel
          cases gk with
          | zero => exact absurd HA.out (by simp [longcaseref08_name.l0])
          | succ k2 =>
            have H := HA.out
            clear HA
            simp only [longcaseref08_name.l0] at H
            by_cases c5 : x3_2 < (a0.size : Int)
            · rw [if_pos c5] at H
              have c5b0 : decide (x3_2 < (a0.size : Int)) = true := decide_eq_true c5
              clear c5
              by_cases c6 : 0 ≤ x3_2
              · rw [if_pos c6] at H
                have c6b0 : decide (0 ≤ x3_2) = true := decide_eq_true c6
                clear c6
                replace H := Option.bind_eq_some_iff.mp H
                obtain ⟨t178, A80, H⟩ := H
                replace H : (if t178 = true then (longcaseref08_name.l0 k2 a0 (wrap64 (x3_2 + 1))) else ((longcaseref08_digit.f (bt a0 x3_2)).bind fun t179 => (if t179 = true then (longcaseref08_name.l0 k2 a0 (wrap64 (x3_2 + 1))) else (if (bt a0 x3_2) = 43 then (longcaseref08_name.l0 k2 a0 (wrap64 (x3_2 + 1))) else (if (bt a0 x3_2) = 45 then (longcaseref08_name.l0 k2 a0 (wrap64 (x3_2 + 1))) else (some false)))))) = some r := H
                have A8 := Aside0.mk A80
                clear A80
                by_cases c9 : t178 = true
                · subst c9
                  have H1 : (longcaseref08_name.l0 k2 a0 (wrap64 (x3_2 + 1))) = some r := by rw [if_pos rfl] at H; exact H
                  clear H
                  have H := H1
                  clear H1
                  have H' := Aside0.mk H
                  clear H
                  have p7 : 0 ≤ (x3_2 : Int) := of_decide_eq_true (by first | (with_reducible assumption) | assumption)
                  have q7 : x3_2 < (a0.size : Int) := of_decide_eq_true (by first | (with_reducible assumption) | assumption)
                  have hx7 := bt_at a0 x3_2
                  replace p7 := eq_true p7
                  replace q7 := eq_true q7
                  go_wp2_with (first | ((with_reducible refine gate_callee (f := 40) rfl ?_); refine goesL_ (some 21) rfl rfl Tryd.func40 (by kernel_rfl) rfl #[.int .u8 (bt a0 x3_2)] rfl (by (try simp only [List.map_toArray, List.map_cons, List.map_nil]); first | done | rfl | (simp only [List.length_drop, List.length_take]; rfl)) ?_; (with_reducible refine (longcaseref08_letter.calls (bt a0 x3_2) true _ A8.out).mono ?_); rintro e w' ⟨rfl, ⟨nd, rfl⟩⟩; refine ⟨_, rfl, ?_⟩))
                  go_roundg k2
                  case measure => have := HJ1.out; have := HK2.out; omega
                  case rel => exact ⟨(wrap64 (x3_2 + 1)), (by first | rfl | (simp; done) | (simp [*]; done)), H', ⟨by have := HJ1.out; have := HK2.out; omega⟩, by repeat (first | exact Drawn0.refl _ | apply Drawn0.step)⟩
                · replace c9 := Bool.eq_false_iff.mpr c9
                  subst c9
                  have H1 : ((longcaseref08_digit.f (bt a0 x3_2)).bind fun t179 => (if t179 = true then (longcaseref08_name.l0 k2 a0 (wrap64 (x3_2 + 1))) else (if (bt a0 x3_2) = 43 then (longcaseref08_name.l0 k2 a0 (wrap64 (x3_2 + 1))) else (if (bt a0 x3_2) = 45 then (longcaseref08_name.l0 k2 a0 (wrap64 (x3_2 + 1))) else (some false))))) = some r := by rw [if_neg (show ¬ (false = true) by decide)] at H; exact H
                  clear H
                  have H := H1
                  clear H1
                  replace H := Option.bind_eq_some_iff.mp H
                  obtain ⟨t179, A110, H⟩ := H
                  replace H : (if t179 = true then (longcaseref08_name.l0 k2 a0 (wrap64 (x3_2 + 1))) else (if (bt a0 x3_2) = 43 then (longcaseref08_name.l0 k2 a0 (wrap64 (x3_2 + 1))) else (if (bt a0 x3_2) = 45 then (longcaseref08_name.l0 k2 a0 (wrap64 (x3_2 + 1))) else (some false)))) = some r := H
                  have A11 := Aside0.mk A110
                  clear A110
                  by_cases c12 : t179 = true
                  · subst c12
                    have H1 : (longcaseref08_name.l0 k2 a0 (wrap64 (x3_2 + 1))) = some r := by rw [if_pos rfl] at H; exact H
                    clear H
                    have H := H1
                    clear H1
                    have H' := Aside0.mk H
                    clear H
                    have p7 : 0 ≤ (x3_2 : Int) := of_decide_eq_true (by first | (with_reducible assumption) | assumption)
                    have q7 : x3_2 < (a0.size : Int) := of_decide_eq_true (by first | (with_reducible assumption) | assumption)
                    have hx7 := bt_at a0 x3_2
                    replace p7 := eq_true p7
                    replace q7 := eq_true q7
                    go_wp2_with (first | ((with_reducible refine gate_callee (f := 40) rfl ?_); refine goesL_ (some 21) rfl rfl Tryd.func40 (by kernel_rfl) rfl #[.int .u8 (bt a0 x3_2)] rfl (by (try simp only [List.map_toArray, List.map_cons, List.map_nil]); first | done | rfl | (simp only [List.length_drop, List.length_take]; rfl)) ?_; (with_reducible refine (longcaseref08_letter.calls (bt a0 x3_2) false _ A8.out).mono ?_); rintro e w' ⟨rfl, ⟨nd, rfl⟩⟩; refine ⟨_, rfl, ?_⟩; have p10 : 0 ≤ (x3_2 : Int) := of_decide_eq_true (by first | (with_reducible assumption) | assumption); have q10 : x3_2 < (a0.size : Int) := of_decide_eq_true (by first | (with_reducible assumption) | assumption); have hx10 := bt_at a0 x3_2; replace p10 := eq_true p10; replace q10 := eq_true q10) | (go_at_call 41; (with_reducible refine (longcaseref08_digit.calls (bt a0 x3_2) true _ A11.out).mono ?_); rintro e w' ⟨rfl, ⟨nd, rfl⟩⟩))
                    go_roundg k2
                    case measure => have := HJ1.out; have := HK2.out; omega
                    case rel => exact ⟨(wrap64 (x3_2 + 1)), (by first | rfl | (simp; done) | (simp [*]; done)), H', ⟨by have := HJ1.out; have := HK2.out; omega⟩, by repeat (first | exact Drawn0.refl _ | apply Drawn0.step)⟩
                  · replace c12 := Bool.eq_false_iff.mpr c12
                    subst c12
                    have H1 : (if (bt a0 x3_2) = 43 then (longcaseref08_name.l0 k2 a0 (wrap64 (x3_2 + 1))) else (if (bt a0 x3_2) = 45 then (longcaseref08_name.l0 k2 a0 (wrap64 (x3_2 + 1))) else (some false))) = some r := by rw [if_neg (show ¬ (false = true) by decide)] at H; exact H
                    clear H
                    have H := H1
                    clear H1
                    by_cases c14 : (bt a0 x3_2) = 43
                    · rw [if_pos c14] at H
                      have c14b0 : ((bt a0 x3_2) == 43) = true := beq_iff_eq.mpr c14
                      have c14b1 : ((bt a0 x3_2) != 43) = false := bne_eq_false_iff_eq.mpr c14
                      clear c14
                      have H' := Aside0.mk H
                      clear H
                      have p7 : 0 ≤ (x3_2 : Int) := of_decide_eq_true (by first | (with_reducible assumption) | assumption)
                      have q7 : x3_2 < (a0.size : Int) := of_decide_eq_true (by first | (with_reducible assumption) | assumption)
                      have hx7 := bt_at a0 x3_2
                      replace p7 := eq_true p7
                      replace q7 := eq_true q7
                      go_wp2_with (first | ((with_reducible refine gate_callee (f := 40) rfl ?_); refine goesL_ (some 21) rfl rfl Tryd.func40 (by kernel_rfl) rfl #[.int .u8 (bt a0 x3_2)] rfl (by (try simp only [List.map_toArray, List.map_cons, List.map_nil]); first | done | rfl | (simp only [List.length_drop, List.length_take]; rfl)) ?_; (with_reducible refine (longcaseref08_letter.calls (bt a0 x3_2) false _ A8.out).mono ?_); rintro e w' ⟨rfl, ⟨nd, rfl⟩⟩; refine ⟨_, rfl, ?_⟩; have p10 : 0 ≤ (x3_2 : Int) := of_decide_eq_true (by first | (with_reducible assumption) | assumption); have q10 : x3_2 < (a0.size : Int) := of_decide_eq_true (by first | (with_reducible assumption) | assumption); have hx10 := bt_at a0 x3_2; replace p10 := eq_true p10; replace q10 := eq_true q10) | (go_at_call 41; (with_reducible refine (longcaseref08_digit.calls (bt a0 x3_2) false _ A11.out).mono ?_); rintro e w' ⟨rfl, ⟨nd, rfl⟩⟩; have p13 : 0 ≤ (x3_2 : Int) := of_decide_eq_true (by first | (with_reducible assumption) | assumption); have q13 : x3_2 < (a0.size : Int) := of_decide_eq_true (by first | (with_reducible assumption) | assumption); have hx13 := bt_at a0 x3_2; replace p13 := eq_true p13; replace q13 := eq_true q13))
                      go_roundg k2
                      case measure => have := HJ1.out; have := HK2.out; omega
                      case rel => exact ⟨(wrap64 (x3_2 + 1)), (by first | rfl | (simp; done) | (simp [*]; done)), H', ⟨by have := HJ1.out; have := HK2.out; omega⟩, by repeat (first | exact Drawn0.refl _ | apply Drawn0.step)⟩
                    · rw [if_neg c14] at H
                      have c14b0 : ((bt a0 x3_2) == 43) = false := beq_eq_false_iff_ne.mpr c14
                      have c14b1 : ((bt a0 x3_2) != 43) = true := bne_iff_ne.mpr c14
                      by_cases c16 : (bt a0 x3_2) = 45
                      · rw [if_pos c16] at H
                        have c16b0 : ((bt a0 x3_2) == 45) = true := beq_iff_eq.mpr c16
                        have c16b1 : ((bt a0 x3_2) != 45) = false := bne_eq_false_iff_eq.mpr c16
                        clear c16
                        have H' := Aside0.mk H
                        clear H
                        have p7 : 0 ≤ (x3_2 : Int) := of_decide_eq_true (by first | (with_reducible assumption) | assumption)
                        have q7 : x3_2 < (a0.size : Int) := of_decide_eq_true (by first | (with_reducible assumption) | assumption)
                        have hx7 := bt_at a0 x3_2
                        replace p7 := eq_true p7
                        replace q7 := eq_true q7
                        go_wp2_with (first | ((with_reducible refine gate_callee (f := 40) rfl ?_); refine goesL_ (some 21) rfl rfl Tryd.func40 (by kernel_rfl) rfl #[.int .u8 (bt a0 x3_2)] rfl (by (try simp only [List.map_toArray, List.map_cons, List.map_nil]); first | done | rfl | (simp only [List.length_drop, List.length_take]; rfl)) ?_; (with_reducible refine (longcaseref08_letter.calls (bt a0 x3_2) false _ A8.out).mono ?_); rintro e w' ⟨rfl, ⟨nd, rfl⟩⟩; refine ⟨_, rfl, ?_⟩; have p10 : 0 ≤ (x3_2 : Int) := of_decide_eq_true (by first | (with_reducible assumption) | assumption); have q10 : x3_2 < (a0.size : Int) := of_decide_eq_true (by first | (with_reducible assumption) | assumption); have hx10 := bt_at a0 x3_2; replace p10 := eq_true p10; replace q10 := eq_true q10) | (go_at_call 41; (with_reducible refine (longcaseref08_digit.calls (bt a0 x3_2) false _ A11.out).mono ?_); rintro e w' ⟨rfl, ⟨nd, rfl⟩⟩; have p13 : 0 ≤ (x3_2 : Int) := of_decide_eq_true (by first | (with_reducible assumption) | assumption); have q13 : x3_2 < (a0.size : Int) := of_decide_eq_true (by first | (with_reducible assumption) | assumption); have hx13 := bt_at a0 x3_2; replace p13 := eq_true p13; replace q13 := eq_true q13; have p15 : 0 ≤ (x3_2 : Int) := of_decide_eq_true (by first | (with_reducible assumption) | assumption); have q15 : x3_2 < (a0.size : Int) := of_decide_eq_true (by first | (with_reducible assumption) | assumption); have hx15 := bt_at a0 x3_2; replace p15 := eq_true p15; replace q15 := eq_true q15))
                        go_roundg k2
                        case measure => have := HJ1.out; have := HK2.out; omega
                        case rel => exact ⟨(wrap64 (x3_2 + 1)), (by first | rfl | (simp; done) | (simp [*]; done)), H', ⟨by have := HJ1.out; have := HK2.out; omega⟩, by repeat (first | exact Drawn0.refl _ | apply Drawn0.step)⟩
                      · rw [if_neg c16] at H
                        have c16b0 : ((bt a0 x3_2) == 45) = false := beq_eq_false_iff_ne.mpr c16
                        have c16b1 : ((bt a0 x3_2) != 45) = true := bne_iff_ne.mpr c16
                        obtain rfl := Option.some.inj H
                        have p7 : 0 ≤ (x3_2 : Int) := of_decide_eq_true (by first | (with_reducible assumption) | assumption)
                        have q7 : x3_2 < (a0.size : Int) := of_decide_eq_true (by first | (with_reducible assumption) | assumption)
                        have hx7 := bt_at a0 x3_2
                        replace p7 := eq_true p7
                        replace q7 := eq_true q7
                        go_wp2_with (first | ((with_reducible refine gate_callee (f := 40) rfl ?_); refine goesL_ (some 21) rfl rfl Tryd.func40 (by kernel_rfl) rfl #[.int .u8 (bt a0 x3_2)] rfl (by (try simp only [List.map_toArray, List.map_cons, List.map_nil]); first | done | rfl | (simp only [List.length_drop, List.length_take]; rfl)) ?_; (with_reducible refine (longcaseref08_letter.calls (bt a0 x3_2) false _ A8.out).mono ?_); rintro e w' ⟨rfl, ⟨nd, rfl⟩⟩; refine ⟨_, rfl, ?_⟩; have p10 : 0 ≤ (x3_2 : Int) := of_decide_eq_true (by first | (with_reducible assumption) | assumption); have q10 : x3_2 < (a0.size : Int) := of_decide_eq_true (by first | (with_reducible assumption) | assumption); have hx10 := bt_at a0 x3_2; replace p10 := eq_true p10; replace q10 := eq_true q10) | (go_at_call 41; (with_reducible refine (longcaseref08_digit.calls (bt a0 x3_2) false _ A11.out).mono ?_); rintro e w' ⟨rfl, ⟨nd, rfl⟩⟩; have p13 : 0 ≤ (x3_2 : Int) := of_decide_eq_true (by first | (with_reducible assumption) | assumption); have q13 : x3_2 < (a0.size : Int) := of_decide_eq_true (by first | (with_reducible assumption) | assumption); have hx13 := bt_at a0 x3_2; replace p13 := eq_true p13; replace q13 := eq_true q13; have p15 : 0 ≤ (x3_2 : Int) := of_decide_eq_true (by first | (with_reducible assumption) | assumption); have q15 : x3_2 < (a0.size : Int) := of_decide_eq_true (by first | (with_reducible assumption) | assumption); have hx15 := bt_at a0 x3_2; replace p15 := eq_true p15; replace q15 := eq_true q15))
                        go_ret
                        exact ⟨by first | rfl | (simp; done) | (simp [*]; done), by repeat (first | exact Drawn0.refl _ | apply Drawn0.step)⟩
              · rw [if_neg c6] at H
                exact absurd H (by simp)
            · rw [if_neg c5] at H
              have c5b0 : decide (x3_2 < (a0.size : Int)) = false := decide_eq_false c5
              clear c5
              obtain rfl := Option.some.inj H
              go_wp2
              go_ret
              exact ⟨by first | rfl | (simp; done) | (simp [*]; done), by repeat (first | exact Drawn0.refl _ | apply Drawn0.step)⟩
end Go.Proofs.YtnbjneknicppcaaDoor.Fn

namespace Go.Proofs.YtnbjneknicppcaaDoor.Fn
open Go.RowKit Go.Proofs.YtnbjneknicppcaaDoorW.PrintWords Go.Proofs.YtnbjneknicppcaaDoorW.PrintLast Go.Proofs.YtnbjneknicppcaaDoorW.PrintMore
attribute [local go_sem] max2_int min2_int max_two min_two max_three min_three max_four min_four
set_option linter.unusedVariables false
set_option linter.unusedSimpArgs false
/-! ### longcaseref08_off: function 23 -/
def longcaseref08_off.f (a0 : Int) : Option (Bool) := if a0 ≥ (-89999) then (some (decide (a0 ≤ 89999))) else (some false)
set_option maxHeartbeats 8000000 in
set_option maxRecDepth 100000 in
theorem longcaseref08_off.calls (a0 : Int) (r : Bool) (w : World) (h : longcaseref08_off.f a0 = some r) :
    Calls Tryd.prog 23 #[.int .i64 a0] w fun e w' => e = .returned (.bool r) ∧ Drawn0 w w' := by
  have H : (if a0 ≥ (-89999) then (some (decide (a0 ≤ 89999))) else (some false)) = some r := h
  clear h
  by_cases c2 : a0 ≥ (-89999)
  · rw [if_pos c2] at H
    have c2b0 : decide ((-89999) ≤ a0) = true := decide_eq_true c2
    clear c2
    obtain rfl := Option.some.inj H
    go_enter Tryd.func23, Tryd.ntmps23
    go_wp2
    go_ret
    exact ⟨by first | rfl | (simp; done) | (simp [*]; done), by repeat (first | exact Drawn0.refl _ | apply Drawn0.step)⟩
  · rw [if_neg c2] at H
    have c2b0 : decide ((-89999) ≤ a0) = false := decide_eq_false c2
    clear c2
    obtain rfl := Option.some.inj H
    go_enter Tryd.func23, Tryd.ntmps23
    go_wp2
    go_ret
    exact ⟨by first | rfl | (simp; done) | (simp [*]; done), by repeat (first | exact Drawn0.refl _ | apply Drawn0.step)⟩
end Go.Proofs.YtnbjneknicppcaaDoor.Fn
