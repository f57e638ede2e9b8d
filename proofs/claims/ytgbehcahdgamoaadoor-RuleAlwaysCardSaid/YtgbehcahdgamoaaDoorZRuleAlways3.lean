/- Part 3 of the texts for LRuleAlways: contracts and plain laws that it leans on. -/
import Derived.Test.YtgbehcahdgamoaaDoorProg
import Derived.ProofKit
import Derived.OpenShut
import Derived.ShutString
import Derived.WalkKit
import Derived.Below
import Derived.Deep.Draws
import Derived.Deep.AppendLies
import Derived.Maps.AppendAt
import Derived.OwnWalk
import Derived.Laws.BytesArg
import Derived.Laws.MakeOwn
import Derived.Laws.OwnMore
import Derived.Deep.OwnRows
import Derived.Tactics
import Derived.Lib.ConvBytes
import Derived.Laws.Slices
import Derived.KernelRfl
import Derived.RowKit3
import Derived.Deep.LoopGhost
import Derived.Deep.QuietTactic
import Derived.BigQuiet
import Derived.WideLaws
import Derived.Deep.DeepCutAuto
import Derived.Deep.CutBlock
import Derived.Deep.RegionHeld3
import Derived.Laws.Rows
import Derived.Lib.AppendStr
import Derived.ArgAppend
import Derived.Laws.IdiomCopy
import Derived.OrdersHeld
import Derived.Laws.BitsLemmas
import Derived.RowKit
import Derived.Test.YtgbehcahdgamoaaDoorZRuleAlways1
import Derived.Test.YtgbehcahdgamoaaDoorZRuleAlways2
import Derived.Shelf.GgClosure.StringsIndexFunc
import Derived.Ground.GgwProg
import Derived.Shelf.GgClosure.StringsIndexFuncTop
import Derived.Shelf.Strings.FuncGrows
import Derived.Laws.RangeAny
import Derived.Laws.RangeString
namespace Go.Proofs.YtgbehcahdgamoaaDoor.Open
open Go.ChangeShapes Go.WideShapes Go.ChangeAt Go.RowKit
section
variable {H : Type} {enc : TypeId × Value → H} {w : World} {base : Nat} {spare : Nat → Bool} {held : Bool}

theorem c_int : Tryd.prog.cellsOf 3 = 1 := by kernel_rfl
theorem c_bool : Tryd.prog.cellsOf 4 = 1 := by kernel_rfl
theorem c_string : Tryd.prog.cellsOf 9 = 1 := by kernel_rfl
theorem c_kind : Tryd.prog.cellsOf 23 = 3 := by kernel_rfl
theorem c_change : Tryd.prog.cellsOf 25 = 5 := by kernel_rfl
theorem c_rule : Tryd.prog.cellsOf 27 = 17 := by kernel_rfl

def WfI (n : Int) : Prop := (Lit.int .i64 n).wf = true

theorem kind_of {fuel : Nat} {c0 c1 c2 : Value} {x : DataW H × List MemPlace} (h : DataW.trod enc Tryd.prog w base spare held fuel 23 [c0, c1, c2] = some x) :
    ∃ (o : Int) (d : Bool) (s : ByteArray), c0 = .int .i64 o ∧ c1 = .bool d ∧ c2 = .string s ∧ WfI o ∧ s.size ≤ maxLen := by
  obtain ⟨xs, n, _, hx, _, hlen, hg⟩ := DataW.trod_struct Tryd.underlying23 h
  match xs, hlen with
  | [y0, y1, y2], _ =>
    have h0 : DataW.trod enc Tryd.prog w base spare held n 3 [c0] = some y0 := by simpa [c_int] using hg 0 _ rfl
    have h1 : DataW.trod enc Tryd.prog w base spare held n 4 [c1] = some y1 := by simpa [c_bool] using hg 1 _ rfl
    have h2 : DataW.trod enc Tryd.prog w base spare held n 9 [c2] = some y2 := by simpa [c_string] using hg 2 _ rfl
    obtain ⟨o, e0, _, wo⟩ := DataW.trod_int Tryd.underlying3 h0
    obtain ⟨d, e1, _⟩ := DataW.trod_bool Tryd.underlying4 h1
    obtain ⟨s, e2, _, ws⟩ := DataW.trod_string Tryd.underlying9 h2
    simp at e0 e1 e2
    exact ⟨o, d, s, e0, e1, e2, wo, ws⟩
theorem change_of {fuel : Nat} {c0 c1 c2 c3 c4 : Value} {x : DataW H × List MemPlace} (h : DataW.trod enc Tryd.prog w base spare held fuel 25 [c0, c1, c2, c3, c4] = some x) :
    ∃ (n0 n1 n2 n3 n4 : Int), c0 = .int .i64 n0 ∧ c1 = .int .i64 n1 ∧ c2 = .int .i64 n2 ∧ c3 = .int .i64 n3 ∧ c4 = .int .i64 n4 ∧ WfI n0 ∧ WfI n1 ∧ WfI n2 ∧ WfI n3 ∧ WfI n4 := by
  obtain ⟨xs, n, _, hx, _, hlen, hg⟩ := DataW.trod_struct Tryd.underlying25 h
  match xs, hlen with
  | [y0, y1, y2, y3, y4], _ =>
    have h0 : DataW.trod enc Tryd.prog w base spare held n 3 [c0] = some y0 := by simpa [c_int] using hg 0 _ rfl
    have h1 : DataW.trod enc Tryd.prog w base spare held n 3 [c1] = some y1 := by simpa [c_int] using hg 1 _ rfl
    have h2 : DataW.trod enc Tryd.prog w base spare held n 3 [c2] = some y2 := by simpa [c_int] using hg 2 _ rfl
    have h3 : DataW.trod enc Tryd.prog w base spare held n 3 [c3] = some y3 := by simpa [c_int] using hg 3 _ rfl
    have h4 : DataW.trod enc Tryd.prog w base spare held n 3 [c4] = some y4 := by simpa [c_int] using hg 4 _ rfl
    obtain ⟨n0, e0, _, w0⟩ := DataW.trod_int Tryd.underlying3 h0
    obtain ⟨n1, e1, _, w1⟩ := DataW.trod_int Tryd.underlying3 h1
    obtain ⟨n2, e2, _, w2⟩ := DataW.trod_int Tryd.underlying3 h2
    obtain ⟨n3, e3, _, w3⟩ := DataW.trod_int Tryd.underlying3 h3
    obtain ⟨n4, e4, _, w4⟩ := DataW.trod_int Tryd.underlying3 h4
    simp at e0 e1 e2 e3 e4
    exact ⟨n0, n1, n2, n3, n4, e0, e1, e2, e3, e4, w0, w1, w2, w3, w4⟩

theorem open_change {r : Reach} {b0 : Nat} {v : Value} {d : DataW H} {p : List MemPlace} (hv : Value.okWide Tryd.prog w r b0 25 v) (h : DataW.Trod enc Tryd.prog w base spare held 25 v d p) :
    ∃ (c0 : Int) (c1 : Int) (c2 : Int) (c3 : Int) (c4 : Int), v = .agg #[.int .i64 c0, .int .i64 c1, .int .i64 c2, .int .i64 c3, .int .i64 c4] ∧ WfI c0 ∧ WfI c1 ∧ WfI c2 ∧ WfI c3 ∧ WfI c4 := by
  obtain ⟨cs, rfl, hsz⟩ := okWide_struct Tryd.underlying25 hv
  obtain ⟨l⟩ := cs
  match l, hsz.trans c_change with
  | [c0, c1, c2, c3, c4], _ =>
    obtain ⟨fuel, hf⟩ := h
    obtain ⟨n0, n1, n2, n3, n4, rfl, rfl, rfl, rfl, rfl, w0, w1, w2, w3, w4⟩ := change_of (c0 := c0) (c1 := c1) (c2 := c2) (c3 := c3) (c4 := c4) (by simpa [Value.cells] using hf)
    exact ⟨n0, n1, n2, n3, n4, rfl, w0, w1, w2, w3, w4⟩

theorem open_rule {r : Reach} {b0 : Nat} {v : Value} {d : DataW H} {p : List MemPlace} (hv : Value.okWide Tryd.prog w r b0 27 v) (h : DataW.Trod enc Tryd.prog w base spare held 27 v d p) :
    ∃ (s0 : Int) (s1 : Bool) (s2 : ByteArray) (d0 : Int) (d1 : Bool) (d2 : ByteArray) (bo : Bool) (a0 : Int) (a1 : Int) (a2 : Int) (a3 : Int) (a4 : Int) (e0 : Int) (e1 : Int) (e2 : Int) (e3 : Int) (e4 : Int), v = .agg #[.int .i64 s0, .bool s1, .string s2, .int .i64 d0, .bool d1, .string d2, .bool bo, .int .i64 a0, .int .i64 a1, .int .i64 a2, .int .i64 a3, .int .i64 a4, .int .i64 e0, .int .i64 e1, .int .i64 e2, .int .i64 e3, .int .i64 e4] ∧ (WfI s0 ∧ s2.size ≤ maxLen ∧ WfI d0 ∧ d2.size ≤ maxLen) ∧ (WfI a0 ∧ WfI a1 ∧ WfI a2 ∧ WfI a3 ∧ WfI a4) ∧ (WfI e0 ∧ WfI e1 ∧ WfI e2 ∧ WfI e3 ∧ WfI e4) := by
  obtain ⟨cs, rfl, hsz⟩ := okWide_struct Tryd.underlying27 hv
  obtain ⟨l⟩ := cs
  match l, hsz.trans c_rule with
  | [b0, b1, b2, b3, b4, b5, b6, b7, b8, b9, b10, b11, b12, b13, b14, b15, b16], _ =>
    obtain ⟨fuel, hf⟩ := h
    obtain ⟨xs, n, _, hx, _, hlen, hg⟩ := DataW.trod_struct Tryd.underlying27 hf
    match xs, hlen with
    | [y0, y1, y2, y3, y4], _ =>
      have h0 : DataW.trod enc Tryd.prog w base spare held n 23 [b0, b1, b2] = some y0 := by simpa [c_kind, Value.cells] using hg 0 _ rfl
      have h1 : DataW.trod enc Tryd.prog w base spare held n 23 [b3, b4, b5] = some y1 := by simpa [c_kind, Value.cells] using hg 1 _ rfl
      have h2 : DataW.trod enc Tryd.prog w base spare held n 4 [b6] = some y2 := by simpa [c_bool, Value.cells] using hg 2 _ rfl
      have h3 : DataW.trod enc Tryd.prog w base spare held n 25 [b7, b8, b9, b10, b11] = some y3 := by simpa [c_change, Value.cells] using hg 3 _ rfl
      have h4 : DataW.trod enc Tryd.prog w base spare held n 25 [b12, b13, b14, b15, b16] = some y4 := by simpa [c_change, Value.cells] using hg 4 _ rfl
      obtain ⟨s0, s1, s2, rfl, rfl, rfl, ws0, ws2⟩ := kind_of h0
      obtain ⟨d0, d1, d2, rfl, rfl, rfl, wd0, wd2⟩ := kind_of h1
      obtain ⟨bo, e2, _⟩ := DataW.trod_bool Tryd.underlying4 h2
      simp at e2
      subst e2
      obtain ⟨a0, a1, a2, a3, a4, rfl, rfl, rfl, rfl, rfl, wa⟩ := change_of h3
      obtain ⟨e0, e1, e2, e3, e4, rfl, rfl, rfl, rfl, rfl, we⟩ := change_of h4
      exact ⟨s0, s1, s2, d0, d1, d2, bo, a0, a1, a2, a3, a4, e0, e1, e2, e3, e4, rfl, ⟨ws0, ws2, wd0, wd2⟩, wa, we⟩
end
end Go.Proofs.YtgbehcahdgamoaaDoor.Open

namespace Go.Proofs.YtgbehcahdgamoaaDoor.Fn
open Go.RowKit Go.Proofs.YtgbehcahdgamoaaDoorW.PrintWords Go.Proofs.YtgbehcahdgamoaaDoorW.PrintLast Go.Proofs.YtgbehcahdgamoaaDoorW.PrintMore
attribute [local go_sem] max2_int min2_int max_two min_two max_three min_three max_four min_four   -- for this text's walks alone
set_option linter.unusedVariables false
set_option linter.unusedSimpArgs false



def errW : Option Int → Value
  | none => .nilIface
  | some c => .iface 0 (.int .i64 c)
theorem errW_none : errW none = .nilIface := rfl
theorem errW_some (c : Int) : errW (some c) = .iface 0 (.int .i64 c) := rfl


end Go.Proofs.YtgbehcahdgamoaaDoor.Fn

namespace Go.Proofs.YtgbehcahdgamoaaDoor.Fn
open Go.RowKit Go.Proofs.YtgbehcahdgamoaaDoorW.PrintWords

/-- The lengths of the months, as the package-level variable of 'civil' lists them. -/
def lens : List Int := [31, 28, 31, 30, 31, 30, 31, 31, 30, 31, 30, 31]
/-- The package-level variable of 'civil' holds the lengths. -/
def GL (w : World) : Prop := ∀ i, i < 12 → w.cell? ⟨0, i, none⟩ = some (.int .i64 (lens.getD i 0))
theorem GL.below {w w' : World} (h : GL w) (hb : Below w.heap.size w w') : GL w' := fun i hi => (hb.cell (p := ⟨0, i, none⟩) (World.block_lt_of_cell? _ _ (h i hi))).trans (h i hi)
end Go.Proofs.YtgbehcahdgamoaaDoor.Fn

namespace Go.Proofs.YtgbehcahdgamoaaDoor.Fn
open Go.RowKit Go.Proofs.YtgbehcahdgamoaaDoorW.PrintWords Go.Proofs.YtgbehcahdgamoaaDoorW.PrintLast Go.Proofs.YtgbehcahdgamoaaDoorW.PrintMore
attribute [local go_sem] max2_int min2_int max_two min_two max_three min_three max_four min_four   -- for this text's walks alone
set_option linter.unusedVariables false
set_option linter.unusedSimpArgs false

/-! ### civil_Leap: function 28 -/
def civil_Leap.f (a0 : Int) : Option (Bool) := if (Int.tmod a0 4) = 0 then (if (Int.tmod a0 100) = 0 then (some ((Int.tmod a0 400) == 0)) else (some true)) else (some false)
set_option maxHeartbeats 8000000 in
set_option maxRecDepth 100000 in
theorem civil_Leap.calls (a0 : Int) (r : Bool) (w : World) (h : civil_Leap.f a0 = some r) :
    Calls Tryd.prog 28 #[.int .i64 a0] w fun e w' => e = .returned (.bool r) ∧ Drawn0 w w' := by
  have H : (if (Int.tmod a0 4) = 0 then (if (Int.tmod a0 100) = 0 then (some ((Int.tmod a0 400) == 0)) else (some true)) else (some false)) = some r := h
  clear h
  by_cases c2 : (Int.tmod a0 4) = 0
  · rw [if_pos c2] at H
    have c2b0 : ((Int.tmod a0 4) == 0) = true := beq_iff_eq.mpr c2
    have c2b1 : ((Int.tmod a0 4) != 0) = false := bne_eq_false_iff_eq.mpr c2
    clear c2
    by_cases c3 : (Int.tmod a0 100) = 0
    · rw [if_pos c3] at H
      have c3b0 : ((Int.tmod a0 100) == 0) = true := beq_iff_eq.mpr c3
      have c3b1 : ((Int.tmod a0 100) != 0) = false := bne_eq_false_iff_eq.mpr c3
      clear c3
      obtain rfl := Option.some.inj H
      go_enter Tryd.func28, Tryd.ntmps28
      go_wp2
      go_ret
      exact ⟨by first | rfl | (simp; done) | (simp [*]; done), by repeat (first | exact Drawn0.refl _ | apply Drawn0.step)⟩
    · rw [if_neg c3] at H
      have c3b0 : ((Int.tmod a0 100) == 0) = false := beq_eq_false_iff_ne.mpr c3
      have c3b1 : ((Int.tmod a0 100) != 0) = true := bne_iff_ne.mpr c3
      obtain rfl := Option.some.inj H
      go_enter Tryd.func28, Tryd.ntmps28
      go_wp2
      go_ret
      exact ⟨by first | rfl | (simp; done) | (simp [*]; done), by repeat (first | exact Drawn0.refl _ | apply Drawn0.step)⟩
  · rw [if_neg c2] at H
    have c2b0 : ((Int.tmod a0 4) == 0) = false := beq_eq_false_iff_ne.mpr c2
    have c2b1 : ((Int.tmod a0 4) != 0) = true := bne_iff_ne.mpr c2
    obtain rfl := Option.some.inj H
    go_enter Tryd.func28, Tryd.ntmps28
    go_wp2
    go_ret
    exact ⟨by first | rfl | (simp; done) | (simp [*]; done), by repeat (first | exact Drawn0.refl _ | apply Drawn0.step)⟩

end Go.Proofs.YtgbehcahdgamoaaDoor.Fn

namespace Go.Proofs.YtgbehcahdgamoaaDoor.Fn
open Go.RowKit Go.Proofs.YtgbehcahdgamoaaDoorW.PrintWords Go.Proofs.YtgbehcahdgamoaaDoorW.PrintLast

/-- civil.Length, as a Lean function. -/
def civil_Length.f (y m : Int) : Option Int := if m < 1 then some 0 else if 12 < m then some 0 else if m = 2 then (civil_Leap.f y).bind fun b => some (if b = true then 29 else 28) else some (lens.getD (m - 1).toNat 0)

theorem civil_Length.calls (a0 a1 r : Int) (w : World) (hG : GL w) (h : civil_Length.f a0 a1 = some r) :
    Calls Tryd.prog 22 #[.int .i64 a0, .int .i64 a1] w fun e w' => e = .returned (.int .i64 r) ∧ Below w.heap.size w w' := by
  have HG := Aside0.mk hG
  clear hG
  unfold civil_Length.f at h
  by_cases h1 : a1 < 1
  · rw [if_pos h1] at h
    obtain rfl := Option.some.inj h
    go_enter Tryd.func22, Tryd.ntmps22
    have hd : decide (a1 < 1) = true := by simpa using h1
    go_wp2
    go_ret
    exact ⟨rfl, Below.refl _ _⟩
  · rw [if_neg h1] at h
    have hd : decide (a1 < 1) = false := by simpa using h1
    by_cases h2 : 12 < a1
    · rw [if_pos h2] at h
      obtain rfl := Option.some.inj h
      go_enter Tryd.func22, Tryd.ntmps22
      have hd2 : decide (12 < a1) = true := by simpa using h2
      go_wp2
      go_ret
      exact ⟨rfl, Below.refl _ _⟩
    · rw [if_neg h2] at h
      have hd2 : decide (12 < a1) = false := by simpa using h2
      by_cases h3 : a1 = 2
      · subst h3
        rw [if_pos rfl] at h
        obtain ⟨b, hb, h⟩ := Option.bind_eq_some_iff.mp h
        have HBf := Aside0.mk hb
        clear hb
        cases b
        · obtain rfl : 28 = r := by simpa using h
          clear h
          have hc := HG.out 1 (by omega)
          go_enter Tryd.func22, Tryd.ntmps22
          go_wp2_with (go_at_call 28; refine (civil_Leap.calls a0 false _ HBf.out).mono ?_; rintro e w' ⟨rfl, ⟨nd, rfl⟩⟩)
          go_ret
          exact ⟨rfl, pw_below_drewN (Below.refl _ _) _⟩
        · obtain rfl : 29 = r := by simpa using h
          clear h
          go_enter Tryd.func22, Tryd.ntmps22
          go_wp2_with (go_at_call 28; refine (civil_Leap.calls a0 true _ HBf.out).mono ?_; rintro e w' ⟨rfl, ⟨nd, rfl⟩⟩)
          go_ret
          exact ⟨rfl, pw_below_drewN (Below.refl _ _) _⟩
      · rw [if_neg h3] at h
        obtain rfl := Option.some.inj h
        clear h
        have h4 : (a1 == 2) = false := by simpa using h3
        have hc := HG.out (a1.toNat - 1) (by omega)
        rw [show (a1 - 1).toNat = a1.toNat - 1 from by omega]
        have j0 : 1 ≤ a1 := by omega
        have j1 : a1 ≤ 12 := by omega
        clear h3 h1 h2
        go_enter Tryd.func22, Tryd.ntmps22
        go_wp2
        go_ret
        exact ⟨rfl, Below.refl _ _⟩
end Go.Proofs.YtgbehcahdgamoaaDoor.Fn

namespace Go.Proofs.YtgbehcahdgamoaaDoor.Fn
open Go.RowKit Go.Proofs.YtgbehcahdgamoaaDoorW.PrintWords Go.Proofs.YtgbehcahdgamoaaDoorW.PrintLast Go.Proofs.YtgbehcahdgamoaaDoorW.PrintMore
attribute [local go_sem] max2_int min2_int max_two min_two max_three min_three max_four min_four   -- for this text's walks alone
set_option linter.unusedVariables false
set_option linter.unusedSimpArgs false

/-! ### civil_may: function 43 -/
def civil_may.f (a0 : Int) : Option (Bool) := if a0 ≥ (-2147483648) then (some (decide (a0 ≤ 2147483647))) else (some false)
set_option maxHeartbeats 8000000 in
set_option maxRecDepth 100000 in
theorem civil_may.calls (a0 : Int) (r : Bool) (w : World) (h : civil_may.f a0 = some r) :
    Calls Tryd.prog 43 #[.int .i64 a0] w fun e w' => e = .returned (.bool r) ∧ Drawn0 w w' := by
  have H : (if a0 ≥ (-2147483648) then (some (decide (a0 ≤ 2147483647))) else (some false)) = some r := h
  clear h
  by_cases c2 : a0 ≥ (-2147483648)
  · rw [if_pos c2] at H
    have c2b0 : decide ((-2147483648) ≤ a0) = true := decide_eq_true c2
    clear c2
    obtain rfl := Option.some.inj H
    go_enter Tryd.func43, Tryd.ntmps43
    go_wp2
    go_ret
    exact ⟨by first | rfl | (simp; done) | (simp [*]; done), by repeat (first | exact Drawn0.refl _ | apply Drawn0.step)⟩
  · rw [if_neg c2] at H
    have c2b0 : decide ((-2147483648) ≤ a0) = false := decide_eq_false c2
    clear c2
    obtain rfl := Option.some.inj H
    go_enter Tryd.func43, Tryd.ntmps43
    go_wp2
    go_ret
    exact ⟨by first | rfl | (simp; done) | (simp [*]; done), by repeat (first | exact Drawn0.refl _ | apply Drawn0.step)⟩

end Go.Proofs.YtgbehcahdgamoaaDoor.Fn

namespace Go.Proofs.YtgbehcahdgamoaaDoor.Fn
open Go.RowKit Go.Proofs.YtgbehcahdgamoaaDoorW.PrintWords Go.Proofs.YtgbehcahdgamoaaDoorW.PrintLast Go.Proofs.YtgbehcahdgamoaaDoorW.PrintMore
attribute [local go_sem] max2_int min2_int max_two min_two max_three min_three max_four min_four   -- for this text's walks alone
set_option linter.unusedVariables false
set_option linter.unusedSimpArgs false

/-! ### civil_Right: function 44 -/
def civil_Right.f (a0 : Int) (a1 : Int) (a2 : Int) : Option (Bool) := (civil_may.f a0).bind fun t104 => (if t104 = true then (if a2 ≥ 1 then ((civil_Length.f a0 a1).bind fun t105 => (some (decide (a2 ≤ t105)))) else (some false)) else (some false))
set_option maxHeartbeats 8000000 in
set_option maxRecDepth 100000 in
theorem civil_Right.calls (a0 : Int) (a1 : Int) (a2 : Int) (r : Bool) (w : World) (hG : GL w) (h : civil_Right.f a0 a1 a2 = some r) :
    Calls Tryd.prog 44 #[.int .i64 a0, .int .i64 a1, .int .i64 a2] w fun e w' => e = .returned (.bool r) ∧ Below w.heap.size w w' := by
  have HG := Aside0.mk hG
  clear hG
  have HB := Aside0.mk (Below.refl w.heap.size w)
  have H : ((civil_may.f a0).bind fun t104 => (if t104 = true then (if a2 ≥ 1 then ((civil_Length.f a0 a1).bind fun t105 => (some (decide (a2 ≤ t105)))) else (some false)) else (some false))) = some r := h
  clear h
  replace H := Option.bind_eq_some_iff.mp H
  obtain ⟨t104, A40, H⟩ := H
  replace H : (if t104 = true then (if a2 ≥ 1 then ((civil_Length.f a0 a1).bind fun t105 => (some (decide (a2 ≤ t105)))) else (some false)) else (some false)) = some r := H
  have A4 := Aside0.mk A40
  clear A40
  by_cases c5 : t104 = true
  · subst c5
    have H1 : (if a2 ≥ 1 then ((civil_Length.f a0 a1).bind fun t105 => (some (decide (a2 ≤ t105)))) else (some false)) = some r := by rw [if_pos rfl] at H; exact H
    clear H
    have H := H1
    clear H1
    by_cases c6 : a2 ≥ 1
    · rw [if_pos c6] at H
      have c6b0 : decide (1 ≤ a2) = true := decide_eq_true c6
      clear c6
      replace H := Option.bind_eq_some_iff.mp H
      obtain ⟨t105, A70, H⟩ := H
      replace H : (some (decide (a2 ≤ t105))) = some r := H
      have A7 := Aside0.mk A70
      clear A70
      obtain rfl := Option.some.inj H
      go_enter Tryd.func44, Tryd.ntmps44
      go_wp2_with (first | ((with_reducible refine gate_callee (f := 43) rfl ?_); refine goesL_ (some 8) rfl rfl Tryd.func43 (by kernel_rfl) rfl #[.int .i64 a0] rfl (by (try simp only [List.map_toArray, List.map_cons, List.map_nil]); first | done | rfl | (simp only [List.length_drop, List.length_take]; rfl)) ?_; (with_reducible refine (civil_may.calls a0 true _ A4.out).mono ?_); rintro e w' ⟨rfl, ⟨nd, rfl⟩⟩; refine ⟨_, rfl, ?_⟩) | (go_at_call 22; (with_reducible refine (civil_Length.calls a0 a1 t105 _ ?side1 A7.out).mono ?_); (case side1 => exact GL.below HG.out (by repeat (first | (with_reducible first | exact HB.out | apply below_alloc | apply pw_below_drewN | apply below_drew1) | exact HB.out))); rintro e w8 ⟨rfl, hb⟩; have n0_ := Aside0.mk (below_step (by repeat (first | (with_reducible first | exact HB.out | apply below_alloc | apply pw_below_drewN | apply below_drew1) | exact HB.out)) hb); clear HB; have HB := n0_; clear n0_; (try clear hb); (try clear hb2); (try clear hk); (try clear hi)))
      go_ret
      exact ⟨by first | rfl | (simp [errW_none, errW_some] <;> rfl) | (simp [*, errW_none, errW_some] <;> rfl), by repeat (first | (with_reducible first | exact HB.out | apply below_alloc | apply pw_below_drewN | apply below_drew1) | exact HB.out)⟩
    · rw [if_neg c6] at H
      have c6b0 : decide (1 ≤ a2) = false := decide_eq_false c6
      clear c6
      obtain rfl := Option.some.inj H
      go_enter Tryd.func44, Tryd.ntmps44
      go_wp2_with (first | ((with_reducible refine gate_callee (f := 43) rfl ?_); refine goesL_ (some 8) rfl rfl Tryd.func43 (by kernel_rfl) rfl #[.int .i64 a0] rfl (by (try simp only [List.map_toArray, List.map_cons, List.map_nil]); first | done | rfl | (simp only [List.length_drop, List.length_take]; rfl)) ?_; (with_reducible refine (civil_may.calls a0 true _ A4.out).mono ?_); rintro e w' ⟨rfl, ⟨nd, rfl⟩⟩; refine ⟨_, rfl, ?_⟩))
      go_ret
      exact ⟨by first | rfl | (simp [errW_none, errW_some] <;> rfl) | (simp [*, errW_none, errW_some] <;> rfl), by repeat (first | (with_reducible first | exact HB.out | apply below_alloc | apply pw_below_drewN | apply below_drew1) | exact HB.out)⟩
  · replace c5 := Bool.eq_false_iff.mpr c5
    subst c5
    have H1 : (some false) = some r := by rw [if_neg (show ¬ (false = true) by decide)] at H; exact H
    clear H
    have H := H1
    clear H1
    obtain rfl := Option.some.inj H
    go_enter Tryd.func44, Tryd.ntmps44
    go_wp2_with (first | ((with_reducible refine gate_callee (f := 43) rfl ?_); refine goesL_ (some 8) rfl rfl Tryd.func43 (by kernel_rfl) rfl #[.int .i64 a0] rfl (by (try simp only [List.map_toArray, List.map_cons, List.map_nil]); first | done | rfl | (simp only [List.length_drop, List.length_take]; rfl)) ?_; (with_reducible refine (civil_may.calls a0 false _ A4.out).mono ?_); rintro e w' ⟨rfl, ⟨nd, rfl⟩⟩; refine ⟨_, rfl, ?_⟩))
    go_ret
    exact ⟨by first | rfl | (simp [errW_none, errW_some] <;> rfl) | (simp [*, errW_none, errW_some] <;> rfl), by repeat (first | (with_reducible first | exact HB.out | apply below_alloc | apply pw_below_drewN | apply below_drew1) | exact HB.out)⟩

end Go.Proofs.YtgbehcahdgamoaaDoor.Fn

namespace Go.Proofs.YtgbehcahdgamoaaDoor.Fn
open Go.RowKit Go.Proofs.YtgbehcahdgamoaaDoorW.PrintWords Go.Proofs.YtgbehcahdgamoaaDoorW.PrintLast Go.Proofs.YtgbehcahdgamoaaDoorW.PrintMore
attribute [local go_sem] max2_int min2_int max_two min_two max_three min_three max_four min_four   -- for this text's walks alone
set_option linter.unusedVariables false
set_option linter.unusedSimpArgs false

/-! ### number_Div: function 34 -/
def number_Div.f (a0 : Int) (a1 : Int) : Option (Int × Int × Bool) := if a1 < 1 then (some (0, 0, false)) else (if a1 = 0 then (none) else (if (Int.tmod a0 a1) < 0 then (some (wrap64 ((wrap64 (Int.tdiv a0 a1)) - 1), wrap64 ((Int.tmod a0 a1) + a1), true)) else (some (wrap64 (Int.tdiv a0 a1), Int.tmod a0 a1, true))))
set_option maxHeartbeats 8000000 in
set_option maxRecDepth 100000 in
theorem number_Div.calls (a0 : Int) (a1 : Int) (r1 : Int) (r2 : Int) (r3 : Bool) (w : World) (h : number_Div.f a0 a1 = some (r1, r2, r3)) :
    Calls Tryd.prog 34 #[.int .i64 a0, .int .i64 a1] w fun e w' => e = .returned (.tuple #[.int .i64 r1, .int .i64 r2, .bool r3]) ∧ Drawn0 w w' := by
  have H : (if a1 < 1 then (some (0, 0, false)) else (if a1 = 0 then (none) else (if (Int.tmod a0 a1) < 0 then (some (wrap64 ((wrap64 (Int.tdiv a0 a1)) - 1), wrap64 ((Int.tmod a0 a1) + a1), true)) else (some (wrap64 (Int.tdiv a0 a1), Int.tmod a0 a1, true))))) = some (r1, r2, r3) := h
  clear h
  by_cases c3 : a1 < 1
  · rw [if_pos c3] at H
    have c3b0 : decide (a1 < 1) = true := decide_eq_true c3
    clear c3
    simp only [Option.some.injEq, Prod.mk.injEq] at H
    obtain ⟨rfl, rfl, rfl⟩ := H
    go_enter Tryd.func34, Tryd.ntmps34
    go_wp2
    repeat (go_quiet (fail); try go_wp2)
    go_ret3
    exact ⟨by first | rfl | (simp; done) | (simp [*]; done), by repeat (first | exact Drawn0.refl _ | apply Drawn0.step)⟩
  · rw [if_neg c3] at H
    have c3b0 : decide (a1 < 1) = false := decide_eq_false c3
    clear c3
    by_cases c4 : a1 = 0
    · rw [if_pos c4] at H
      exact absurd H (by simp)
    · rw [if_neg c4] at H
      have c4b0 : (a1 == 0) = false := beq_eq_false_iff_ne.mpr c4
      have c4b1 : (a1 != 0) = true := bne_iff_ne.mpr c4
      by_cases c5 : (Int.tmod a0 a1) < 0
      · rw [if_pos c5] at H
        have c5b0 : decide ((Int.tmod a0 a1) < 0) = true := decide_eq_true c5
        clear c5
        simp only [Option.some.injEq, Prod.mk.injEq] at H
        obtain ⟨rfl, rfl, rfl⟩ := H
        go_enter Tryd.func34, Tryd.ntmps34
        go_wp2
        repeat (go_quiet (fail); try go_wp2)
        go_ret3
        exact ⟨by first | rfl | (simp; done) | (simp [*]; done), by repeat (first | exact Drawn0.refl _ | apply Drawn0.step)⟩
      · rw [if_neg c5] at H
        have c5b0 : decide ((Int.tmod a0 a1) < 0) = false := decide_eq_false c5
        clear c5
        simp only [Option.some.injEq, Prod.mk.injEq] at H
        obtain ⟨rfl, rfl, rfl⟩ := H
        go_enter Tryd.func34, Tryd.ntmps34
        go_wp2
        repeat (go_quiet (fail); try go_wp2)
        go_ret3
        exact ⟨by first | rfl | (simp; done) | (simp [*]; done), by repeat (first | exact Drawn0.refl _ | apply Drawn0.step)⟩

end Go.Proofs.YtgbehcahdgamoaaDoor.Fn

namespace Go.Proofs.YtgbehcahdgamoaaDoor.Fn
open Go.RowKit Go.Proofs.YtgbehcahdgamoaaDoorW.PrintWords Go.Proofs.YtgbehcahdgamoaaDoorW.PrintLast Go.Proofs.YtgbehcahdgamoaaDoorW.PrintMore
attribute [local go_sem] max2_int min2_int max_two min_two max_three min_three max_four min_four   -- for this text's walks alone
set_option linter.unusedVariables false
set_option linter.unusedSimpArgs false

/-! ### civil_Days: function 24 -/
def civil_Days.f (a0 : Int) (a1 : Int) (a2 : Int) : Option (Int × Int) := (civil_Right.f a0 a1 a2).bind fun t106 => (if t106 = true then (if (wrap64 (a1 - 3)) < 0 then ((number_Div.f (wrap64 (a0 - 1)) 400).bind fun bt107 => (some (wrap64 ((wrap64 ((wrap64 ((wrap64 ((wrap64 ((wrap64 ((wrap64 ((wrap64 (bt107.1 * 146097)) + (wrap64 (bt107.2.1 * 365)))) + (wrap64 (Int.tdiv bt107.2.1 4)))) - (wrap64 (Int.tdiv bt107.2.1 100)))) + (wrap64 (Int.tdiv (wrap64 ((wrap64 (153 * (wrap64 ((wrap64 (a1 - 3)) + 12)))) + 2)) 5)))) + a2)) - 1)) - 719468), 0))) else ((number_Div.f a0 400).bind fun bt110 => (some (wrap64 ((wrap64 ((wrap64 ((wrap64 ((wrap64 ((wrap64 ((wrap64 ((wrap64 (bt110.1 * 146097)) + (wrap64 (bt110.2.1 * 365)))) + (wrap64 (Int.tdiv bt110.2.1 4)))) - (wrap64 (Int.tdiv bt110.2.1 100)))) + (wrap64 (Int.tdiv (wrap64 ((wrap64 (153 * (wrap64 (a1 - 3)))) + 2)) 5)))) + a2)) - 1)) - 719468), 0)))) else (some (0, 1)))
set_option maxHeartbeats 8000000 in
set_option maxRecDepth 100000 in
theorem civil_Days.calls (a0 : Int) (a1 : Int) (a2 : Int) (r1 : Int) (r2 : Int) (w : World) (hG : GL w) (h : civil_Days.f a0 a1 a2 = some (r1, r2)) :
    Calls Tryd.prog 24 #[.int .i64 a0, .int .i64 a1, .int .i64 a2] w fun e w' => e = .returned (.tuple #[.int .i64 r1, .int .i64 r2]) ∧ Below w.heap.size w w' := by
  have HG := Aside0.mk hG
  clear hG
  have HB := Aside0.mk (Below.refl w.heap.size w)
  have H : ((civil_Right.f a0 a1 a2).bind fun t106 => (if t106 = true then (if (wrap64 (a1 - 3)) < 0 then ((number_Div.f (wrap64 (a0 - 1)) 400).bind fun bt107 => (some (wrap64 ((wrap64 ((wrap64 ((wrap64 ((wrap64 ((wrap64 ((wrap64 ((wrap64 (bt107.1 * 146097)) + (wrap64 (bt107.2.1 * 365)))) + (wrap64 (Int.tdiv bt107.2.1 4)))) - (wrap64 (Int.tdiv bt107.2.1 100)))) + (wrap64 (Int.tdiv (wrap64 ((wrap64 (153 * (wrap64 ((wrap64 (a1 - 3)) + 12)))) + 2)) 5)))) + a2)) - 1)) - 719468), 0))) else ((number_Div.f a0 400).bind fun bt110 => (some (wrap64 ((wrap64 ((wrap64 ((wrap64 ((wrap64 ((wrap64 ((wrap64 ((wrap64 (bt110.1 * 146097)) + (wrap64 (bt110.2.1 * 365)))) + (wrap64 (Int.tdiv bt110.2.1 4)))) - (wrap64 (Int.tdiv bt110.2.1 100)))) + (wrap64 (Int.tdiv (wrap64 ((wrap64 (153 * (wrap64 (a1 - 3)))) + 2)) 5)))) + a2)) - 1)) - 719468), 0)))) else (some (0, 1)))) = some (r1, r2) := h
  clear h
  replace H := Option.bind_eq_some_iff.mp H
  obtain ⟨t106, A40, H⟩ := H
  replace H : (if t106 = true then (if (wrap64 (a1 - 3)) < 0 then ((number_Div.f (wrap64 (a0 - 1)) 400).bind fun bt107 => (some (wrap64 ((wrap64 ((wrap64 ((wrap64 ((wrap64 ((wrap64 ((wrap64 ((wrap64 (bt107.1 * 146097)) + (wrap64 (bt107.2.1 * 365)))) + (wrap64 (Int.tdiv bt107.2.1 4)))) - (wrap64 (Int.tdiv bt107.2.1 100)))) + (wrap64 (Int.tdiv (wrap64 ((wrap64 (153 * (wrap64 ((wrap64 (a1 - 3)) + 12)))) + 2)) 5)))) + a2)) - 1)) - 719468), 0))) else ((number_Div.f a0 400).bind fun bt110 => (some (wrap64 ((wrap64 ((wrap64 ((wrap64 ((wrap64 ((wrap64 ((wrap64 ((wrap64 (bt110.1 * 146097)) + (wrap64 (bt110.2.1 * 365)))) + (wrap64 (Int.tdiv bt110.2.1 4)))) - (wrap64 (Int.tdiv bt110.2.1 100)))) + (wrap64 (Int.tdiv (wrap64 ((wrap64 (153 * (wrap64 (a1 - 3)))) + 2)) 5)))) + a2)) - 1)) - 719468), 0)))) else (some (0, 1))) = some (r1, r2) := H
  have A4 := Aside0.mk A40
  clear A40
  by_cases c5 : t106 = true
  · subst c5
    have H1 : (if (wrap64 (a1 - 3)) < 0 then ((number_Div.f (wrap64 (a0 - 1)) 400).bind fun bt107 => (some (wrap64 ((wrap64 ((wrap64 ((wrap64 ((wrap64 ((wrap64 ((wrap64 ((wrap64 (bt107.1 * 146097)) + (wrap64 (bt107.2.1 * 365)))) + (wrap64 (Int.tdiv bt107.2.1 4)))) - (wrap64 (Int.tdiv bt107.2.1 100)))) + (wrap64 (Int.tdiv (wrap64 ((wrap64 (153 * (wrap64 ((wrap64 (a1 - 3)) + 12)))) + 2)) 5)))) + a2)) - 1)) - 719468), 0))) else ((number_Div.f a0 400).bind fun bt110 => (some (wrap64 ((wrap64 ((wrap64 ((wrap64 ((wrap64 ((wrap64 ((wrap64 ((wrap64 (bt110.1 * 146097)) + (wrap64 (bt110.2.1 * 365)))) + (wrap64 (Int.tdiv bt110.2.1 4)))) - (wrap64 (Int.tdiv bt110.2.1 100)))) + (wrap64 (Int.tdiv (wrap64 ((wrap64 (153 * (wrap64 (a1 - 3)))) + 2)) 5)))) + a2)) - 1)) - 719468), 0)))) = some (r1, r2) := by rw [if_pos rfl] at H; exact H
    clear H
    have H := H1
    clear H1
    by_cases c6 : (wrap64 (a1 - 3)) < 0
    · rw [if_pos c6] at H
      have c6b0 : decide ((wrap64 (a1 - 3)) < 0) = true := decide_eq_true c6
      clear c6
      replace H := Option.bind_eq_some_iff.mp H
      obtain ⟨⟨t107, t108, t109⟩, A70, H⟩ := H
      replace H : (some (wrap64 ((wrap64 ((wrap64 ((wrap64 ((wrap64 ((wrap64 ((wrap64 ((wrap64 (t107 * 146097)) + (wrap64 (t108 * 365)))) + (wrap64 (Int.tdiv t108 4)))) - (wrap64 (Int.tdiv t108 100)))) + (wrap64 (Int.tdiv (wrap64 ((wrap64 (153 * (wrap64 ((wrap64 (a1 - 3)) + 12)))) + 2)) 5)))) + a2)) - 1)) - 719468), 0)) = some (r1, r2) := H
      have A7 := Aside0.mk A70
      clear A70
      simp only [Option.some.injEq, Prod.mk.injEq] at H
      obtain ⟨rfl, rfl⟩ := H
      go_enter Tryd.func24, Tryd.ntmps24
      go_wp2_with (first | ((with_reducible refine gate_callee (f := 44) rfl ?_); refine goesL_ (some 16) rfl rfl Tryd.func44 (by kernel_rfl) rfl #[.int .i64 a0, .int .i64 a1, .int .i64 a2] rfl (by (try simp only [List.map_toArray, List.map_cons, List.map_nil]); first | done | rfl | (simp only [List.length_drop, List.length_take]; rfl)) ?_; (with_reducible refine (civil_Right.calls a0 a1 a2 true _ ?side1 A4.out).mono ?_); (case side1 => exact GL.below HG.out (by repeat (first | (with_reducible first | exact HB.out | apply below_alloc | apply pw_below_drewN | apply below_drew1) | exact HB.out))); rintro e w8 ⟨rfl, hb⟩; refine ⟨_, rfl, ?_⟩; have n0_ := Aside0.mk (below_step (by repeat (first | (with_reducible first | exact HB.out | apply below_alloc | apply pw_below_drewN | apply below_drew1) | exact HB.out)) hb); clear HB; have HB := n0_; clear n0_; (try clear hb); (try clear hb2); (try clear hk); (try clear hi)) | ((with_reducible refine gate_callee (f := 34) rfl ?_); refine goesL_ (some 29) rfl rfl Tryd.func34 (by kernel_rfl) rfl #[.int .i64 (wrap64 (a0 - 1)), .int .i64 400] rfl (by (try simp only [List.map_toArray, List.map_cons, List.map_nil]); first | done | rfl | (simp only [List.length_drop, List.length_take]; rfl)) ?_; (with_reducible refine (number_Div.calls (wrap64 (a0 - 1)) 400 t107 t108 t109 _ A7.out).mono ?_); rintro e w' ⟨rfl, ⟨nd, rfl⟩⟩; refine ⟨_, rfl, ?_⟩))
      go_ret2
      exact ⟨by first | rfl | (simp [errW_none, errW_some] <;> rfl) | (simp [*, errW_none, errW_some] <;> rfl), by repeat (first | (with_reducible first | exact HB.out | apply below_alloc | apply pw_below_drewN | apply below_drew1) | exact HB.out)⟩
    · rw [if_neg c6] at H
      have c6b0 : decide ((wrap64 (a1 - 3)) < 0) = false := decide_eq_false c6
      clear c6
      replace H := Option.bind_eq_some_iff.mp H
      obtain ⟨⟨t110, t111, t112⟩, A90, H⟩ := H
      replace H : (some (wrap64 ((wrap64 ((wrap64 ((wrap64 ((wrap64 ((wrap64 ((wrap64 ((wrap64 (t110 * 146097)) + (wrap64 (t111 * 365)))) + (wrap64 (Int.tdiv t111 4)))) - (wrap64 (Int.tdiv t111 100)))) + (wrap64 (Int.tdiv (wrap64 ((wrap64 (153 * (wrap64 (a1 - 3)))) + 2)) 5)))) + a2)) - 1)) - 719468), 0)) = some (r1, r2) := H
      have A9 := Aside0.mk A90
      clear A90
      simp only [Option.some.injEq, Prod.mk.injEq] at H
      obtain ⟨rfl, rfl⟩ := H
      go_enter Tryd.func24, Tryd.ntmps24
      go_wp2_with (first | ((with_reducible refine gate_callee (f := 44) rfl ?_); refine goesL_ (some 16) rfl rfl Tryd.func44 (by kernel_rfl) rfl #[.int .i64 a0, .int .i64 a1, .int .i64 a2] rfl (by (try simp only [List.map_toArray, List.map_cons, List.map_nil]); first | done | rfl | (simp only [List.length_drop, List.length_take]; rfl)) ?_; (with_reducible refine (civil_Right.calls a0 a1 a2 true _ ?side1 A4.out).mono ?_); (case side1 => exact GL.below HG.out (by repeat (first | (with_reducible first | exact HB.out | apply below_alloc | apply pw_below_drewN | apply below_drew1) | exact HB.out))); rintro e w10 ⟨rfl, hb⟩; refine ⟨_, rfl, ?_⟩; have n0_ := Aside0.mk (below_step (by repeat (first | (with_reducible first | exact HB.out | apply below_alloc | apply pw_below_drewN | apply below_drew1) | exact HB.out)) hb); clear HB; have HB := n0_; clear n0_; (try clear hb); (try clear hb2); (try clear hk); (try clear hi)) | ((with_reducible refine gate_callee (f := 34) rfl ?_); refine goesL_ (some 29) rfl rfl Tryd.func34 (by kernel_rfl) rfl #[.int .i64 a0, .int .i64 400] rfl (by (try simp only [List.map_toArray, List.map_cons, List.map_nil]); first | done | rfl | (simp only [List.length_drop, List.length_take]; rfl)) ?_; (with_reducible refine (number_Div.calls a0 400 t110 t111 t112 _ A9.out).mono ?_); rintro e w' ⟨rfl, ⟨nd, rfl⟩⟩; refine ⟨_, rfl, ?_⟩))
      go_ret2
      exact ⟨by first | rfl | (simp [errW_none, errW_some] <;> rfl) | (simp [*, errW_none, errW_some] <;> rfl), by repeat (first | (with_reducible first | exact HB.out | apply below_alloc | apply pw_below_drewN | apply below_drew1) | exact HB.out)⟩
  · replace c5 := Bool.eq_false_iff.mpr c5
    subst c5
    have H1 : (some (0, 1)) = some (r1, r2) := by rw [if_neg (show ¬ (false = true) by decide)] at H; exact H
    clear H
    have H := H1
    clear H1
    simp only [Option.some.injEq, Prod.mk.injEq] at H
    obtain ⟨rfl, rfl⟩ := H
    go_enter Tryd.func24, Tryd.ntmps24
    go_wp2_with (first | ((with_reducible refine gate_callee (f := 44) rfl ?_); refine goesL_ (some 16) rfl rfl Tryd.func44 (by kernel_rfl) rfl #[.int .i64 a0, .int .i64 a1, .int .i64 a2] rfl (by (try simp only [List.map_toArray, List.map_cons, List.map_nil]); first | done | rfl | (simp only [List.length_drop, List.length_take]; rfl)) ?_; (with_reducible refine (civil_Right.calls a0 a1 a2 false _ ?side1 A4.out).mono ?_); (case side1 => exact GL.below HG.out (by repeat (first | (with_reducible first | exact HB.out | apply below_alloc | apply pw_below_drewN | apply below_drew1) | exact HB.out))); rintro e w11 ⟨rfl, hb⟩; refine ⟨_, rfl, ?_⟩; have n0_ := Aside0.mk (below_step (by repeat (first | (with_reducible first | exact HB.out | apply below_alloc | apply pw_below_drewN | apply below_drew1) | exact HB.out)) hb); clear HB; have HB := n0_; clear n0_; (try clear hb); (try clear hb2); (try clear hk); (try clear hi)))
    go_ret2
    exact ⟨by first | rfl | (simp [errW_none, errW_some] <;> rfl) | (simp [*, errW_none, errW_some] <;> rfl), by repeat (first | (with_reducible first | exact HB.out | apply below_alloc | apply pw_below_drewN | apply below_drew1) | exact HB.out)⟩

end Go.Proofs.YtgbehcahdgamoaaDoor.Fn

namespace Go.Proofs.YtgbehcahdgamoaaDoor.Fn
open Go.RowKit Go.Proofs.YtgbehcahdgamoaaDoorW.PrintWords Go.Proofs.YtgbehcahdgamoaaDoorW.PrintLast Go.Proofs.YtgbehcahdgamoaaDoorW.PrintMore
attribute [local go_sem] max2_int min2_int max_two min_two max_three min_three max_four min_four   -- for this text's walks alone
set_option linter.unusedVariables false
set_option linter.unusedSimpArgs false

/-! ### civil_Weekday: function 23 -/
def civil_Weekday.f (a0 : Int) : Option (Int) := (number_Div.f a0 7).bind fun bt101 => (some (Int.tmod (wrap64 (bt101.2.1 + 4)) 7))
set_option maxHeartbeats 8000000 in
set_option maxRecDepth 100000 in
theorem civil_Weekday.calls (a0 : Int) (r : Int) (w : World) (h : civil_Weekday.f a0 = some r) :
    Calls Tryd.prog 23 #[.int .i64 a0] w fun e w' => e = .returned (.int .i64 r) ∧ Drawn0 w w' := by
  have H : ((number_Div.f a0 7).bind fun bt101 => (some (Int.tmod (wrap64 (bt101.2.1 + 4)) 7))) = some r := h
  clear h
  replace H := Option.bind_eq_some_iff.mp H
  obtain ⟨⟨t101, t102, t103⟩, A20, H⟩ := H
  replace H : (some (Int.tmod (wrap64 (t102 + 4)) 7)) = some r := H
  have A2 := Aside0.mk A20
  clear A20
  obtain rfl := Option.some.inj H
  go_enter Tryd.func23, Tryd.ntmps23
  go_wp2_with (first | ((with_reducible refine gate_callee (f := 34) rfl ?_); refine goesL_ (some 8) rfl rfl Tryd.func34 (by kernel_rfl) rfl #[.int .i64 a0, .int .i64 7] rfl (by (try simp only [List.map_toArray, List.map_cons, List.map_nil]); first | done | rfl | (simp only [List.length_drop, List.length_take]; rfl)) ?_; (with_reducible refine (number_Div.calls a0 7 t101 t102 t103 _ A2.out).mono ?_); rintro e w' ⟨rfl, ⟨nd, rfl⟩⟩; refine ⟨_, rfl, ?_⟩))
  go_ret
  exact ⟨by first | rfl | (simp; done) | (simp [*]; done), by repeat (first | exact Drawn0.refl _ | apply Drawn0.step)⟩

end Go.Proofs.YtgbehcahdgamoaaDoor.Fn

namespace Go.Proofs.YtgbehcahdgamoaaDoor.Fn
open Go.RowKit Go.Proofs.YtgbehcahdgamoaaDoorW.PrintWords Go.Proofs.YtgbehcahdgamoaaDoorW.PrintLast Go.Proofs.YtgbehcahdgamoaaDoorW.PrintMore

def IsI64 (a : Int) : Prop := -9223372036854775808 ≤ a ∧ a ≤ 9223372036854775807
theorem w64 {a : Int} (h : IsI64 a) : wrap64 a = a := by unfold IsI64 at h; unfold wrap64; omega

theorem div_eq (a b : Int) (hb : 1 ≤ b) (hb2 : b ≤ 4294967296) (ha : IsI64 a) : number_Div.f a b = some (a / b, a % b, true) := by
  have ha' := ha
  unfold IsI64 at ha'
  unfold number_Div.f
  rw [if_neg (by omega), if_neg (by omega)]
  have h1 := Int.tdiv_eq_ediv (a := a) (b := b)
  have h2 := Int.tmod_eq_emod (a := a) (b := b)
  have h3 := Int.emod_nonneg a (show b ≠ 0 by omega)
  have h4 := Int.emod_lt_of_pos a (show 0 < b by omega)
  have h5 := Int.mul_ediv_add_emod a b
  have h6 : a / b ≤ 9223372036854775807 := by
    rcases Int.le_total 0 a with h | h
    · exact Int.le_trans (Int.ediv_le_self b h) ha'.2
    · have := Int.ediv_le_ediv (show (0 : Int) < b by omega) h
      simp at this
      omega
  have h7 : -9223372036854775808 ≤ a / b := by
    apply Int.le_ediv_of_mul_le (by omega)
    omega
  have hs : b.sign = 1 := Int.sign_eq_one_of_pos (by omega)
  have hn : (b.natAbs : Int) = b := Int.natAbs_of_nonneg (by omega)
  by_cases hd : 0 ≤ a ∨ b ∣ a
  · rw [if_pos hd] at h1 h2
    rw [if_neg (by omega), show Int.tmod a b = a % b from by omega, show Int.tdiv a b = a / b from by omega]
    try rw [w64 ⟨h7, h6⟩]
  · rw [if_neg hd, hs] at h1
    rw [if_neg hd, hn] at h2
    have hne : a % b ≠ 0 := fun e => hd (.inr (Int.dvd_of_emod_eq_zero e))
    have h8 : a / b < 0 := by
      apply Int.ediv_neg_of_neg_of_pos <;> omega
    rw [if_pos (by omega)]
    rw [h1, h2]
    have e1 : wrap64 (a / b + 1) = a / b + 1 := w64 ⟨by omega, by omega⟩
    have e2 : wrap64 (a / b + 1 - 1) = a / b := by rw [Int.add_sub_cancel]; exact w64 ⟨h7, h6⟩
    have e3 : wrap64 (a % b - b + b) = a % b := by rw [Int.sub_add_cancel]; exact w64 ⟨by omega, by omega⟩
    simp only [e1, e2, e3]

theorem tmod_zero (a b : Int) (_hb : 0 < b) : Int.tmod a b = 0 ↔ a % b = 0 := by
  rw [← Int.dvd_iff_emod_eq_zero, Int.dvd_iff_tmod_eq_zero]
def leapB (y : Int) : Bool := decide (y % 4 = 0) && (decide (y % 100 ≠ 0) || decide (y % 400 = 0))
theorem leap_eq (y : Int) : civil_Leap.f y = some (leapB y) := by
  unfold civil_Leap.f leapB
  have h1 := tmod_zero y 4 (by omega)
  have h2 := tmod_zero y 100 (by omega)
  have h3 := tmod_zero y 400 (by omega)
  by_cases a : y % 4 = 0
  · rw [if_pos (h1.2 a)]
    by_cases b : y % 100 = 0
    · rw [if_pos (h2.2 b)]
      by_cases c : y % 400 = 0
      · simp [a, b, c, h3.2 c]
      · have : ¬ Int.tmod y 400 = 0 := fun e => c (h3.1 e)
        simp [a, b, c, this]
    · rw [if_neg (fun e => b (h2.1 e))]
      simp [a, b]
  · rw [if_neg (fun e => a (h1.1 e))]
    simp [a]

def weekN (n : Int) : Int := (n % 7 + 4) % 7
theorem weekday_eq (n : Int) (h : IsI64 n) : civil_Weekday.f n = some (weekN n) := by
  unfold civil_Weekday.f
  rw [div_eq n 7 (by omega) (by omega) h]
  simp only [Option.bind_some]
  have : IsI64 (n % 7 + 4) := ⟨by omega, by omega⟩
  rw [w64 this, Int.tmod_eq_emod_of_nonneg (by omega)]
  rfl

def lenN (y m : Int) : Int := if m < 1 then 0 else if 12 < m then 0 else if m = 2 ∧ leapB y = true then 29 else lens.getD (m - 1).toNat 0
theorem length_eq (y m : Int) : civil_Length.f y m = some (lenN y m) := by
  unfold civil_Length.f lenN
  split
  · rfl
  · split
    · rfl
    · by_cases h : m = 2
      · subst h
        rw [if_pos rfl, leap_eq]
        cases leapB y <;> simp <;> rfl
      · rw [if_neg h, if_neg (by simp [h])]

def mayB (y : Int) : Bool := decide (-2147483648 ≤ y) && decide (y ≤ 2147483647)
theorem may_eq (y : Int) : civil_may.f y = some (mayB y) := by
  unfold civil_may.f mayB
  by_cases h : y ≥ -2147483648
  · rw [if_pos h]; simp; omega
  · rw [if_neg h]; simp; omega
def rightN (y m d : Int) : Bool := mayB y && (decide (1 ≤ d) && decide (d ≤ lenN y m))
theorem right_eq (y m d : Int) : civil_Right.f y m d = some (rightN y m d) := by
  unfold civil_Right.f rightN
  rw [may_eq]
  simp only [Option.bind_some]
  cases mayB y
  · simp
  · rw [if_pos rfl]
    by_cases h : d ≥ 1
    · rw [if_pos h, length_eq]; simp; omega
    · rw [if_neg h]; simp; omega

theorem lenN_le (y m : Int) : 0 ≤ lenN y m ∧ lenN y m ≤ 31 := by
  unfold lenN
  split
  · omega
  · split
    · omega
    · split
      · omega
      · have h : ∀ i : Nat, 0 ≤ lens.getD i 0 ∧ lens.getD i 0 ≤ 31 := by
          intro i
          match i with
          | 0 | 1 | 2 | 3 | 4 | 5 | 6 | 7 | 8 | 9 | 10 | 11 => decide
          | i + 12 => simp [lens]
        exact h _
theorem lenN_pos (y m : Int) (h1 : 1 ≤ m) (h2 : m ≤ 12) : 28 ≤ lenN y m := by
  unfold lenN
  rw [if_neg (by omega), if_neg (by omega)]
  split
  · omega
  · obtain ⟨i, hi, rfl⟩ : ∃ i : Nat, i < 12 ∧ m = i + 1 := ⟨(m - 1).toNat, by omega, by omega⟩
    rw [show ((i : Int) + 1 - 1).toNat = i from by omega]
    have h : ∀ i : Nat, i < 12 → 28 ≤ lens.getD i 0 := by decide
    exact h i hi

/-- The days of a date, as the code reckons them. -/
def yM (y m : Int) : Int := if m < 3 then y - 1 else y
def mM (m : Int) : Int := if m < 3 then m + 9 else m - 3
def daysN (y m d : Int) : Int := (yM y m / 400) * 146097 + (yM y m % 400) * 365 + (yM y m % 400) / 4 - (yM y m % 400) / 100 + (153 * mM m + 2) / 5 + d - 1 - 719468

theorem days_eq (y m d : Int) : civil_Days.f y m d = some (if rightN y m d = true then (daysN y m d, 0) else (0, 1)) := by
  unfold civil_Days.f
  rw [right_eq]
  simp only [Option.bind_some]
  by_cases hr : rightN y m d = true
  · rw [if_pos hr, if_pos hr]
    have h := hr
    unfold rightN mayB at h
    simp only [Bool.and_eq_true, decide_eq_true_eq] at h
    have hl := lenN_le y m
    have hm : 1 ≤ m ∧ m ≤ 12 := by
      unfold lenN at h
      by_cases a : m < 1
      · rw [if_pos a] at h; omega
      · rw [if_neg a] at h
        by_cases b : 12 < m
        · rw [if_pos b] at h; omega
        · omega
    by_cases h3 : m < 3
    · rw [w64 (a := m - 3) ⟨by omega, by omega⟩, if_pos (by omega), w64 (a := y - 1) ⟨by omega, by omega⟩, div_eq _ _ (by omega) (by omega) ⟨by omega, by omega⟩]
      simp only [Option.bind_some]
      unfold daysN yM mM
      rw [if_pos h3, if_pos h3]
      rw [Int.tdiv_eq_ediv_of_nonneg (show 0 ≤ (y - 1) % 400 by omega), Int.tdiv_eq_ediv_of_nonneg (show 0 ≤ (y - 1) % 400 by omega)]
      rw [w64 (a := (y - 1) / 400 * 146097) ⟨by omega, by omega⟩, w64 (a := (y - 1) % 400 * 365) ⟨by omega, by omega⟩]
      rw [w64 (a := m - 3 + 12) ⟨by omega, by omega⟩, w64 (a := 153 * (m - 3 + 12)) ⟨by omega, by omega⟩, w64 (a := 153 * (m - 3 + 12) + 2) ⟨by omega, by omega⟩]
      rw [Int.tdiv_eq_ediv_of_nonneg (show 0 ≤ 153 * (m - 3 + 12) + 2 by omega), show m - 3 + 12 = m + 9 by omega]
      simp only [wrap64]
      congr 2
      omega
    · rw [w64 (a := m - 3) ⟨by omega, by omega⟩, if_neg (by omega), div_eq _ _ (by omega) (by omega) ⟨by omega, by omega⟩]
      simp only [Option.bind_some]
      unfold daysN yM mM
      rw [if_neg h3, if_neg h3]
      rw [Int.tdiv_eq_ediv_of_nonneg (show 0 ≤ y % 400 by omega), Int.tdiv_eq_ediv_of_nonneg (show 0 ≤ y % 400 by omega)]
      rw [w64 (a := y / 400 * 146097) ⟨by omega, by omega⟩, w64 (a := y % 400 * 365) ⟨by omega, by omega⟩]
      rw [w64 (a := 153 * (m - 3)) ⟨by omega, by omega⟩, w64 (a := 153 * (m - 3) + 2) ⟨by omega, by omega⟩]
      rw [Int.tdiv_eq_ediv_of_nonneg (show 0 ≤ 153 * (m - 3) + 2 by omega)]
      simp only [wrap64]
      congr 2
      omega
  · rw [if_neg hr, if_neg hr]
end Go.Proofs.YtgbehcahdgamoaaDoor.Fn

namespace Go.Proofs
open Go.Shelf
def Tryd.lays315_ren : Go.Shelf.Ren := ⟨fun | 315 => 63 | n => n, fun | 9 => 9 | 40 => 77 | 4 => 4 | 3 => 3 | 0 => 0 | 21 => 21 | n => n, fun | n => n⟩
theorem Tryd.lays315 : Go.Proofs.Lays.n315 Tryd.prog Tryd.lays315_ren := {
  mixed := by kernel_rfl
  f315 := Tryd.func63.trans (congrArg some (by kernel_rfl))
  t0 := Tryd.underlying0
  a0 := Tryd.isAgg0
  z0 := Tryd.sizeOf0
  v0 := Tryd.zeroValue0
  t3 := Tryd.underlying3
  a3 := Tryd.isAgg3
  z3 := Tryd.sizeOf3
  v3 := Tryd.zeroValue3
  t4 := Tryd.underlying4
  a4 := Tryd.isAgg4
  z4 := Tryd.sizeOf4
  v4 := Tryd.zeroValue4
  t9 := Tryd.underlying9
  a9 := Tryd.isAgg9
  z9 := Tryd.sizeOf9
  v9 := Tryd.zeroValue9
  t21 := Tryd.underlying21
  a21 := Tryd.isAgg21
  z21 := Tryd.sizeOf21
  v21 := Tryd.zeroValue21
  t40 := Tryd.underlying77
  a40 := Tryd.isAgg77
  z40 := Tryd.sizeOf77
  v40 := Tryd.zeroValue77 }
open Go.RowKit Go.Lib in
theorem Tryd.strings_indexFunc (g : Nat) (lb : Array Value) (eg : ∀ args w, (callFunc g args).run Tryd.prog w = .ok (.enter g args) w) (p : Nat → Bool) (truth : Bool) (s : ByteArray) (w : World) (hp : PredAt Tryd.prog g lb encR p w) :
    Calls Tryd.prog 63 #[.string s, .func (.func g) #[] lb, .bool truth] w fun e w' => e = .returned (.int .i64 (Lib.idxFunc p truth s)) ∧ Below w.heap.size w w' := Any.strings_indexFunc Tryd.lays315 g lb eg p truth s w hp
def Tryd.laysGw15_ren : Go.Shelf.Ren := ⟨fun | 15 => 60 | 20 => 63 | n => n, fun | 9 => 9 | 23 => 77 | 3 => 3 | 4 => 4 | 0 => 0 | 21 => 21 | n => n, fun | n => n⟩
theorem Tryd.laysGw15 : Go.Proofs.LaysGw.n15 Tryd.prog Tryd.laysGw15_ren := {
  mixed := by kernel_rfl
  f15 := Tryd.func60.trans (congrArg some (by kernel_rfl))
  f20 := Tryd.func63.trans (congrArg some (by kernel_rfl))
  t0 := Tryd.underlying0
  a0 := Tryd.isAgg0
  z0 := Tryd.sizeOf0
  v0 := Tryd.zeroValue0
  i0 := by kernel_rfl
  t3 := Tryd.underlying3
  a3 := Tryd.isAgg3
  z3 := Tryd.sizeOf3
  v3 := Tryd.zeroValue3
  i3 := by kernel_rfl
  t4 := Tryd.underlying4
  a4 := Tryd.isAgg4
  z4 := Tryd.sizeOf4
  v4 := Tryd.zeroValue4
  i4 := by kernel_rfl
  t9 := Tryd.underlying9
  a9 := Tryd.isAgg9
  z9 := Tryd.sizeOf9
  v9 := Tryd.zeroValue9
  i9 := by kernel_rfl
  t21 := Tryd.underlying21
  a21 := Tryd.isAgg21
  z21 := Tryd.sizeOf21
  v21 := Tryd.zeroValue21
  i21 := by kernel_rfl
  t23 := Tryd.underlying77
  a23 := Tryd.isAgg77
  z23 := Tryd.sizeOf77
  v23 := Tryd.zeroValue77
  i23 := by kernel_rfl }
open Go.RowKit Go.Lib in
theorem Tryd.strings_IndexFunc (g : Nat) (lb : Array Value) (eg : ∀ args w, (callFunc g args).run Tryd.prog w = .ok (.enter g args) w) (p : Nat → Bool) (s : ByteArray) (w : World) (hp : PredAt Tryd.prog g lb encR p w) :
    Calls Tryd.prog 60 #[.string s, .func (.func g) #[] lb] w fun e w' => e = .returned (.int .i64 (Lib.idxFunc p true s)) ∧ Below w.heap.size w w' := Any.strings_IndexFunc Tryd.laysGw15 g lb eg p s w hp
def Tryd.laysGw17_ren : Go.Shelf.Ren := ⟨fun | 17 => 57 | 15 => 60 | 20 => 63 | n => n, fun | 9 => 9 | 23 => 77 | 4 => 4 | 3 => 3 | 0 => 0 | 21 => 21 | n => n, fun | n => n⟩
theorem Tryd.laysGw17 : Go.Proofs.LaysGw.n17 Tryd.prog Tryd.laysGw17_ren := {
  mixed := by kernel_rfl
  f15 := Tryd.func60.trans (congrArg some (by kernel_rfl))
  f17 := Tryd.func57.trans (congrArg some (by kernel_rfl))
  f20 := Tryd.func63.trans (congrArg some (by kernel_rfl))
  t0 := Tryd.underlying0
  a0 := Tryd.isAgg0
  z0 := Tryd.sizeOf0
  v0 := Tryd.zeroValue0
  i0 := by kernel_rfl
  t3 := Tryd.underlying3
  a3 := Tryd.isAgg3
  z3 := Tryd.sizeOf3
  v3 := Tryd.zeroValue3
  i3 := by kernel_rfl
  t4 := Tryd.underlying4
  a4 := Tryd.isAgg4
  z4 := Tryd.sizeOf4
  v4 := Tryd.zeroValue4
  i4 := by kernel_rfl
  t9 := Tryd.underlying9
  a9 := Tryd.isAgg9
  z9 := Tryd.sizeOf9
  v9 := Tryd.zeroValue9
  i9 := by kernel_rfl
  t21 := Tryd.underlying21
  a21 := Tryd.isAgg21
  z21 := Tryd.sizeOf21
  v21 := Tryd.zeroValue21
  i21 := by kernel_rfl
  t23 := Tryd.underlying77
  a23 := Tryd.isAgg77
  z23 := Tryd.sizeOf77
  v23 := Tryd.zeroValue77
  i23 := by kernel_rfl }
open Go.RowKit Go.Lib in
theorem Tryd.strings_ContainsFunc (g : Nat) (lb : Array Value) (eg : ∀ args w, (callFunc g args).run Tryd.prog w = .ok (.enter g args) w) (p : Nat → Bool) (s : ByteArray) (w : World) (hp : PredAt Tryd.prog g lb encR p w) :
    Calls Tryd.prog 57 #[.string s, .func (.func g) #[] lb] w fun e w' => e = .returned (.bool (decide (0 ≤ Lib.idxFunc p true s))) ∧ Below w.heap.size w w' := Any.strings_ContainsFunc Tryd.laysGw17 g lb eg p s w hp
open Go.RowKit Go.Lib in
theorem Tryd.strings_indexFunc_grows (g : Nat) (lb : Array Value) (eg : ∀ args w, (callFunc g args).run Tryd.prog w = .ok (.enter g args) w) (p : Nat → Bool) (truth : Bool) (s : ByteArray) (w : World) (hp : PredGrows Tryd.prog g lb p w) :
    Calls Tryd.prog 63 #[.string s, .func (.func g) #[] lb, .bool truth] w fun e w' => e = .returned (.int .i64 (Lib.idxFunc p truth s)) ∧ Below w.heap.size w w' := Any.strings_indexFunc_grows Tryd.lays315 g lb eg p truth s w hp
open Go.RowKit Go.Lib in
theorem Tryd.strings_IndexFunc_grows (g : Nat) (lb : Array Value) (eg : ∀ args w, (callFunc g args).run Tryd.prog w = .ok (.enter g args) w) (p : Nat → Bool) (s : ByteArray) (w : World) (hp : PredGrows Tryd.prog g lb p w) :
    Calls Tryd.prog 60 #[.string s, .func (.func g) #[] lb] w fun e w' => e = .returned (.int .i64 (Lib.idxFunc p true s)) ∧ Below w.heap.size w w' := Any.strings_IndexFunc_grows Tryd.laysGw15 g lb eg p s w hp
open Go.RowKit Go.Lib in
theorem Tryd.strings_ContainsFunc_grows (g : Nat) (lb : Array Value) (eg : ∀ args w, (callFunc g args).run Tryd.prog w = .ok (.enter g args) w) (p : Nat → Bool) (s : ByteArray) (w : World) (hp : PredGrows Tryd.prog g lb p w) :
    Calls Tryd.prog 57 #[.string s, .func (.func g) #[] lb] w fun e w' => e = .returned (.bool (decide (0 ≤ Lib.idxFunc p true s))) ∧ Below w.heap.size w w' := Any.strings_ContainsFunc_grows Tryd.laysGw17 g lb eg p s w hp
end Go.Proofs

namespace Go.Proofs.YtgbehcahdgamoaaDoor.Fn
open Go.RowKit Go.Proofs.YtgbehcahdgamoaaDoorW.PrintWords Go.Proofs.YtgbehcahdgamoaaDoorW.PrintLast Go.Lib

theorem dec_pos (s : ByteArray) (pos : Nat) (h : pos < s.size) : 1 ≤ (Utf8.decode s pos).2 := by
  by_cases ha : (s[pos]'h).toNat < 128
  · rw [decode_ascii s pos h ha]
    exact Nat.le_refl _
  · exact (decode_high s pos h (by omega)).2

/-- Does a rune stand in a text? -/
def hasRuneB (s : ByteArray) (c : Int) : Bool := decide (0 ≤ idxFunc (fun r => decide ((r : Int) = c)) true s)

theorem idx_hit (p : Nat → Bool) (s : ByteArray) (f pos : Nat) (h : pos < s.size) (hp : p (Utf8.decode s pos).1 = true) : 0 ≤ idxFuncFrom p true s (f + 1) pos := by
  unfold idxFuncFrom
  rw [if_pos h, if_pos hp]
  omega
theorem idx_miss (p : Nat → Bool) (s : ByteArray) (f pos : Nat) (h : pos < s.size) (hp : p (Utf8.decode s pos).1 = false) : idxFuncFrom p true s (f + 1) pos = idxFuncFrom p true s f (pos + (Utf8.decode s pos).2) := by
  conv => lhs; unfold idxFuncFrom
  rw [if_pos h, if_neg (by rw [hp]; decide)]

set_option maxRecDepth 1000000 in
theorem hasRune_calls (s : ByteArray) (c : Int) (w : World) :
    Calls Tryd.prog 56 #[.string s, .int .i32 c] w fun e w' => e = .returned (.bool (hasRuneB s c)) ∧ Below w.heap.size w w' := by
  go_enter Tryd.func56, Tryd.ntmps56
  go_wp2
  go_loopw [4] (fun _ w' => ∃ (pos b : Nat), w' = w.iter s pos ∧ Aside0 (decide (0 ≤ idxFuncFrom (fun r => decide ((r : Int) = c)) true s b pos) = hasRuneB s c) ∧ s.size ≤ pos + b) (fun _ w' => s.size - w'.iterPos w.heap.size)
  case atStart => exact ⟨0, s.size, rfl, ⟨rfl⟩, by omega⟩
  case round =>
    obtain ⟨pos, b, rfl, hc, hb⟩ := hrel
    by_cases hp : pos < s.size
    · have hnx : ∀ ty, (Instr.next (.pointer (some ⟨w.heap.size, 0, none⟩)) true ty).run Tryd.prog (w.iter s pos) = _ := fun ty => run_next_any w s pos ty hp
      obtain ⟨b, rfl⟩ : ∃ b', b = b' + 1 := ⟨b - 1, by omega⟩
      have hdp := dec_pos s pos hp
      by_cases hq : ((Utf8.decode s pos).1 : Int) = c
      · have hq1 : (((Utf8.decode s pos).1 : Int) == c) = true := by simpa using hq
        have hpos := idx_hit (fun r => decide ((r : Int) = c)) s b pos hp (by simpa using hq)
        have HR : Aside0 (hasRuneB s c = true) := ⟨by rw [← hc.out]; simpa using hpos⟩
        clear hc hq hpos hdp
        go_wp2
        go_ret
        exact ⟨congrArg (fun b => Ending.returned (.bool b)) HR.out.symm, below_alloc (Below.refl _ _) _⟩
      · have hq1 : (((Utf8.decode s pos).1 : Int) == c) = false := by simpa using hq
        have HS : Aside0 (decide (0 ≤ idxFuncFrom (fun r => decide ((r : Int) = c)) true s b (pos + (Utf8.decode s pos).2)) = hasRuneB s c) := ⟨by rw [← hc.out, idx_miss _ _ _ _ hp (by simpa using hq)]⟩
        clear hc hq
        go_wp2
        go_roundw
        case rel => exact ⟨_, b, rfl, HS, by omega⟩
        case measure =>
          simp
          omega
    · have hnx : ∀ ty, (Instr.next (.pointer (some ⟨w.heap.size, 0, none⟩)) true ty).run Tryd.prog (w.iter s pos) = _ := fun ty => run_next_end w s pos ty hp
      go_wp2
      go_ret
      have h1 := hc.out
      rw [idxFuncFrom_end _ _ _ _ _ hp] at h1
      exact ⟨by rw [← h1]; rfl, below_alloc (Below.refl _ _) _⟩

/-- Of the texts of single bytes: a rune is found just if its byte stands there. -/
theorem idx_ascii (p : Nat → Bool) (s : ByteArray) (hs : ∀ i (h : i < s.size), (s[i]'h).toNat < 128) : ∀ (f pos : Nat), s.size ≤ pos + f →
    (0 ≤ idxFuncFrom p true s f pos ↔ ∃ i, ∃ h : i < s.size, pos ≤ i ∧ p (s[i]'h).toNat = true)
  | 0, pos, hf => by
    refine ⟨fun h => absurd h (by simp [idxFuncFrom]), fun ⟨i, h, h1, _⟩ => by omega⟩
  | f + 1, pos, hf => by
    by_cases hp : pos < s.size
    · have hd := decode_ascii s pos hp (hs pos hp)
      by_cases hq : p (s[pos]'hp).toNat = true
      · exact ⟨fun _ => ⟨pos, hp, Nat.le_refl _, hq⟩, fun _ => idx_hit p s f pos hp (by rw [hd]; exact hq)⟩
      · rw [idx_miss p s f pos hp (by rw [hd]; simpa using hq), hd, idx_ascii p s hs f (pos + 1) (by omega)]
        constructor
        · rintro ⟨i, h, h1, h2⟩; exact ⟨i, h, by omega, h2⟩
        · rintro ⟨i, h, h1, h2⟩
          by_cases e : i = pos
          · subst e; exact absurd h2 hq
          · exact ⟨i, h, by omega, h2⟩
    · rw [idxFuncFrom_end _ _ _ _ _ hp]
      exact ⟨fun h => by omega, fun ⟨i, h, h1, _⟩ => by omega⟩

/-- A test that every rune beyond the single bytes meets: it is met somewhere just if a byte stands there that meets it, or is none. -/
theorem idx_any (p : Nat → Bool) (hp' : ∀ r, 128 ≤ r → p r = true) (s : ByteArray) : ∀ (f pos : Nat), s.size ≤ pos + f →
    (0 ≤ idxFuncFrom p true s f pos ↔ ∃ i, ∃ h : i < s.size, pos ≤ i ∧ p (s[i]'h).toNat = true)
  | 0, pos, hf => by
    refine ⟨fun h => absurd h (by simp [idxFuncFrom]), fun ⟨i, h, h1, _⟩ => by omega⟩
  | f + 1, pos, hf => by
    by_cases hp : pos < s.size
    · by_cases ha : (s[pos]'hp).toNat < 128
      · have hd := decode_ascii s pos hp ha
        by_cases hq : p (s[pos]'hp).toNat = true
        · exact ⟨fun _ => ⟨pos, hp, Nat.le_refl _, hq⟩, fun _ => idx_hit p s f pos hp (by rw [hd]; exact hq)⟩
        · rw [idx_miss p s f pos hp (by rw [hd]; simpa using hq), hd, idx_any p hp' s f (pos + 1) (by omega)]
          constructor
          · rintro ⟨i, h, h1, h2⟩; exact ⟨i, h, by omega, h2⟩
          · rintro ⟨i, h, h1, h2⟩
            by_cases e : i = pos
            · subst e; exact absurd h2 hq
            · exact ⟨i, h, by omega, h2⟩
      · exact ⟨fun _ => ⟨pos, hp, Nat.le_refl _, hp' _ (by omega)⟩, fun _ => idx_hit p s f pos hp (hp' _ (decode_high s pos hp (by omega)).1)⟩
    · rw [idxFuncFrom_end _ _ _ _ _ hp]
      exact ⟨fun h => by omega, fun ⟨i, h, h1, _⟩ => by omega⟩

/-- The bytes that a name may have. -/
def setS : ByteArray := ⟨#[97, 98, 99, 100, 101, 102, 103, 104, 105, 106, 107, 108, 109, 110, 111, 112, 113, 114, 115, 116, 117, 118, 119, 120, 121, 122, 65, 66, 67, 68, 69, 70, 71, 72, 73, 74, 75, 76, 77, 78, 79, 80, 81, 82, 83, 84, 85, 86, 87, 88, 89, 90, 48, 49, 50, 51, 52, 53, 54, 55, 56, 57, 43, 45]⟩
def inSet (r : Nat) : Bool := (decide (97 ≤ r) && decide (r ≤ 122)) || (decide (65 ≤ r) && decide (r ≤ 90)) || (decide (48 ≤ r) && decide (r ≤ 57)) || r == 43 || r == 45
theorem hasRune_set (r : Nat) : hasRuneB setS (r : Int) = inSet r := by
  by_cases hr : r < 128
  · have h : ∀ r : Fin 128, hasRuneB setS ((r.val : Nat) : Int) = inSet r.val := by decide +kernel
    exact h ⟨r, hr⟩
  · have hs : ∀ i (h : i < setS.size), (setS[i]'h).toNat < 128 := by decide +kernel
    have h1 : hasRuneB setS (r : Int) = false := by
      unfold hasRuneB idxFunc
      rw [decide_eq_false_iff_not, idx_ascii _ setS hs _ _ (by omega)]
      rintro ⟨i, h, _, h2⟩
      have := hs i h
      simp at h2
      omega
    rw [h1]
    simp [inSet]
    omega
/-- A name may be. -/
def namedB (s : ByteArray) : Bool := decide (3 ≤ s.size) && decide (s.size ≤ 20) && s.data.toList.all fun c => inSet c.toNat
def posix_named.f (s : ByteArray) : Option Bool := some (namedB s)

theorem strange_pays (w : World) : PredGrows Tryd.prog 55 #[] (fun r => !inSet r) w := fun W x _ _ => by
  have hset := hasRune_set x
  have HS : Aside0 (hasRuneB setS (x : Int) = inSet x) := ⟨hset⟩
  clear hset
  have hcall := fun W => hasRune_calls setS (x : Int) W
  unfold setS at hcall
  go_enter Tryd.func55, Tryd.ntmps55
  go_wp2_with (go_at_call 56; refine (hcall _).mono ?_; rintro e w' ⟨rfl, hb⟩)
  go_ret
  refine ⟨?_, by assumption⟩
  have := HS.out
  unfold setS at this
  rw [← this]
  rfl

theorem strange_in (s : ByteArray) : decide (0 ≤ idxFunc (fun r => !inSet r) true s) = !(s.data.toList.all fun c => inSet c.toNat) := by
  have h := idx_any (fun r => !inSet r) (fun r h => by simp [inSet]; omega) s s.size 0 (by omega)
  rw [Bool.eq_iff_iff, decide_eq_true_iff]
  unfold idxFunc
  rw [h]
  simp only [Bool.not_eq_true', List.all_eq_false, Array.mem_toList_iff, Array.mem_iff_getElem]
  constructor
  · rintro ⟨i, h, _, h2⟩; exact ⟨_, ⟨i, h, rfl⟩, by rw [show s.data[i] = s[i] from rfl, h2]; decide⟩
  · rintro ⟨_, ⟨i, h, rfl⟩, h2⟩; exact ⟨i, h, Nat.zero_le _, by rw [show s[i] = s.data[i] from rfl]; simpa using h2⟩

theorem posix_named.calls (a0 : ByteArray) (r : Bool) (w : World) (h : posix_named.f a0 = some r) :
    Calls Tryd.prog 45 #[.string a0] w fun e w' => e = .returned (.bool r) ∧ Below w.heap.size w w' := by
  obtain rfl := Option.some.inj h
  clear h
  have hC := fun W => Tryd.strings_ContainsFunc_grows 55 #[] (enters_of Tryd.func55 (by kernel_rfl) rfl) (fun r => !inSet r) a0 W (strange_pays W)
  rw [strange_in] at hC
  by_cases h1 : 3 ≤ a0.size
  · by_cases h2 : a0.size ≤ 20
    · have hr : namedB a0 = a0.data.toList.all fun c => inSet c.toNat := by simp [namedB, h1, h2]
      rw [hr]
      clear hr
      generalize (a0.data.toList.all fun c => inSet c.toNat) = b at hC ⊢
      have d1 : (3 : Int) ≤ (a0.size : Int) := by omega
      have d2 : (a0.size : Int) ≤ 20 := by omega
      clear h1 h2
      go_enter Tryd.func45, Tryd.ntmps45
      go_wp2_with (go_at_call 57; refine (hC _).mono ?_; rintro e w' ⟨rfl, hb⟩)
      go_ret
      exact ⟨by simp, by assumption⟩
    · have hr : namedB a0 = false := by simp [namedB, h2]
      rw [hr]
      have d1 : (3 : Int) ≤ (a0.size : Int) := by omega
      have d2 : 20 < (a0.size : Int) := by omega
      clear h1 h2 hr hC
      go_enter Tryd.func45, Tryd.ntmps45
      go_wp2
      go_ret
      exact ⟨rfl, Below.refl _ _⟩
  · have hr : namedB a0 = false := by simp [namedB, h1]
    rw [hr]
    have d1 : (a0.size : Int) < 3 := by omega
    clear h1 hr hC
    go_enter Tryd.func45, Tryd.ntmps45
    go_wp2
    go_ret
    exact ⟨rfl, Below.refl _ _⟩
end Go.Proofs.YtgbehcahdgamoaaDoor.Fn

namespace Go.Proofs.YtgbehcahdgamoaaDoor.Fn
open Go.RowKit Go.Proofs.YtgbehcahdgamoaaDoorW.PrintWords Go.Proofs.YtgbehcahdgamoaaDoorW.PrintLast Go.Proofs.YtgbehcahdgamoaaDoorW.PrintMore
attribute [local go_sem] max2_int min2_int max_two min_two max_three min_three max_four min_four   -- for this text's walks alone
set_option linter.unusedVariables false
set_option linter.unusedSimpArgs false

theorem eqA23 (d : Nat) (w : World) (x0 y0 : Int) (x1 y1 : Bool) (x2 y2 : ByteArray) :
    (Op.equalIn (d + 2) 23 (.agg #[.int .i64 x0, .bool x1, .string x2]) (.agg #[.int .i64 y0, .bool y1, .string y2])).run Tryd.prog w = .ok (x0 == y0 && (x1 == y1 && (x2.toList == y2.toList))) w := by
  refine eqA_of Tryd.underlying23 (by kernel_rfl) ?_
  refine eqf_cons (by rfl) (by go_simp; rfl) (by go_simp; rfl) (by go_simp) ?_
  refine eqf_cons (by rfl) (by go_simp; rfl) (by go_simp; rfl) (by go_simp) ?_
  exact eqf_last (by rfl) (by go_simp; rfl) (by go_simp; rfl) (by go_simp)
end Go.Proofs.YtgbehcahdgamoaaDoor.Fn

namespace Go.Proofs.YtgbehcahdgamoaaDoor.Fn
open Go.RowKit Go.Proofs.YtgbehcahdgamoaaDoorW.PrintWords Go.Proofs.YtgbehcahdgamoaaDoorW.PrintLast Go.Proofs.YtgbehcahdgamoaaDoorW.PrintMore
attribute [local go_sem] max2_int min2_int max_two min_two max_three min_three max_four min_four   -- for this text's walks alone
set_option linter.unusedVariables false
set_option linter.unusedSimpArgs false

theorem eqA25 (d : Nat) (w : World) (x0 y0 : Int) (x1 y1 : Int) (x2 y2 : Int) (x3 y3 : Int) (x4 y4 : Int) :
    (Op.equalIn (d + 2) 25 (.agg #[.int .i64 x0, .int .i64 x1, .int .i64 x2, .int .i64 x3, .int .i64 x4]) (.agg #[.int .i64 y0, .int .i64 y1, .int .i64 y2, .int .i64 y3, .int .i64 y4])).run Tryd.prog w = .ok (x0 == y0 && (x1 == y1 && (x2 == y2 && (x3 == y3 && (x4 == y4))))) w := by
  refine eqA_of Tryd.underlying25 (by kernel_rfl) ?_
  refine eqf_cons (by rfl) (by go_simp; rfl) (by go_simp; rfl) (by go_simp) ?_
  refine eqf_cons (by rfl) (by go_simp; rfl) (by go_simp; rfl) (by go_simp) ?_
  refine eqf_cons (by rfl) (by go_simp; rfl) (by go_simp; rfl) (by go_simp) ?_
  refine eqf_cons (by rfl) (by go_simp; rfl) (by go_simp; rfl) (by go_simp) ?_
  exact eqf_last (by rfl) (by go_simp; rfl) (by go_simp; rfl) (by go_simp)
end Go.Proofs.YtgbehcahdgamoaaDoor.Fn

namespace Go.Proofs.YtgbehcahdgamoaaDoor.Fn
open Go.RowKit Go.Proofs.YtgbehcahdgamoaaDoorW.PrintWords Go.Proofs.YtgbehcahdgamoaaDoorW.PrintLast Go.Proofs.YtgbehcahdgamoaaDoorW.PrintMore
attribute [local go_sem] max2_int min2_int max_two min_two max_three min_three max_four min_four   -- for this text's walks alone
set_option linter.unusedVariables false
set_option linter.unusedSimpArgs false

theorem eqA27 (d : Nat) (w : World) (x0 y0 : Int) (x1 y1 : Bool) (x2 y2 : ByteArray) (x3 y3 : Int) (x4 y4 : Bool) (x5 y5 : ByteArray) (x6 y6 : Bool) (x7 y7 : Int) (x8 y8 : Int) (x9 y9 : Int) (x10 y10 : Int) (x11 y11 : Int) (x12 y12 : Int) (x13 y13 : Int) (x14 y14 : Int) (x15 y15 : Int) (x16 y16 : Int) :
    (Op.equalIn (d + 3) 27 (.agg #[.int .i64 x0, .bool x1, .string x2, .int .i64 x3, .bool x4, .string x5, .bool x6, .int .i64 x7, .int .i64 x8, .int .i64 x9, .int .i64 x10, .int .i64 x11, .int .i64 x12, .int .i64 x13, .int .i64 x14, .int .i64 x15, .int .i64 x16]) (.agg #[.int .i64 y0, .bool y1, .string y2, .int .i64 y3, .bool y4, .string y5, .bool y6, .int .i64 y7, .int .i64 y8, .int .i64 y9, .int .i64 y10, .int .i64 y11, .int .i64 y12, .int .i64 y13, .int .i64 y14, .int .i64 y15, .int .i64 y16])).run Tryd.prog w = .ok ((x0 == y0 && (x1 == y1 && (x2.toList == y2.toList))) && ((x3 == y3 && (x4 == y4 && (x5.toList == y5.toList))) && (x6 == y6 && ((x7 == y7 && (x8 == y8 && (x9 == y9 && (x10 == y10 && (x11 == y11))))) && ((x12 == y12 && (x13 == y13 && (x14 == y14 && (x15 == y15 && (x16 == y16)))))))))) w := by
  refine eqA_of Tryd.underlying27 (by kernel_rfl) ?_
  refine eqf_cons (by rfl) (by go_simp) (by go_simp) (eqA23 (d + 0) w _ _ _ _ _ _) ?_
  refine eqf_cons (by rfl) (by go_simp) (by go_simp) (eqA23 (d + 0) w _ _ _ _ _ _) ?_
  refine eqf_cons (by rfl) (by go_simp; rfl) (by go_simp; rfl) (by go_simp) ?_
  refine eqf_cons (by rfl) (by go_simp) (by go_simp) (eqA25 (d + 0) w _ _ _ _ _ _ _ _ _ _) ?_
  exact eqf_last (by rfl) (by go_simp) (by go_simp) (eqA25 (d + 0) w _ _ _ _ _ _ _ _ _ _)
end Go.Proofs.YtgbehcahdgamoaaDoor.Fn

namespace Go.Proofs.YtgbehcahdgamoaaDoor.Fn
open Go.RowKit Go.Proofs.YtgbehcahdgamoaaDoorW.PrintWords Go.Proofs.YtgbehcahdgamoaaDoorW.PrintLast Go.Proofs.YtgbehcahdgamoaaDoorW.PrintMore
attribute [local go_sem] max2_int min2_int max_two min_two max_three min_three max_four min_four   -- for this text's walks alone
set_option linter.unusedVariables false
set_option linter.unusedSimpArgs false

/-! ### posix_within: function 46 -/
def posix_within.f (a0 : Int) (a1 : Int) (a2 : Int) : Option (Bool) := if a0 ≥ a1 then (some (decide (a0 ≤ a2))) else (some false)
set_option maxHeartbeats 8000000 in
set_option maxRecDepth 100000 in
theorem posix_within.calls (a0 : Int) (a1 : Int) (a2 : Int) (r : Bool) (w : World) (h : posix_within.f a0 a1 a2 = some r) :
    Calls Tryd.prog 46 #[.int .i64 a0, .int .i64 a1, .int .i64 a2] w fun e w' => e = .returned (.bool r) ∧ Drawn0 w w' := by
  have H : (if a0 ≥ a1 then (some (decide (a0 ≤ a2))) else (some false)) = some r := h
  clear h
  by_cases c4 : a0 ≥ a1
  · rw [if_pos c4] at H
    have c4b0 : decide (a1 ≤ a0) = true := decide_eq_true c4
    clear c4
    obtain rfl := Option.some.inj H
    go_enter Tryd.func46, Tryd.ntmps46
    go_wp2
    go_ret
    exact ⟨by first | rfl | (simp; done) | (simp [*]; done), by repeat (first | exact Drawn0.refl _ | apply Drawn0.step)⟩
  · rw [if_neg c4] at H
    have c4b0 : decide (a1 ≤ a0) = false := decide_eq_false c4
    clear c4
    obtain rfl := Option.some.inj H
    go_enter Tryd.func46, Tryd.ntmps46
    go_wp2
    go_ret
    exact ⟨by first | rfl | (simp; done) | (simp [*]; done), by repeat (first | exact Drawn0.refl _ | apply Drawn0.step)⟩

end Go.Proofs.YtgbehcahdgamoaaDoor.Fn

namespace Go.Proofs.YtgbehcahdgamoaaDoor.Fn
open Go.RowKit Go.Proofs.YtgbehcahdgamoaaDoorW.PrintWords Go.Proofs.YtgbehcahdgamoaaDoorW.PrintLast Go.Proofs.YtgbehcahdgamoaaDoorW.PrintMore
attribute [local go_sem] max2_int min2_int max_two min_two max_three min_three max_four min_four   -- for this text's walks alone
set_option linter.unusedVariables false
set_option linter.unusedSimpArgs false

/-! ### posix_changes: function 47 -/
mutual
def posix_changes.j0 : Nat → Bool → Int → Int → Int → Int → Int → Option (Bool)
  | 0, _, _, _, _, _, _ => none
  | k + 1, x18, x114000, x114001, x114002, x114003, x114004 => if x18 = true then (some false) else (if x114002 = 0 then (posix_changes.j1 k (x114003 == 0) x114000 x114001 x114002 x114003 x114004) else (posix_changes.j1 k false x114000 x114001 x114002 x114003 x114004))
def posix_changes.j1 : Nat → Bool → Int → Int → Int → Int → Int → Option (Bool)
  | 0, _, _, _, _, _, _ => none
  | k + 1, x5, x114000, x114001, x114002, x114003, x114004 => if x114000 = 1 then (if x5 = true then ((posix_within.f x114001 1 365).bind fun t116 => (some t116)) else (some false)) else (if x114000 = 2 then (if x5 = true then ((posix_within.f x114001 0 365).bind fun t117 => (some t117)) else (some false)) else (if x114000 = 3 then ((posix_within.f x114001 1 12).bind fun t118 => (if t118 = true then ((posix_within.f x114002 1 5).bind fun t119 => (if t119 = true then ((posix_within.f x114003 0 6).bind fun t120 => (some t120)) else (some false))) else (some false))) else (some false)))
end
def posix_changes.f (k : Nat) (a0_0 : Int) (a0_1 : Int) (a0_2 : Int) (a0_3 : Int) (a0_4 : Int) (a1 : Bool) : Option (Bool) := (posix_within.f a0_4 0 89999).bind fun t114 => (if t114 = true then (posix_changes.j0 k false a0_0 a0_1 a0_2 a0_3 a0_4) else (if a1 = true then ((posix_within.f a0_4 (-604799) 604799).bind fun t115 => (posix_changes.j0 k (!t115) a0_0 a0_1 a0_2 a0_3 a0_4)) else (posix_changes.j0 k (!false) a0_0 a0_1 a0_2 a0_3 a0_4)))
theorem posix_changes.mono_l : ∀ k, (∀ y0 y1 y2 y3 y4 y5, LeO (posix_changes.j0 k y0 y1 y2 y3 y4 y5) (posix_changes.j0 (k + 1) y0 y1 y2 y3 y4 y5)) ∧ (∀ y0 y1 y2 y3 y4 y5, LeO (posix_changes.j1 k y0 y1 y2 y3 y4 y5) (posix_changes.j1 (k + 1) y0 y1 y2 y3 y4 y5))
  | 0 => ⟨fun _ _ _ _ _ _ r h => by simp [posix_changes.j0] at h, fun _ _ _ _ _ _ r h => by simp [posix_changes.j1] at h⟩
  | k + 1 => by
    obtain ⟨ih0, ih1⟩ := posix_changes.mono_l k
    refine ⟨?_, ?_⟩
    · intro y0 y1 y2 y3 y4 y5
      unfold posix_changes.j0
      repeat' first
      | (with_reducible exact ih0 _ _ _ _ _ _)
      | (with_reducible exact ih1 _ _ _ _ _ _)
      | (with_reducible exact LeO.refl _)
      | (with_reducible exact LeO.none _)
      | (with_reducible refine LeO.ite ?_ ?_)
      | (with_reducible refine LeO.bind ?_ (fun _ => ?_))
      | exact ih0 _ _ _ _ _ _
      | exact ih1 _ _ _ _ _ _
      | exact LeO.none _
      | refine LeO.ite ?_ ?_
      | refine LeO.bind ?_ (fun _ => ?_)
    · intro y0 y1 y2 y3 y4 y5
      unfold posix_changes.j1
      repeat' first
      | (with_reducible exact ih0 _ _ _ _ _ _)
      | (with_reducible exact ih1 _ _ _ _ _ _)
      | (with_reducible exact LeO.refl _)
      | (with_reducible exact LeO.none _)
      | (with_reducible refine LeO.ite ?_ ?_)
      | (with_reducible refine LeO.bind ?_ (fun _ => ?_))
      | exact ih0 _ _ _ _ _ _
      | exact ih1 _ _ _ _ _ _
      | exact LeO.none _
      | refine LeO.ite ?_ ?_
      | refine LeO.bind ?_ (fun _ => ?_)
theorem posix_changes.mono : ∀ a0 a1 a2 a3 a4 a5 k, LeO (posix_changes.f k a0 a1 a2 a3 a4 a5) (posix_changes.f (k + 1) a0 a1 a2 a3 a4 a5) := by
  intro a0 a1 a2 a3 a4 a5 k
  obtain ⟨ih0, ih1⟩ := posix_changes.mono_l k
  unfold posix_changes.f
  repeat' first
      | (with_reducible exact ih0 _ _ _ _ _ _)
      | (with_reducible exact ih1 _ _ _ _ _ _)
      | (with_reducible exact LeO.refl _)
      | (with_reducible exact LeO.none _)
      | (with_reducible refine LeO.ite ?_ ?_)
      | (with_reducible refine LeO.bind ?_ (fun _ => ?_))
      | exact ih0 _ _ _ _ _ _
      | exact ih1 _ _ _ _ _ _
      | exact LeO.none _
      | refine LeO.ite ?_ ?_
      | refine LeO.bind ?_ (fun _ => ?_)
set_option maxHeartbeats 8000000 in
set_option maxRecDepth 100000 in
theorem posix_changes.calls (k : Nat) (a0_0 : Int) (a0_1 : Int) (a0_2 : Int) (a0_3 : Int) (a0_4 : Int) (a1 : Bool) (r : Bool) (w : World) (h : posix_changes.f k a0_0 a0_1 a0_2 a0_3 a0_4 a1 = some r) :
    Calls Tryd.prog 47 #[.agg #[.int .i64 a0_0, .int .i64 a0_1, .int .i64 a0_2, .int .i64 a0_3, .int .i64 a0_4], .bool a1] w fun e w' => e = .returned (.bool r) ∧ Below w.heap.size w w' := by
  have hu25 := Tryd.underlying25
  have HB := Aside0.mk (Below.refl w.heap.size w)
  have H : ((posix_within.f a0_4 0 89999).bind fun t114 => (if t114 = true then (posix_changes.j0 k false a0_0 a0_1 a0_2 a0_3 a0_4) else (if a1 = true then ((posix_within.f a0_4 (-604799) 604799).bind fun t115 => (posix_changes.j0 k (!t115) a0_0 a0_1 a0_2 a0_3 a0_4)) else (posix_changes.j0 k (!false) a0_0 a0_1 a0_2 a0_3 a0_4)))) = some r := h
  clear h
  have HC3 := Aside0.mk H
  clear H
  go_enter Tryd.func47, Tryd.ntmps47
  go_upto_region 1 with (first | ((with_reducible refine gate_dst (N := 2) rfl ?_); refine box_event ?hg (N := 2) ?hd (cs := #[.int .i64 a0_0, .int .i64 a0_1, .int .i64 a0_2, .int .i64 a0_3, .int .i64 a0_4]) (t := 25) ?hr ?_; (case hd => rfl); (case hg => rfl); (case hr => first | (go_simp; done) | (go_simp; rfl)); intro gb113 hg w4 hbox hb; have n0_ := Aside0.mk (below_step (by repeat (first | (with_reducible first | exact HB.out | apply below_alloc | apply pw_below_drewN | apply below_drew1) | exact HB.out)) hb); have n1_ := Aside0.mk (hbox); have n2_ := Aside0.mk ((by rw [hg]; exact (below_size (by repeat (first | (with_reducible first | exact HB.out | apply below_alloc | apply pw_below_drewN | apply below_drew1) | exact HB.out))) : w.heap.size ≤ gb113)); have n3_ := Aside0.mk ((by rw [hg]; exact (below_size (by repeat (first | (with_reducible first | exact HB.out | apply below_alloc | apply pw_below_drewN | apply below_drew1) | exact HB.out))) : w.heap.size ≤ gb113)); clear HB; have HB := n0_; have BK113 := n1_; have GW113 := n2_; have GE113 := n3_; clear n0_ n1_ n2_ n3_; clear hb hbox hg))
  (try simp only [Act.put, List.setIfInBounds_toArray, List.set_cons_zero, List.set_cons_succ])
  go_cut [18] (fun v18 wc => ∃ (kq : Nat) (x18_2 : Bool), v18 = .bool x18_2 ∧ Aside0 (posix_changes.j0 kq x18_2 a0_0 a0_1 a0_2 a0_3 a0_4 = some r) ∧ Aside0 (kq ≤ k) ∧ Aside0 (wc.heap[gb113]? = some (.cells #[.int .i64 a0_0, .int .i64 a0_1, .int .i64 a0_2, .int .i64 a0_3, .int .i64 a0_4] 25 (0, 0))) ∧ Aside0 (Below w.heap.size w wc))
  case first =>
    have H := HC3.out
    clear HC3
    replace H := Option.bind_eq_some_iff.mp H
    obtain ⟨t114, A50, H⟩ := H
    replace H : (if t114 = true then (posix_changes.j0 k false a0_0 a0_1 a0_2 a0_3 a0_4) else (if a1 = true then ((posix_within.f a0_4 (-604799) 604799).bind fun t115 => (posix_changes.j0 k (!t115) a0_0 a0_1 a0_2 a0_3 a0_4)) else (posix_changes.j0 k (!false) a0_0 a0_1 a0_2 a0_3 a0_4))) = some r := H
    have A5 := Aside0.mk A50
    clear A50
    by_cases c6 : t114 = true
    · subst c6
      have H1 : (posix_changes.j0 k false a0_0 a0_1 a0_2 a0_3 a0_4) = some r := by rw [if_pos rfl] at H; exact H
      clear H
      have H := H1
      clear H1
      have H' := Aside0.mk H
      clear H
      have hcz7_0 : w4.cell? ⟨gb113, 0, none⟩ = some (.int .i64 a0_0) := (blk_cell BK113.out 0).trans rfl
      have hcz7_1 : w4.cell? ⟨gb113, 1, none⟩ = some (.int .i64 a0_1) := (blk_cell BK113.out 1).trans rfl
      have hcz7_2 : w4.cell? ⟨gb113, 2, none⟩ = some (.int .i64 a0_2) := (blk_cell BK113.out 2).trans rfl
      have hcz7_3 : w4.cell? ⟨gb113, 3, none⟩ = some (.int .i64 a0_3) := (blk_cell BK113.out 3).trans rfl
      have hcz7_4 : w4.cell? ⟨gb113, 4, none⟩ = some (.int .i64 a0_4) := (blk_cell BK113.out 4).trans rfl
      have hfz7_0 := blk_frozen BK113.out 0
      have hfz7_1 := blk_frozen BK113.out 1
      have hfz7_2 := blk_frozen BK113.out 2
      have hfz7_3 := blk_frozen BK113.out 3
      have hfz7_4 := blk_frozen BK113.out 4
      go_wp2_with (first | ((with_reducible refine gate_callee (f := 46) rfl ?_); refine goesL_ (some 8) rfl rfl Tryd.func46 (by kernel_rfl) rfl #[.int .i64 a0_4, .int .i64 0, .int .i64 89999] rfl (by (try simp only [List.map_toArray, List.map_cons, List.map_nil]); first | done | rfl | (simp only [List.length_drop, List.length_take]; rfl)) ?_; (with_reducible refine (posix_within.calls a0_4 0 89999 true _ A5.out).mono ?_); rintro e w' ⟨rfl, ⟨nd, rfl⟩⟩; refine ⟨_, rfl, ?_⟩))
      go_meet
      case rel => exact ⟨_, (false), (by first | rfl | (simp; done) | (simp [*]; done)), H', ⟨by first | omega | exact Nat.le_refl _⟩, ⟨by (with_reducible repeat (first | refine blk_drewN ?_ _ | refine blk_drew ?_ | refine blk_alloc ?_ _)); exact BK113.out⟩, ⟨by repeat (first | (with_reducible first | exact HB.out | apply below_alloc | apply pw_below_drewN | apply below_drew1 | refine below_set ?_ GE113.out) | exact HB.out)⟩⟩
    · replace c6 := Bool.eq_false_iff.mpr c6
      subst c6
      have H1 : (if a1 = true then ((posix_within.f a0_4 (-604799) 604799).bind fun t115 => (posix_changes.j0 k (!t115) a0_0 a0_1 a0_2 a0_3 a0_4)) else (posix_changes.j0 k (!false) a0_0 a0_1 a0_2 a0_3 a0_4)) = some r := by rw [if_neg (show ¬ (false = true) by decide)] at H; exact H
      clear H
      have H := H1
      clear H1
      by_cases c8 : a1 = true
      · subst c8
        have H1 : ((posix_within.f a0_4 (-604799) 604799).bind fun t115 => (posix_changes.j0 k (!t115) a0_0 a0_1 a0_2 a0_3 a0_4)) = some r := by rw [if_pos rfl] at H; exact H
        clear H
        have H := H1
        clear H1
        replace H := Option.bind_eq_some_iff.mp H
        obtain ⟨t115, A90, H⟩ := H
        replace H : (posix_changes.j0 k (!t115) a0_0 a0_1 a0_2 a0_3 a0_4) = some r := H
        have A9 := Aside0.mk A90
        clear A90
        have H' := Aside0.mk H
        clear H
        have hcz10_0 : w4.cell? ⟨gb113, 0, none⟩ = some (.int .i64 a0_0) := (blk_cell BK113.out 0).trans rfl
        have hcz10_1 : w4.cell? ⟨gb113, 1, none⟩ = some (.int .i64 a0_1) := (blk_cell BK113.out 1).trans rfl
        have hcz10_2 : w4.cell? ⟨gb113, 2, none⟩ = some (.int .i64 a0_2) := (blk_cell BK113.out 2).trans rfl
        have hcz10_3 : w4.cell? ⟨gb113, 3, none⟩ = some (.int .i64 a0_3) := (blk_cell BK113.out 3).trans rfl
        have hcz10_4 : w4.cell? ⟨gb113, 4, none⟩ = some (.int .i64 a0_4) := (blk_cell BK113.out 4).trans rfl
        have hfz10_0 := blk_frozen BK113.out 0
        have hfz10_1 := blk_frozen BK113.out 1
        have hfz10_2 := blk_frozen BK113.out 2
        have hfz10_3 := blk_frozen BK113.out 3
        have hfz10_4 := blk_frozen BK113.out 4
        go_wp2_with (first | ((with_reducible refine gate_callee (f := 46) rfl ?_); refine goesL_ (some 8) rfl rfl Tryd.func46 (by kernel_rfl) rfl #[.int .i64 a0_4, .int .i64 0, .int .i64 89999] rfl (by (try simp only [List.map_toArray, List.map_cons, List.map_nil]); first | done | rfl | (simp only [List.length_drop, List.length_take]; rfl)) ?_; (with_reducible refine (posix_within.calls a0_4 0 89999 false _ A5.out).mono ?_); rintro e w' ⟨rfl, ⟨nd, rfl⟩⟩; refine ⟨_, rfl, ?_⟩) | (go_at_call 46; (with_reducible refine (posix_within.calls a0_4 (-604799) 604799 t115 _ A9.out).mono ?_); rintro e w' ⟨rfl, ⟨nd, rfl⟩⟩))
        go_meet
        case rel => exact ⟨_, (!t115), (by first | rfl | (simp; done) | (simp [*]; done)), H', ⟨by first | omega | exact Nat.le_refl _⟩, ⟨by (with_reducible repeat (first | refine blk_drewN ?_ _ | refine blk_drew ?_ | refine blk_alloc ?_ _)); exact BK113.out⟩, ⟨by repeat (first | (with_reducible first | exact HB.out | apply below_alloc | apply pw_below_drewN | apply below_drew1 | refine below_set ?_ GE113.out) | exact HB.out)⟩⟩
      · replace c8 := Bool.eq_false_iff.mpr c8
        subst c8
        have H1 : (posix_changes.j0 k (!false) a0_0 a0_1 a0_2 a0_3 a0_4) = some r := by rw [if_neg (show ¬ (false = true) by decide)] at H; exact H
        clear H
        have H := H1
        clear H1
        have H' := Aside0.mk H
        clear H
        have hcz11_0 : w4.cell? ⟨gb113, 0, none⟩ = some (.int .i64 a0_0) := (blk_cell BK113.out 0).trans rfl
        have hcz11_1 : w4.cell? ⟨gb113, 1, none⟩ = some (.int .i64 a0_1) := (blk_cell BK113.out 1).trans rfl
        have hcz11_2 : w4.cell? ⟨gb113, 2, none⟩ = some (.int .i64 a0_2) := (blk_cell BK113.out 2).trans rfl
        have hcz11_3 : w4.cell? ⟨gb113, 3, none⟩ = some (.int .i64 a0_3) := (blk_cell BK113.out 3).trans rfl
        have hcz11_4 : w4.cell? ⟨gb113, 4, none⟩ = some (.int .i64 a0_4) := (blk_cell BK113.out 4).trans rfl
        have hfz11_0 := blk_frozen BK113.out 0
        have hfz11_1 := blk_frozen BK113.out 1
        have hfz11_2 := blk_frozen BK113.out 2
        have hfz11_3 := blk_frozen BK113.out 3
        have hfz11_4 := blk_frozen BK113.out 4
        go_wp2_with (first | ((with_reducible refine gate_callee (f := 46) rfl ?_); refine goesL_ (some 8) rfl rfl Tryd.func46 (by kernel_rfl) rfl #[.int .i64 a0_4, .int .i64 0, .int .i64 89999] rfl (by (try simp only [List.map_toArray, List.map_cons, List.map_nil]); first | done | rfl | (simp only [List.length_drop, List.length_take]; rfl)) ?_; (with_reducible refine (posix_within.calls a0_4 0 89999 false _ A5.out).mono ?_); rintro e w' ⟨rfl, ⟨nd, rfl⟩⟩; refine ⟨_, rfl, ?_⟩))
        go_meet
        case rel => exact ⟨_, (!false), (by first | rfl | (simp; done) | (simp [*]; done)), H', ⟨by first | omega | exact Nat.le_refl _⟩, ⟨by (with_reducible repeat (first | refine blk_drewN ?_ _ | refine blk_drew ?_ | refine blk_alloc ?_ _)); exact BK113.out⟩, ⟨by repeat (first | (with_reducible first | exact HB.out | apply below_alloc | apply pw_below_drewN | apply below_drew1 | refine below_set ?_ GE113.out) | exact HB.out)⟩⟩
  case rest =>
    clear HC3
    try clear p2
    try clear c4
    try clear c6
    try clear c8
    try clear hcz10_0
    try clear hcz10_1
    try clear hcz10_2
    try clear hcz10_3
    try clear hcz10_4
    try clear hcz11_0
    try clear hcz11_1
    try clear hcz11_2
    try clear hcz11_3
    try clear hcz11_4
    try clear hcz7_0
    try clear hcz7_1
    try clear hcz7_2
    try clear hcz7_3
    try clear hcz7_4
    try clear hfz10_0
    try clear hfz10_1
    try clear hfz10_2
    try clear hfz10_3
    try clear hfz10_4
    try clear hfz11_0
    try clear hfz11_1
    try clear hfz11_2
    try clear hfz11_3
    try clear hfz11_4
    try clear hfz7_0
    try clear hfz7_1
    try clear hfz7_2
    try clear hfz7_3
    try clear hfz7_4
    obtain ⟨kq, x18_2, rfl, HA, HJ2, BK113, HB⟩ := hcut
    cases kq with
    | zero => exact absurd HA.out (by simp [posix_changes.j0])
    | succ kj2 =>
      have H := HA.out
      clear HA
      simp only [posix_changes.j0] at H
      by_cases c12 : x18_2 = true
      · subst c12
        have H1 : (some false) = some r := by rw [if_pos rfl] at H; exact H
        clear H
        have H := H1
        clear H1
        obtain rfl := Option.some.inj H
        go_wp2
        go_ret
        exact ⟨by first | rfl | (simp [errW_none, errW_some] <;> rfl) | (simp [*, errW_none, errW_some] <;> rfl), by repeat (first | (with_reducible first | exact HB.out | apply below_alloc | apply pw_below_drewN | apply below_drew1 | refine below_set ?_ GE113.out) | exact HB.out)⟩
      · replace c12 := Bool.eq_false_iff.mpr c12
        subst c12
        have H1 : (if a0_2 = 0 then (posix_changes.j1 kj2 (a0_3 == 0) a0_0 a0_1 a0_2 a0_3 a0_4) else (posix_changes.j1 kj2 false a0_0 a0_1 a0_2 a0_3 a0_4)) = some r := by rw [if_neg (show ¬ (false = true) by decide)] at H; exact H
        clear H
        have H := H1
        clear H1
        have HC13 := Aside0.mk H
        clear H
        go_upto_region 3 with (fail)
        go_cut [5] (fun v5 wc => ∃ (kq : Nat) (x5_12 : Bool), v5 = .bool x5_12 ∧ Aside0 (posix_changes.j1 kq x5_12 a0_0 a0_1 a0_2 a0_3 a0_4 = some r) ∧ Aside0 (kq ≤ kj2) ∧ Aside0 (wc.heap[gb113]? = some (.cells #[.int .i64 a0_0, .int .i64 a0_1, .int .i64 a0_2, .int .i64 a0_3, .int .i64 a0_4] 25 (0, 0))) ∧ Aside0 (Below w.heap.size w wc))
        case first =>
          have H := HC13.out
          clear HC13
          by_cases c14 : a0_2 = 0
          · rw [if_pos c14] at H
            have c14b0 : (a0_2 == 0) = true := beq_iff_eq.mpr c14
            have c14b1 : (a0_2 != 0) = false := bne_eq_false_iff_eq.mpr c14
            clear c14
            (first | rw [c14b0] | (simp only [i64_w, i32_w]; rw [c14b0]) | skip)
            have H' := Aside0.mk H
            clear H
            have hcz15_0 : wc.cell? ⟨gb113, 0, none⟩ = some (.int .i64 a0_0) := (blk_cell BK113.out 0).trans rfl
            have hcz15_1 : wc.cell? ⟨gb113, 1, none⟩ = some (.int .i64 a0_1) := (blk_cell BK113.out 1).trans rfl
            have hcz15_2 : wc.cell? ⟨gb113, 2, none⟩ = some (.int .i64 a0_2) := (blk_cell BK113.out 2).trans rfl
            have hcz15_3 : wc.cell? ⟨gb113, 3, none⟩ = some (.int .i64 a0_3) := (blk_cell BK113.out 3).trans rfl
            have hcz15_4 : wc.cell? ⟨gb113, 4, none⟩ = some (.int .i64 a0_4) := (blk_cell BK113.out 4).trans rfl
            have hfz15_0 := blk_frozen BK113.out 0
            have hfz15_1 := blk_frozen BK113.out 1
            have hfz15_2 := blk_frozen BK113.out 2
            have hfz15_3 := blk_frozen BK113.out 3
            have hfz15_4 := blk_frozen BK113.out 4
            go_wp2
            go_meet
            case rel => exact ⟨_, ((a0_3 == 0)), (by first | rfl | (simp; done) | (simp [*]; done)), H', ⟨by have := HJ2.out; first | omega | exact Nat.le_refl _⟩, ⟨by (with_reducible repeat (first | refine blk_drewN ?_ _ | refine blk_drew ?_ | refine blk_alloc ?_ _)); exact BK113.out⟩, ⟨by repeat (first | (with_reducible first | exact HB.out | apply below_alloc | apply pw_below_drewN | apply below_drew1 | refine below_set ?_ GE113.out) | exact HB.out)⟩⟩
          · rw [if_neg c14] at H
            have c14b0 : (a0_2 == 0) = false := beq_eq_false_iff_ne.mpr c14
            have c14b1 : (a0_2 != 0) = true := bne_iff_ne.mpr c14
            (first | rw [c14b0] | (simp only [i64_w, i32_w]; rw [c14b0]) | skip)
            have H' := Aside0.mk H
            clear H
            have hcz16_0 : wc.cell? ⟨gb113, 0, none⟩ = some (.int .i64 a0_0) := (blk_cell BK113.out 0).trans rfl
            have hcz16_1 : wc.cell? ⟨gb113, 1, none⟩ = some (.int .i64 a0_1) := (blk_cell BK113.out 1).trans rfl
            have hcz16_2 : wc.cell? ⟨gb113, 2, none⟩ = some (.int .i64 a0_2) := (blk_cell BK113.out 2).trans rfl
            have hcz16_3 : wc.cell? ⟨gb113, 3, none⟩ = some (.int .i64 a0_3) := (blk_cell BK113.out 3).trans rfl
            have hcz16_4 : wc.cell? ⟨gb113, 4, none⟩ = some (.int .i64 a0_4) := (blk_cell BK113.out 4).trans rfl
            have hfz16_0 := blk_frozen BK113.out 0
            have hfz16_1 := blk_frozen BK113.out 1
            have hfz16_2 := blk_frozen BK113.out 2
            have hfz16_3 := blk_frozen BK113.out 3
            have hfz16_4 := blk_frozen BK113.out 4
            go_wp2
            go_meet
            case rel => exact ⟨_, (false), (by first | rfl | (simp; done) | (simp [*]; done)), H', ⟨by have := HJ2.out; first | omega | exact Nat.le_refl _⟩, ⟨by (with_reducible repeat (first | refine blk_drewN ?_ _ | refine blk_drew ?_ | refine blk_alloc ?_ _)); exact BK113.out⟩, ⟨by repeat (first | (with_reducible first | exact HB.out | apply below_alloc | apply pw_below_drewN | apply below_drew1 | refine below_set ?_ GE113.out) | exact HB.out)⟩⟩
        case rest =>
          clear HC13
          try clear c1
          try clear p2
          try clear c4
          try clear c6
          try clear c8
          try clear c12
          try clear c14
          try clear c14b0
          try clear c14b1
          try clear hcz10_0
          try clear hcz10_1
          try clear hcz10_2
          try clear hcz10_3
          try clear hcz10_4
          try clear hcz11_0
          try clear hcz11_1
          try clear hcz11_2
          try clear hcz11_3
          try clear hcz11_4
          try clear hcz15_0
          try clear hcz15_1
          try clear hcz15_2
          try clear hcz15_3
          try clear hcz15_4
          try clear hcz16_0
          try clear hcz16_1
          try clear hcz16_2
          try clear hcz16_3
          try clear hcz16_4
          try clear hcz7_0
          try clear hcz7_1
          try clear hcz7_2
          try clear hcz7_3
          try clear hcz7_4
          try clear hfz10_0
          try clear hfz10_1
          try clear hfz10_2
          try clear hfz10_3
          try clear hfz10_4
          try clear hfz11_0
          try clear hfz11_1
          try clear hfz11_2
          try clear hfz11_3
          try clear hfz11_4
          try clear hfz15_0
          try clear hfz15_1
          try clear hfz15_2
          try clear hfz15_3
          try clear hfz15_4
          try clear hfz16_0
          try clear hfz16_1
          try clear hfz16_2
          try clear hfz16_3
          try clear hfz16_4
          try clear hfz7_0
          try clear hfz7_1
          try clear hfz7_2
          try clear hfz7_3
          try clear hfz7_4
          try clear p2
          obtain ⟨kq, x5_12, rfl, HA, HJ12, BK113, HB⟩ := hcut
          cases kq with
          | zero => exact absurd HA.out (by simp [posix_changes.j1])
          | succ kj12 =>
            have H := HA.out
            clear HA
            simp only [posix_changes.j1] at H
            by_cases c17 : a0_0 = 1
            · rw [if_pos c17] at H
              have c17b0 : (a0_0 == 1) = true := beq_iff_eq.mpr c17
              have c17b1 : (a0_0 != 1) = false := bne_eq_false_iff_eq.mpr c17
              clear c17
              by_cases c18 : x5_12 = true
              · subst c18
                have H1 : ((posix_within.f a0_1 1 365).bind fun t116 => (some t116)) = some r := by rw [if_pos rfl] at H; exact H
                clear H
                have H := H1
                clear H1
                replace H := Option.bind_eq_some_iff.mp H
                obtain ⟨t116, A190, H⟩ := H
                replace H : (some t116) = some r := H
                have A19 := Aside0.mk A190
                clear A190
                obtain rfl := Option.some.inj H
                have hcz20_0 : wc.cell? ⟨gb113, 0, none⟩ = some (.int .i64 a0_0) := (blk_cell BK113.out 0).trans rfl
                have hcz20_1 : wc.cell? ⟨gb113, 1, none⟩ = some (.int .i64 a0_1) := (blk_cell BK113.out 1).trans rfl
                have hcz20_2 : wc.cell? ⟨gb113, 2, none⟩ = some (.int .i64 a0_2) := (blk_cell BK113.out 2).trans rfl
                have hcz20_3 : wc.cell? ⟨gb113, 3, none⟩ = some (.int .i64 a0_3) := (blk_cell BK113.out 3).trans rfl
                have hcz20_4 : wc.cell? ⟨gb113, 4, none⟩ = some (.int .i64 a0_4) := (blk_cell BK113.out 4).trans rfl
                have hfz20_0 := blk_frozen BK113.out 0
                have hfz20_1 := blk_frozen BK113.out 1
                have hfz20_2 := blk_frozen BK113.out 2
                have hfz20_3 := blk_frozen BK113.out 3
                have hfz20_4 := blk_frozen BK113.out 4
                go_wp2_with (first | (go_at_call 46; (with_reducible refine (posix_within.calls a0_1 1 365 t116 _ A19.out).mono ?_); rintro e w' ⟨rfl, ⟨nd, rfl⟩⟩))
                go_ret
                exact ⟨by first | rfl | (simp [errW_none, errW_some] <;> rfl) | (simp [*, errW_none, errW_some] <;> rfl), by repeat (first | (with_reducible first | exact HB.out | apply below_alloc | apply pw_below_drewN | apply below_drew1 | refine below_set ?_ GE113.out) | exact HB.out)⟩
              · replace c18 := Bool.eq_false_iff.mpr c18
                subst c18
                have H1 : (some false) = some r := by rw [if_neg (show ¬ (false = true) by decide)] at H; exact H
                clear H
                have H := H1
                clear H1
                obtain rfl := Option.some.inj H
                have hcz21_0 : wc.cell? ⟨gb113, 0, none⟩ = some (.int .i64 a0_0) := (blk_cell BK113.out 0).trans rfl
                have hcz21_1 : wc.cell? ⟨gb113, 1, none⟩ = some (.int .i64 a0_1) := (blk_cell BK113.out 1).trans rfl
                have hcz21_2 : wc.cell? ⟨gb113, 2, none⟩ = some (.int .i64 a0_2) := (blk_cell BK113.out 2).trans rfl
                have hcz21_3 : wc.cell? ⟨gb113, 3, none⟩ = some (.int .i64 a0_3) := (blk_cell BK113.out 3).trans rfl
                have hcz21_4 : wc.cell? ⟨gb113, 4, none⟩ = some (.int .i64 a0_4) := (blk_cell BK113.out 4).trans rfl
                have hfz21_0 := blk_frozen BK113.out 0
                have hfz21_1 := blk_frozen BK113.out 1
                have hfz21_2 := blk_frozen BK113.out 2
                have hfz21_3 := blk_frozen BK113.out 3
                have hfz21_4 := blk_frozen BK113.out 4
                go_wp2
                go_ret
                exact ⟨by first | rfl | (simp [errW_none, errW_some] <;> rfl) | (simp [*, errW_none, errW_some] <;> rfl), by repeat (first | (with_reducible first | exact HB.out | apply below_alloc | apply pw_below_drewN | apply below_drew1 | refine below_set ?_ GE113.out) | exact HB.out)⟩
            · rw [if_neg c17] at H
              have c17b0 : (a0_0 == 1) = false := beq_eq_false_iff_ne.mpr c17
              have c17b1 : (a0_0 != 1) = true := bne_iff_ne.mpr c17
              by_cases c22 : a0_0 = 2
              · rw [if_pos c22] at H
                have c22b0 : (a0_0 == 2) = true := beq_iff_eq.mpr c22
                have c22b1 : (a0_0 != 2) = false := bne_eq_false_iff_eq.mpr c22
                clear c22
                by_cases c23 : x5_12 = true
                · subst c23
                  have H1 : ((posix_within.f a0_1 0 365).bind fun t117 => (some t117)) = some r := by rw [if_pos rfl] at H; exact H
                  clear H
                  have H := H1
                  clear H1
                  replace H := Option.bind_eq_some_iff.mp H
                  obtain ⟨t117, A240, H⟩ := H
                  replace H : (some t117) = some r := H
                  have A24 := Aside0.mk A240
                  clear A240
                  obtain rfl := Option.some.inj H
                  have hcz25_0 : wc.cell? ⟨gb113, 0, none⟩ = some (.int .i64 a0_0) := (blk_cell BK113.out 0).trans rfl
                  have hcz25_1 : wc.cell? ⟨gb113, 1, none⟩ = some (.int .i64 a0_1) := (blk_cell BK113.out 1).trans rfl
                  have hcz25_2 : wc.cell? ⟨gb113, 2, none⟩ = some (.int .i64 a0_2) := (blk_cell BK113.out 2).trans rfl
                  have hcz25_3 : wc.cell? ⟨gb113, 3, none⟩ = some (.int .i64 a0_3) := (blk_cell BK113.out 3).trans rfl
                  have hcz25_4 : wc.cell? ⟨gb113, 4, none⟩ = some (.int .i64 a0_4) := (blk_cell BK113.out 4).trans rfl
                  have hfz25_0 := blk_frozen BK113.out 0
                  have hfz25_1 := blk_frozen BK113.out 1
                  have hfz25_2 := blk_frozen BK113.out 2
                  have hfz25_3 := blk_frozen BK113.out 3
                  have hfz25_4 := blk_frozen BK113.out 4
                  go_wp2_with (first | (go_at_call 46; (with_reducible refine (posix_within.calls a0_1 0 365 t117 _ A24.out).mono ?_); rintro e w' ⟨rfl, ⟨nd, rfl⟩⟩))
                  go_ret
                  exact ⟨by first | rfl | (simp [errW_none, errW_some] <;> rfl) | (simp [*, errW_none, errW_some] <;> rfl), by repeat (first | (with_reducible first | exact HB.out | apply below_alloc | apply pw_below_drewN | apply below_drew1 | refine below_set ?_ GE113.out) | exact HB.out)⟩
                · replace c23 := Bool.eq_false_iff.mpr c23
                  subst c23
                  have H1 : (some false) = some r := by rw [if_neg (show ¬ (false = true) by decide)] at H; exact H
                  clear H
                  have H := H1
                  clear H1
                  obtain rfl := Option.some.inj H
                  have hcz26_0 : wc.cell? ⟨gb113, 0, none⟩ = some (.int .i64 a0_0) := (blk_cell BK113.out 0).trans rfl
                  have hcz26_1 : wc.cell? ⟨gb113, 1, none⟩ = some (.int .i64 a0_1) := (blk_cell BK113.out 1).trans rfl
                  have hcz26_2 : wc.cell? ⟨gb113, 2, none⟩ = some (.int .i64 a0_2) := (blk_cell BK113.out 2).trans rfl
                  have hcz26_3 : wc.cell? ⟨gb113, 3, none⟩ = some (.int .i64 a0_3) := (blk_cell BK113.out 3).trans rfl
                  have hcz26_4 : wc.cell? ⟨gb113, 4, none⟩ = some (.int .i64 a0_4) := (blk_cell BK113.out 4).trans rfl
                  have hfz26_0 := blk_frozen BK113.out 0
                  have hfz26_1 := blk_frozen BK113.out 1
                  have hfz26_2 := blk_frozen BK113.out 2
                  have hfz26_3 := blk_frozen BK113.out 3
                  have hfz26_4 := blk_frozen BK113.out 4
                  go_wp2
                  go_ret
                  exact ⟨by first | rfl | (simp [errW_none, errW_some] <;> rfl) | (simp [*, errW_none, errW_some] <;> rfl), by repeat (first | (with_reducible first | exact HB.out | apply below_alloc | apply pw_below_drewN | apply below_drew1 | refine below_set ?_ GE113.out) | exact HB.out)⟩
              · rw [if_neg c22] at H
                have c22b0 : (a0_0 == 2) = false := beq_eq_false_iff_ne.mpr c22
                have c22b1 : (a0_0 != 2) = true := bne_iff_ne.mpr c22
                by_cases c27 : a0_0 = 3
                · rw [if_pos c27] at H
                  have c27b0 : (a0_0 == 3) = true := beq_iff_eq.mpr c27
                  have c27b1 : (a0_0 != 3) = false := bne_eq_false_iff_eq.mpr c27
                  clear c27
                  replace H := Option.bind_eq_some_iff.mp H
                  obtain ⟨t118, A280, H⟩ := H
                  replace H : (if t118 = true then ((posix_within.f a0_2 1 5).bind fun t119 => (if t119 = true then ((posix_within.f a0_3 0 6).bind fun t120 => (some t120)) else (some false))) else (some false)) = some r := H
                  have A28 := Aside0.mk A280
                  clear A280
                  by_cases c29 : t118 = true
                  · subst c29
                    have H1 : ((posix_within.f a0_2 1 5).bind fun t119 => (if t119 = true then ((posix_within.f a0_3 0 6).bind fun t120 => (some t120)) else (some false))) = some r := by rw [if_pos rfl] at H; exact H
                    clear H
                    have H := H1
                    clear H1
                    replace H := Option.bind_eq_some_iff.mp H
                    obtain ⟨t119, A300, H⟩ := H
                    replace H : (if t119 = true then ((posix_within.f a0_3 0 6).bind fun t120 => (some t120)) else (some false)) = some r := H
                    have A30 := Aside0.mk A300
                    clear A300
                    by_cases c31 : t119 = true
                    · subst c31
                      have H1 : ((posix_within.f a0_3 0 6).bind fun t120 => (some t120)) = some r := by rw [if_pos rfl] at H; exact H
                      clear H
                      have H := H1
                      clear H1
                      replace H := Option.bind_eq_some_iff.mp H
                      obtain ⟨t120, A320, H⟩ := H
                      replace H : (some t120) = some r := H
                      have A32 := Aside0.mk A320
                      clear A320
                      obtain rfl := Option.some.inj H
                      have hcz33_0 : wc.cell? ⟨gb113, 0, none⟩ = some (.int .i64 a0_0) := (blk_cell BK113.out 0).trans rfl
                      have hcz33_1 : wc.cell? ⟨gb113, 1, none⟩ = some (.int .i64 a0_1) := (blk_cell BK113.out 1).trans rfl
                      have hcz33_2 : wc.cell? ⟨gb113, 2, none⟩ = some (.int .i64 a0_2) := (blk_cell BK113.out 2).trans rfl
                      have hcz33_3 : wc.cell? ⟨gb113, 3, none⟩ = some (.int .i64 a0_3) := (blk_cell BK113.out 3).trans rfl
                      have hcz33_4 : wc.cell? ⟨gb113, 4, none⟩ = some (.int .i64 a0_4) := (blk_cell BK113.out 4).trans rfl
                      have hfz33_0 := blk_frozen BK113.out 0
                      have hfz33_1 := blk_frozen BK113.out 1
                      have hfz33_2 := blk_frozen BK113.out 2
                      have hfz33_3 := blk_frozen BK113.out 3
                      have hfz33_4 := blk_frozen BK113.out 4
                      go_wp2_with (first | ((with_reducible refine gate_callee (f := 46) rfl ?_); refine goesL_ (some 49) rfl rfl Tryd.func46 (by kernel_rfl) rfl #[.int .i64 a0_1, .int .i64 1, .int .i64 12] rfl (by (try simp only [List.map_toArray, List.map_cons, List.map_nil]); first | done | rfl | (simp only [List.length_drop, List.length_take]; rfl)) ?_; (with_reducible refine (posix_within.calls a0_1 1 12 true _ A28.out).mono ?_); rintro e w' ⟨rfl, ⟨nd, rfl⟩⟩; refine ⟨_, rfl, ?_⟩) | (go_at_call 46; (with_reducible refine (posix_within.calls a0_2 1 5 true _ A30.out).mono ?_); rintro e w' ⟨rfl, ⟨nd, rfl⟩⟩) | (go_at_call 46; (with_reducible refine (posix_within.calls a0_3 0 6 t120 _ A32.out).mono ?_); rintro e w' ⟨rfl, ⟨nd, rfl⟩⟩))
                      go_ret
                      exact ⟨by first | rfl | (simp [errW_none, errW_some] <;> rfl) | (simp [*, errW_none, errW_some] <;> rfl), by repeat (first | (with_reducible first | exact HB.out | apply below_alloc | apply pw_below_drewN | apply below_drew1 | refine below_set ?_ GE113.out) | exact HB.out)⟩
                    · replace c31 := Bool.eq_false_iff.mpr c31
                      subst c31
                      have H1 : (some false) = some r := by rw [if_neg (show ¬ (false = true) by decide)] at H; exact H
                      clear H
                      have H := H1
                      clear H1
                      obtain rfl := Option.some.inj H
                      have hcz34_0 : wc.cell? ⟨gb113, 0, none⟩ = some (.int .i64 a0_0) := (blk_cell BK113.out 0).trans rfl
                      have hcz34_1 : wc.cell? ⟨gb113, 1, none⟩ = some (.int .i64 a0_1) := (blk_cell BK113.out 1).trans rfl
                      have hcz34_2 : wc.cell? ⟨gb113, 2, none⟩ = some (.int .i64 a0_2) := (blk_cell BK113.out 2).trans rfl
                      have hcz34_3 : wc.cell? ⟨gb113, 3, none⟩ = some (.int .i64 a0_3) := (blk_cell BK113.out 3).trans rfl
                      have hcz34_4 : wc.cell? ⟨gb113, 4, none⟩ = some (.int .i64 a0_4) := (blk_cell BK113.out 4).trans rfl
                      have hfz34_0 := blk_frozen BK113.out 0
                      have hfz34_1 := blk_frozen BK113.out 1
                      have hfz34_2 := blk_frozen BK113.out 2
                      have hfz34_3 := blk_frozen BK113.out 3
                      have hfz34_4 := blk_frozen BK113.out 4
                      go_wp2_with (first | ((with_reducible refine gate_callee (f := 46) rfl ?_); refine goesL_ (some 49) rfl rfl Tryd.func46 (by kernel_rfl) rfl #[.int .i64 a0_1, .int .i64 1, .int .i64 12] rfl (by (try simp only [List.map_toArray, List.map_cons, List.map_nil]); first | done | rfl | (simp only [List.length_drop, List.length_take]; rfl)) ?_; (with_reducible refine (posix_within.calls a0_1 1 12 true _ A28.out).mono ?_); rintro e w' ⟨rfl, ⟨nd, rfl⟩⟩; refine ⟨_, rfl, ?_⟩) | (go_at_call 46; (with_reducible refine (posix_within.calls a0_2 1 5 false _ A30.out).mono ?_); rintro e w' ⟨rfl, ⟨nd, rfl⟩⟩))
                      go_ret
                      exact ⟨by first | rfl | (simp [errW_none, errW_some] <;> rfl) | (simp [*, errW_none, errW_some] <;> rfl), by repeat (first | (with_reducible first | exact HB.out | apply below_alloc | apply pw_below_drewN | apply below_drew1 | refine below_set ?_ GE113.out) | exact HB.out)⟩
                  · replace c29 := Bool.eq_false_iff.mpr c29
                    subst c29
                    have H1 : (some false) = some r := by rw [if_neg (show ¬ (false = true) by decide)] at H; exact H
                    clear H
                    have H := H1
                    clear H1
                    obtain rfl := Option.some.inj H
                    have hcz35_0 : wc.cell? ⟨gb113, 0, none⟩ = some (.int .i64 a0_0) := (blk_cell BK113.out 0).trans rfl
                    have hcz35_1 : wc.cell? ⟨gb113, 1, none⟩ = some (.int .i64 a0_1) := (blk_cell BK113.out 1).trans rfl
                    have hcz35_2 : wc.cell? ⟨gb113, 2, none⟩ = some (.int .i64 a0_2) := (blk_cell BK113.out 2).trans rfl
                    have hcz35_3 : wc.cell? ⟨gb113, 3, none⟩ = some (.int .i64 a0_3) := (blk_cell BK113.out 3).trans rfl
                    have hcz35_4 : wc.cell? ⟨gb113, 4, none⟩ = some (.int .i64 a0_4) := (blk_cell BK113.out 4).trans rfl
                    have hfz35_0 := blk_frozen BK113.out 0
                    have hfz35_1 := blk_frozen BK113.out 1
                    have hfz35_2 := blk_frozen BK113.out 2
                    have hfz35_3 := blk_frozen BK113.out 3
                    have hfz35_4 := blk_frozen BK113.out 4
                    go_wp2_with (first | ((with_reducible refine gate_callee (f := 46) rfl ?_); refine goesL_ (some 49) rfl rfl Tryd.func46 (by kernel_rfl) rfl #[.int .i64 a0_1, .int .i64 1, .int .i64 12] rfl (by (try simp only [List.map_toArray, List.map_cons, List.map_nil]); first | done | rfl | (simp only [List.length_drop, List.length_take]; rfl)) ?_; (with_reducible refine (posix_within.calls a0_1 1 12 false _ A28.out).mono ?_); rintro e w' ⟨rfl, ⟨nd, rfl⟩⟩; refine ⟨_, rfl, ?_⟩))
                    go_ret
                    exact ⟨by first | rfl | (simp [errW_none, errW_some] <;> rfl) | (simp [*, errW_none, errW_some] <;> rfl), by repeat (first | (with_reducible first | exact HB.out | apply below_alloc | apply pw_below_drewN | apply below_drew1 | refine below_set ?_ GE113.out) | exact HB.out)⟩
                · rw [if_neg c27] at H
                  have c27b0 : (a0_0 == 3) = false := beq_eq_false_iff_ne.mpr c27
                  have c27b1 : (a0_0 != 3) = true := bne_iff_ne.mpr c27
                  obtain rfl := Option.some.inj H
                  have hcz36_0 : wc.cell? ⟨gb113, 0, none⟩ = some (.int .i64 a0_0) := (blk_cell BK113.out 0).trans rfl
                  have hcz36_1 : wc.cell? ⟨gb113, 1, none⟩ = some (.int .i64 a0_1) := (blk_cell BK113.out 1).trans rfl
                  have hcz36_2 : wc.cell? ⟨gb113, 2, none⟩ = some (.int .i64 a0_2) := (blk_cell BK113.out 2).trans rfl
                  have hcz36_3 : wc.cell? ⟨gb113, 3, none⟩ = some (.int .i64 a0_3) := (blk_cell BK113.out 3).trans rfl
                  have hcz36_4 : wc.cell? ⟨gb113, 4, none⟩ = some (.int .i64 a0_4) := (blk_cell BK113.out 4).trans rfl
                  have hfz36_0 := blk_frozen BK113.out 0
                  have hfz36_1 := blk_frozen BK113.out 1
                  have hfz36_2 := blk_frozen BK113.out 2
                  have hfz36_3 := blk_frozen BK113.out 3
                  have hfz36_4 := blk_frozen BK113.out 4
                  go_wp2
                  go_ret
                  exact ⟨by first | rfl | (simp [errW_none, errW_some] <;> rfl) | (simp [*, errW_none, errW_some] <;> rfl), by repeat (first | (with_reducible first | exact HB.out | apply below_alloc | apply pw_below_drewN | apply below_drew1 | refine below_set ?_ GE113.out) | exact HB.out)⟩

end Go.Proofs.YtgbehcahdgamoaaDoor.Fn

namespace Go.Proofs.YtgbehcahdgamoaaDoor.Fn
open Go.RowKit Go.Proofs.YtgbehcahdgamoaaDoorW.PrintWords Go.Proofs.YtgbehcahdgamoaaDoorW.PrintLast Go.Proofs.YtgbehcahdgamoaaDoorW.PrintMore
attribute [local go_sem] max2_int min2_int max_two min_two max_three min_three max_four min_four   -- for this text's walks alone
set_option linter.unusedVariables false
set_option linter.unusedSimpArgs false

attribute [local go_sem high] eqA27
/-! ### posix_Right: function 26 -/
def posix_Right.j0 : Nat → Bool → Bool → Int → Bool → ByteArray → Int → Bool → ByteArray → Bool → Int → Int → Int → Int → Int → Int → Int → Int → Int → Int → Option (Bool)
  | 0, _, _, _, _, _, _, _, _, _, _, _, _, _, _, _, _, _, _, _ => none
  | k + 1, x1, x21, x122000, x122001, x122002, x122003, x122004, x122005, x122006, x122007, x122008, x122009, x122010, x122011, x122012, x122013, x122014, x122015, x122016 => if x21 = true then (some false) else (if x122006 = true then (if x122004 = true then ((posix_named.f x122005).bind fun t124 => (if t124 = true then ((posix_within.f x122003 (-89999) 89999).bind fun t125 => (if t125 = true then ((posix_changes.f k x122007 x122008 x122009 x122010 x122011 x1).bind fun t126 => (if t126 = true then ((posix_changes.f k x122012 x122013 x122014 x122015 x122016 x1).bind fun t127 => (some t127)) else (some false))) else (some false))) else (some false))) else (some false)) else (some ((x122003 == 0 && (!x122004 && (x122005.toList.isEmpty))) && (!x122006 && ((x122007 == 0 && (x122008 == 0 && (x122009 == 0 && (x122010 == 0 && (x122011 == 0))))) && ((x122012 == 0 && (x122013 == 0 && (x122014 == 0 && (x122015 == 0 && (x122016 == 0)))))))))))
def posix_Right.f (k : Nat) (a0_0 : Int) (a0_1 : Bool) (a0_2 : ByteArray) (a0_3 : Int) (a0_4 : Bool) (a0_5 : ByteArray) (a0_6 : Bool) (a0_7 : Int) (a0_8 : Int) (a0_9 : Int) (a0_10 : Int) (a0_11 : Int) (a0_12 : Int) (a0_13 : Int) (a0_14 : Int) (a0_15 : Int) (a0_16 : Int) (a1 : Bool) : Option (Bool) := if a0_1 = true then (posix_Right.j0 k a1 true a0_0 a0_1 a0_2 a0_3 a0_4 a0_5 a0_6 a0_7 a0_8 a0_9 a0_10 a0_11 a0_12 a0_13 a0_14 a0_15 a0_16) else ((posix_named.f a0_2).bind fun t122 => (if t122 = true then ((posix_within.f a0_0 (-89999) 89999).bind fun t123 => (posix_Right.j0 k a1 (!t123) a0_0 a0_1 a0_2 a0_3 a0_4 a0_5 a0_6 a0_7 a0_8 a0_9 a0_10 a0_11 a0_12 a0_13 a0_14 a0_15 a0_16)) else (posix_Right.j0 k a1 true a0_0 a0_1 a0_2 a0_3 a0_4 a0_5 a0_6 a0_7 a0_8 a0_9 a0_10 a0_11 a0_12 a0_13 a0_14 a0_15 a0_16)))
theorem posix_Right.mono_l : ∀ k, (∀ y0 y1 y2 y3 y4 y5 y6 y7 y8 y9 y10 y11 y12 y13 y14 y15 y16 y17 y18, LeO (posix_Right.j0 k y0 y1 y2 y3 y4 y5 y6 y7 y8 y9 y10 y11 y12 y13 y14 y15 y16 y17 y18) (posix_Right.j0 (k + 1) y0 y1 y2 y3 y4 y5 y6 y7 y8 y9 y10 y11 y12 y13 y14 y15 y16 y17 y18))
  | 0 => fun _ _ _ _ _ _ _ _ _ _ _ _ _ _ _ _ _ _ _ r h => by simp [posix_Right.j0] at h
  | k + 1 => by
    have ih0 := posix_Right.mono_l k
    · intro y0 y1 y2 y3 y4 y5 y6 y7 y8 y9 y10 y11 y12 y13 y14 y15 y16 y17 y18
      unfold posix_Right.j0
      repeat' first
      | (with_reducible exact ih0 _ _ _ _ _ _ _ _ _ _ _ _ _ _ _ _ _ _ _)
      | (with_reducible exact posix_changes.mono _ _ _ _ _ _ _)
      | (with_reducible exact LeO.refl _)
      | (with_reducible exact LeO.none _)
      | (with_reducible refine LeO.ite ?_ ?_)
      | (with_reducible refine LeO.bind ?_ (fun _ => ?_))
      | exact ih0 _ _ _ _ _ _ _ _ _ _ _ _ _ _ _ _ _ _ _
      | exact posix_changes.mono _ _ _ _ _ _ _
      | exact LeO.none _
      | refine LeO.ite ?_ ?_
      | refine LeO.bind ?_ (fun _ => ?_)
theorem posix_Right.mono : ∀ a0 a1 a2 a3 a4 a5 a6 a7 a8 a9 a10 a11 a12 a13 a14 a15 a16 a17 k, LeO (posix_Right.f k a0 a1 a2 a3 a4 a5 a6 a7 a8 a9 a10 a11 a12 a13 a14 a15 a16 a17) (posix_Right.f (k + 1) a0 a1 a2 a3 a4 a5 a6 a7 a8 a9 a10 a11 a12 a13 a14 a15 a16 a17) := by
  intro a0 a1 a2 a3 a4 a5 a6 a7 a8 a9 a10 a11 a12 a13 a14 a15 a16 a17 k
  have ih0 := posix_Right.mono_l k
  unfold posix_Right.f
  repeat' first
      | (with_reducible exact ih0 _ _ _ _ _ _ _ _ _ _ _ _ _ _ _ _ _ _ _)
      | (with_reducible exact posix_changes.mono _ _ _ _ _ _ _)
      | (with_reducible exact LeO.refl _)
      | (with_reducible exact LeO.none _)
      | (with_reducible refine LeO.ite ?_ ?_)
      | (with_reducible refine LeO.bind ?_ (fun _ => ?_))
      | exact ih0 _ _ _ _ _ _ _ _ _ _ _ _ _ _ _ _ _ _ _
      | exact posix_changes.mono _ _ _ _ _ _ _
      | exact LeO.none _
      | refine LeO.ite ?_ ?_
      | refine LeO.bind ?_ (fun _ => ?_)
set_option maxHeartbeats 8000000 in
set_option maxRecDepth 100000 in
theorem posix_Right.calls (k : Nat) (a0_0 : Int) (a0_1 : Bool) (a0_2 : ByteArray) (a0_3 : Int) (a0_4 : Bool) (a0_5 : ByteArray) (a0_6 : Bool) (a0_7 : Int) (a0_8 : Int) (a0_9 : Int) (a0_10 : Int) (a0_11 : Int) (a0_12 : Int) (a0_13 : Int) (a0_14 : Int) (a0_15 : Int) (a0_16 : Int) (a1 : Bool) (r : Bool) (w : World) (h : posix_Right.f k a0_0 a0_1 a0_2 a0_3 a0_4 a0_5 a0_6 a0_7 a0_8 a0_9 a0_10 a0_11 a0_12 a0_13 a0_14 a0_15 a0_16 a1 = some r) :
    Calls Tryd.prog 26 #[.agg #[.int .i64 a0_0, .bool a0_1, .string a0_2, .int .i64 a0_3, .bool a0_4, .string a0_5, .bool a0_6, .int .i64 a0_7, .int .i64 a0_8, .int .i64 a0_9, .int .i64 a0_10, .int .i64 a0_11, .int .i64 a0_12, .int .i64 a0_13, .int .i64 a0_14, .int .i64 a0_15, .int .i64 a0_16], .bool a1] w fun e w' => e = .returned (.bool r) ∧ Below w.heap.size w w' := by
  have hu27 := Tryd.underlying27
  have hu23 := Tryd.underlying23
  have hu25 := Tryd.underlying25
  have HB := Aside0.mk (Below.refl w.heap.size w)
  have H : (if a0_1 = true then (posix_Right.j0 k a1 true a0_0 a0_1 a0_2 a0_3 a0_4 a0_5 a0_6 a0_7 a0_8 a0_9 a0_10 a0_11 a0_12 a0_13 a0_14 a0_15 a0_16) else ((posix_named.f a0_2).bind fun t122 => (if t122 = true then ((posix_within.f a0_0 (-89999) 89999).bind fun t123 => (posix_Right.j0 k a1 (!t123) a0_0 a0_1 a0_2 a0_3 a0_4 a0_5 a0_6 a0_7 a0_8 a0_9 a0_10 a0_11 a0_12 a0_13 a0_14 a0_15 a0_16)) else (posix_Right.j0 k a1 true a0_0 a0_1 a0_2 a0_3 a0_4 a0_5 a0_6 a0_7 a0_8 a0_9 a0_10 a0_11 a0_12 a0_13 a0_14 a0_15 a0_16)))) = some r := h
  clear h
  have HC3 := Aside0.mk H
  clear H
  go_enter Tryd.func26, Tryd.ntmps26
  go_upto_region 1 with (first | ((with_reducible refine gate_dst (N := 2) rfl ?_); refine box_event ?hg (N := 2) ?hd (cs := #[.int .i64 a0_0, .bool a0_1, .string a0_2, .int .i64 a0_3, .bool a0_4, .string a0_5, .bool a0_6, .int .i64 a0_7, .int .i64 a0_8, .int .i64 a0_9, .int .i64 a0_10, .int .i64 a0_11, .int .i64 a0_12, .int .i64 a0_13, .int .i64 a0_14, .int .i64 a0_15, .int .i64 a0_16]) (t := 27) ?hr ?_; (case hd => rfl); (case hg => rfl); (case hr => first | (go_simp; done) | (go_simp; rfl)); intro gb121 hg w4 hbox hb; have n0_ := Aside0.mk (below_step (by repeat (first | (with_reducible first | exact HB.out | apply below_alloc | apply pw_below_drewN | apply below_drew1) | exact HB.out)) hb); have n1_ := Aside0.mk (hbox); have n2_ := Aside0.mk ((by rw [hg]; exact (below_size (by repeat (first | (with_reducible first | exact HB.out | apply below_alloc | apply pw_below_drewN | apply below_drew1) | exact HB.out))) : w.heap.size ≤ gb121)); have n3_ := Aside0.mk ((by rw [hg]; exact (below_size (by repeat (first | (with_reducible first | exact HB.out | apply below_alloc | apply pw_below_drewN | apply below_drew1) | exact HB.out))) : w.heap.size ≤ gb121)); clear HB; have HB := n0_; have BK121 := n1_; have GW121 := n2_; have GE121 := n3_; clear n0_ n1_ n2_ n3_; clear hb hbox hg))
  (try simp only [Act.put, List.setIfInBounds_toArray, List.set_cons_zero, List.set_cons_succ])
  go_cut [21] (fun v21 wc => ∃ (kq : Nat) (x21_2 : Bool), v21 = .bool x21_2 ∧ Aside0 (posix_Right.j0 kq a1 x21_2 a0_0 a0_1 a0_2 a0_3 a0_4 a0_5 a0_6 a0_7 a0_8 a0_9 a0_10 a0_11 a0_12 a0_13 a0_14 a0_15 a0_16 = some r) ∧ Aside0 (kq ≤ k) ∧ Aside0 (wc.heap[gb121]? = some (.cells #[.int .i64 a0_0, .bool a0_1, .string a0_2, .int .i64 a0_3, .bool a0_4, .string a0_5, .bool a0_6, .int .i64 a0_7, .int .i64 a0_8, .int .i64 a0_9, .int .i64 a0_10, .int .i64 a0_11, .int .i64 a0_12, .int .i64 a0_13, .int .i64 a0_14, .int .i64 a0_15, .int .i64 a0_16] 27 (0, 0))) ∧ Aside0 (Below w.heap.size w wc))
  case first =>
    have H := HC3.out
    clear HC3
    by_cases c5 : a0_1 = true
    · subst c5
      have H1 : (posix_Right.j0 k a1 true a0_0 true a0_2 a0_3 a0_4 a0_5 a0_6 a0_7 a0_8 a0_9 a0_10 a0_11 a0_12 a0_13 a0_14 a0_15 a0_16) = some r := by rw [if_pos rfl] at H; exact H
      clear H
      have H := H1
      clear H1
      have H' := Aside0.mk H
      clear H
      have hcz6_0 : w4.cell? ⟨gb121, 0, none⟩ = some (.int .i64 a0_0) := (blk_cell BK121.out 0).trans rfl
      have hcz6_1 : w4.cell? ⟨gb121, 1, none⟩ = some (.bool true) := (blk_cell BK121.out 1).trans rfl
      have hcz6_2 : w4.cell? ⟨gb121, 2, none⟩ = some (.string a0_2) := (blk_cell BK121.out 2).trans rfl
      have hcz6_3 : w4.cell? ⟨gb121, 3, none⟩ = some (.int .i64 a0_3) := (blk_cell BK121.out 3).trans rfl
      have hcz6_4 : w4.cell? ⟨gb121, 4, none⟩ = some (.bool a0_4) := (blk_cell BK121.out 4).trans rfl
      have hcz6_5 : w4.cell? ⟨gb121, 5, none⟩ = some (.string a0_5) := (blk_cell BK121.out 5).trans rfl
      have hcz6_6 : w4.cell? ⟨gb121, 6, none⟩ = some (.bool a0_6) := (blk_cell BK121.out 6).trans rfl
      have hcz6_7 : w4.cell? ⟨gb121, 7, none⟩ = some (.int .i64 a0_7) := (blk_cell BK121.out 7).trans rfl
      have hcz6_8 : w4.cell? ⟨gb121, 8, none⟩ = some (.int .i64 a0_8) := (blk_cell BK121.out 8).trans rfl
      have hcz6_9 : w4.cell? ⟨gb121, 9, none⟩ = some (.int .i64 a0_9) := (blk_cell BK121.out 9).trans rfl
      have hcz6_10 : w4.cell? ⟨gb121, 10, none⟩ = some (.int .i64 a0_10) := (blk_cell BK121.out 10).trans rfl
      have hcz6_11 : w4.cell? ⟨gb121, 11, none⟩ = some (.int .i64 a0_11) := (blk_cell BK121.out 11).trans rfl
      have hcz6_12 : w4.cell? ⟨gb121, 12, none⟩ = some (.int .i64 a0_12) := (blk_cell BK121.out 12).trans rfl
      have hcz6_13 : w4.cell? ⟨gb121, 13, none⟩ = some (.int .i64 a0_13) := (blk_cell BK121.out 13).trans rfl
      have hcz6_14 : w4.cell? ⟨gb121, 14, none⟩ = some (.int .i64 a0_14) := (blk_cell BK121.out 14).trans rfl
      have hcz6_15 : w4.cell? ⟨gb121, 15, none⟩ = some (.int .i64 a0_15) := (blk_cell BK121.out 15).trans rfl
      have hcz6_16 : w4.cell? ⟨gb121, 16, none⟩ = some (.int .i64 a0_16) := (blk_cell BK121.out 16).trans rfl
      have hfz6_0 := blk_frozen BK121.out 0
      have hfz6_1 := blk_frozen BK121.out 1
      have hfz6_2 := blk_frozen BK121.out 2
      have hfz6_3 := blk_frozen BK121.out 3
      have hfz6_4 := blk_frozen BK121.out 4
      have hfz6_5 := blk_frozen BK121.out 5
      have hfz6_6 := blk_frozen BK121.out 6
      have hfz6_7 := blk_frozen BK121.out 7
      have hfz6_8 := blk_frozen BK121.out 8
      have hfz6_9 := blk_frozen BK121.out 9
      have hfz6_10 := blk_frozen BK121.out 10
      have hfz6_11 := blk_frozen BK121.out 11
      have hfz6_12 := blk_frozen BK121.out 12
      have hfz6_13 := blk_frozen BK121.out 13
      have hfz6_14 := blk_frozen BK121.out 14
      have hfz6_15 := blk_frozen BK121.out 15
      have hfz6_16 := blk_frozen BK121.out 16
      go_wp2
      go_meet
      case rel => exact ⟨_, (true), (by first | rfl | (simp; done) | (simp [*]; done)), H', ⟨by first | omega | exact Nat.le_refl _⟩, ⟨by (with_reducible repeat (first | refine blk_drewN ?_ _ | refine blk_drew ?_ | refine blk_alloc ?_ _)); exact BK121.out⟩, ⟨by repeat (first | (with_reducible first | exact HB.out | apply below_alloc | apply pw_below_drewN | apply below_drew1 | refine below_set ?_ GE121.out) | exact HB.out)⟩⟩
    · replace c5 := Bool.eq_false_iff.mpr c5
      subst c5
      have H1 : ((posix_named.f a0_2).bind fun t122 => (if t122 = true then ((posix_within.f a0_0 (-89999) 89999).bind fun t123 => (posix_Right.j0 k a1 (!t123) a0_0 false a0_2 a0_3 a0_4 a0_5 a0_6 a0_7 a0_8 a0_9 a0_10 a0_11 a0_12 a0_13 a0_14 a0_15 a0_16)) else (posix_Right.j0 k a1 true a0_0 false a0_2 a0_3 a0_4 a0_5 a0_6 a0_7 a0_8 a0_9 a0_10 a0_11 a0_12 a0_13 a0_14 a0_15 a0_16))) = some r := by rw [if_neg (show ¬ (false = true) by decide)] at H; exact H
      clear H
      have H := H1
      clear H1
      replace H := Option.bind_eq_some_iff.mp H
      obtain ⟨t122, A70, H⟩ := H
      replace H : (if t122 = true then ((posix_within.f a0_0 (-89999) 89999).bind fun t123 => (posix_Right.j0 k a1 (!t123) a0_0 false a0_2 a0_3 a0_4 a0_5 a0_6 a0_7 a0_8 a0_9 a0_10 a0_11 a0_12 a0_13 a0_14 a0_15 a0_16)) else (posix_Right.j0 k a1 true a0_0 false a0_2 a0_3 a0_4 a0_5 a0_6 a0_7 a0_8 a0_9 a0_10 a0_11 a0_12 a0_13 a0_14 a0_15 a0_16)) = some r := H
      have A7 := Aside0.mk A70
      clear A70
      by_cases c8 : t122 = true
      · subst c8
        have H1 : ((posix_within.f a0_0 (-89999) 89999).bind fun t123 => (posix_Right.j0 k a1 (!t123) a0_0 false a0_2 a0_3 a0_4 a0_5 a0_6 a0_7 a0_8 a0_9 a0_10 a0_11 a0_12 a0_13 a0_14 a0_15 a0_16)) = some r := by rw [if_pos rfl] at H; exact H
        clear H
        have H := H1
        clear H1
        replace H := Option.bind_eq_some_iff.mp H
        obtain ⟨t123, A90, H⟩ := H
        replace H : (posix_Right.j0 k a1 (!t123) a0_0 false a0_2 a0_3 a0_4 a0_5 a0_6 a0_7 a0_8 a0_9 a0_10 a0_11 a0_12 a0_13 a0_14 a0_15 a0_16) = some r := H
        have A9 := Aside0.mk A90
        clear A90
        have H' := Aside0.mk H
        clear H
        have hcz10_0 : w4.cell? ⟨gb121, 0, none⟩ = some (.int .i64 a0_0) := (blk_cell BK121.out 0).trans rfl
        have hcz10_1 : w4.cell? ⟨gb121, 1, none⟩ = some (.bool false) := (blk_cell BK121.out 1).trans rfl
        have hcz10_2 : w4.cell? ⟨gb121, 2, none⟩ = some (.string a0_2) := (blk_cell BK121.out 2).trans rfl
        have hcz10_3 : w4.cell? ⟨gb121, 3, none⟩ = some (.int .i64 a0_3) := (blk_cell BK121.out 3).trans rfl
        have hcz10_4 : w4.cell? ⟨gb121, 4, none⟩ = some (.bool a0_4) := (blk_cell BK121.out 4).trans rfl
        have hcz10_5 : w4.cell? ⟨gb121, 5, none⟩ = some (.string a0_5) := (blk_cell BK121.out 5).trans rfl
        have hcz10_6 : w4.cell? ⟨gb121, 6, none⟩ = some (.bool a0_6) := (blk_cell BK121.out 6).trans rfl
        have hcz10_7 : w4.cell? ⟨gb121, 7, none⟩ = some (.int .i64 a0_7) := (blk_cell BK121.out 7).trans rfl
        have hcz10_8 : w4.cell? ⟨gb121, 8, none⟩ = some (.int .i64 a0_8) := (blk_cell BK121.out 8).trans rfl
        have hcz10_9 : w4.cell? ⟨gb121, 9, none⟩ = some (.int .i64 a0_9) := (blk_cell BK121.out 9).trans rfl
        have hcz10_10 : w4.cell? ⟨gb121, 10, none⟩ = some (.int .i64 a0_10) := (blk_cell BK121.out 10).trans rfl
        have hcz10_11 : w4.cell? ⟨gb121, 11, none⟩ = some (.int .i64 a0_11) := (blk_cell BK121.out 11).trans rfl
        have hcz10_12 : w4.cell? ⟨gb121, 12, none⟩ = some (.int .i64 a0_12) := (blk_cell BK121.out 12).trans rfl
        have hcz10_13 : w4.cell? ⟨gb121, 13, none⟩ = some (.int .i64 a0_13) := (blk_cell BK121.out 13).trans rfl
        have hcz10_14 : w4.cell? ⟨gb121, 14, none⟩ = some (.int .i64 a0_14) := (blk_cell BK121.out 14).trans rfl
        have hcz10_15 : w4.cell? ⟨gb121, 15, none⟩ = some (.int .i64 a0_15) := (blk_cell BK121.out 15).trans rfl
        have hcz10_16 : w4.cell? ⟨gb121, 16, none⟩ = some (.int .i64 a0_16) := (blk_cell BK121.out 16).trans rfl
        have hfz10_0 := blk_frozen BK121.out 0
        have hfz10_1 := blk_frozen BK121.out 1
        have hfz10_2 := blk_frozen BK121.out 2
        have hfz10_3 := blk_frozen BK121.out 3
        have hfz10_4 := blk_frozen BK121.out 4
        have hfz10_5 := blk_frozen BK121.out 5
        have hfz10_6 := blk_frozen BK121.out 6
        have hfz10_7 := blk_frozen BK121.out 7
        have hfz10_8 := blk_frozen BK121.out 8
        have hfz10_9 := blk_frozen BK121.out 9
        have hfz10_10 := blk_frozen BK121.out 10
        have hfz10_11 := blk_frozen BK121.out 11
        have hfz10_12 := blk_frozen BK121.out 12
        have hfz10_13 := blk_frozen BK121.out 13
        have hfz10_14 := blk_frozen BK121.out 14
        have hfz10_15 := blk_frozen BK121.out 15
        have hfz10_16 := blk_frozen BK121.out 16
        go_wp2_with (first | (go_at_call 45; (with_reducible refine (posix_named.calls a0_2 true _ A7.out).mono ?_); rintro e w11 ⟨rfl, hb⟩; have n0_ := Aside0.mk (blk_below (g := gb121) (o := .cells #[.int .i64 a0_0, .bool false, .string a0_2, .int .i64 a0_3, .bool a0_4, .string a0_5, .bool a0_6, .int .i64 a0_7, .int .i64 a0_8, .int .i64 a0_9, .int .i64 a0_10, .int .i64 a0_11, .int .i64 a0_12, .int .i64 a0_13, .int .i64 a0_14, .int .i64 a0_15, .int .i64 a0_16] 27 (0, 0)) (by (with_reducible repeat (first | refine blk_drewN ?_ _ | refine blk_drew ?_ | refine blk_alloc ?_ _)); exact BK121.out) hb); have n1_ := Aside0.mk (below_step (by repeat (first | (with_reducible first | exact HB.out | apply below_alloc | apply pw_below_drewN | apply below_drew1 | refine below_set ?_ GE121.out) | exact HB.out)) hb); clear BK121; clear HB; have BK121 := n0_; have HB := n1_; clear n0_ n1_; (try clear hb); (try clear hb2); (try clear hk); (try clear hi); have hcz12_0 : w11.cell? ⟨gb121, 0, none⟩ = some (.int .i64 a0_0) := (blk_cell BK121.out 0).trans rfl; have hcz12_1 : w11.cell? ⟨gb121, 1, none⟩ = some (.bool false) := (blk_cell BK121.out 1).trans rfl; have hcz12_2 : w11.cell? ⟨gb121, 2, none⟩ = some (.string a0_2) := (blk_cell BK121.out 2).trans rfl; have hcz12_3 : w11.cell? ⟨gb121, 3, none⟩ = some (.int .i64 a0_3) := (blk_cell BK121.out 3).trans rfl; have hcz12_4 : w11.cell? ⟨gb121, 4, none⟩ = some (.bool a0_4) := (blk_cell BK121.out 4).trans rfl; have hcz12_5 : w11.cell? ⟨gb121, 5, none⟩ = some (.string a0_5) := (blk_cell BK121.out 5).trans rfl; have hcz12_6 : w11.cell? ⟨gb121, 6, none⟩ = some (.bool a0_6) := (blk_cell BK121.out 6).trans rfl; have hcz12_7 : w11.cell? ⟨gb121, 7, none⟩ = some (.int .i64 a0_7) := (blk_cell BK121.out 7).trans rfl; have hcz12_8 : w11.cell? ⟨gb121, 8, none⟩ = some (.int .i64 a0_8) := (blk_cell BK121.out 8).trans rfl; have hcz12_9 : w11.cell? ⟨gb121, 9, none⟩ = some (.int .i64 a0_9) := (blk_cell BK121.out 9).trans rfl; have hcz12_10 : w11.cell? ⟨gb121, 10, none⟩ = some (.int .i64 a0_10) := (blk_cell BK121.out 10).trans rfl; have hcz12_11 : w11.cell? ⟨gb121, 11, none⟩ = some (.int .i64 a0_11) := (blk_cell BK121.out 11).trans rfl; have hcz12_12 : w11.cell? ⟨gb121, 12, none⟩ = some (.int .i64 a0_12) := (blk_cell BK121.out 12).trans rfl; have hcz12_13 : w11.cell? ⟨gb121, 13, none⟩ = some (.int .i64 a0_13) := (blk_cell BK121.out 13).trans rfl; have hcz12_14 : w11.cell? ⟨gb121, 14, none⟩ = some (.int .i64 a0_14) := (blk_cell BK121.out 14).trans rfl; have hcz12_15 : w11.cell? ⟨gb121, 15, none⟩ = some (.int .i64 a0_15) := (blk_cell BK121.out 15).trans rfl; have hcz12_16 : w11.cell? ⟨gb121, 16, none⟩ = some (.int .i64 a0_16) := (blk_cell BK121.out 16).trans rfl; have hfz12_0 := blk_frozen BK121.out 0; have hfz12_1 := blk_frozen BK121.out 1; have hfz12_2 := blk_frozen BK121.out 2; have hfz12_3 := blk_frozen BK121.out 3; have hfz12_4 := blk_frozen BK121.out 4; have hfz12_5 := blk_frozen BK121.out 5; have hfz12_6 := blk_frozen BK121.out 6; have hfz12_7 := blk_frozen BK121.out 7; have hfz12_8 := blk_frozen BK121.out 8; have hfz12_9 := blk_frozen BK121.out 9; have hfz12_10 := blk_frozen BK121.out 10; have hfz12_11 := blk_frozen BK121.out 11; have hfz12_12 := blk_frozen BK121.out 12; have hfz12_13 := blk_frozen BK121.out 13; have hfz12_14 := blk_frozen BK121.out 14; have hfz12_15 := blk_frozen BK121.out 15; have hfz12_16 := blk_frozen BK121.out 16) | (go_at_call 46; (with_reducible refine (posix_within.calls a0_0 (-89999) 89999 t123 _ A9.out).mono ?_); rintro e w' ⟨rfl, ⟨nd, rfl⟩⟩))
        go_meet
        case rel => exact ⟨_, (!t123), (by first | rfl | (simp; done) | (simp [*]; done)), H', ⟨by first | omega | exact Nat.le_refl _⟩, ⟨by (with_reducible repeat (first | refine blk_drewN ?_ _ | refine blk_drew ?_ | refine blk_alloc ?_ _)); exact BK121.out⟩, ⟨by repeat (first | (with_reducible first | exact HB.out | apply below_alloc | apply pw_below_drewN | apply below_drew1 | refine below_set ?_ GE121.out) | exact HB.out)⟩⟩
      · replace c8 := Bool.eq_false_iff.mpr c8
        subst c8
        have H1 : (posix_Right.j0 k a1 true a0_0 false a0_2 a0_3 a0_4 a0_5 a0_6 a0_7 a0_8 a0_9 a0_10 a0_11 a0_12 a0_13 a0_14 a0_15 a0_16) = some r := by rw [if_neg (show ¬ (false = true) by decide)] at H; exact H
        clear H
        have H := H1
        clear H1
        have H' := Aside0.mk H
        clear H
        have hcz13_0 : w4.cell? ⟨gb121, 0, none⟩ = some (.int .i64 a0_0) := (blk_cell BK121.out 0).trans rfl
        have hcz13_1 : w4.cell? ⟨gb121, 1, none⟩ = some (.bool false) := (blk_cell BK121.out 1).trans rfl
        have hcz13_2 : w4.cell? ⟨gb121, 2, none⟩ = some (.string a0_2) := (blk_cell BK121.out 2).trans rfl
        have hcz13_3 : w4.cell? ⟨gb121, 3, none⟩ = some (.int .i64 a0_3) := (blk_cell BK121.out 3).trans rfl
        have hcz13_4 : w4.cell? ⟨gb121, 4, none⟩ = some (.bool a0_4) := (blk_cell BK121.out 4).trans rfl
        have hcz13_5 : w4.cell? ⟨gb121, 5, none⟩ = some (.string a0_5) := (blk_cell BK121.out 5).trans rfl
        have hcz13_6 : w4.cell? ⟨gb121, 6, none⟩ = some (.bool a0_6) := (blk_cell BK121.out 6).trans rfl
        have hcz13_7 : w4.cell? ⟨gb121, 7, none⟩ = some (.int .i64 a0_7) := (blk_cell BK121.out 7).trans rfl
        have hcz13_8 : w4.cell? ⟨gb121, 8, none⟩ = some (.int .i64 a0_8) := (blk_cell BK121.out 8).trans rfl
        have hcz13_9 : w4.cell? ⟨gb121, 9, none⟩ = some (.int .i64 a0_9) := (blk_cell BK121.out 9).trans rfl
        have hcz13_10 : w4.cell? ⟨gb121, 10, none⟩ = some (.int .i64 a0_10) := (blk_cell BK121.out 10).trans rfl
        have hcz13_11 : w4.cell? ⟨gb121, 11, none⟩ = some (.int .i64 a0_11) := (blk_cell BK121.out 11).trans rfl
        have hcz13_12 : w4.cell? ⟨gb121, 12, none⟩ = some (.int .i64 a0_12) := (blk_cell BK121.out 12).trans rfl
        have hcz13_13 : w4.cell? ⟨gb121, 13, none⟩ = some (.int .i64 a0_13) := (blk_cell BK121.out 13).trans rfl
        have hcz13_14 : w4.cell? ⟨gb121, 14, none⟩ = some (.int .i64 a0_14) := (blk_cell BK121.out 14).trans rfl
        have hcz13_15 : w4.cell? ⟨gb121, 15, none⟩ = some (.int .i64 a0_15) := (blk_cell BK121.out 15).trans rfl
        have hcz13_16 : w4.cell? ⟨gb121, 16, none⟩ = some (.int .i64 a0_16) := (blk_cell BK121.out 16).trans rfl
        have hfz13_0 := blk_frozen BK121.out 0
        have hfz13_1 := blk_frozen BK121.out 1
        have hfz13_2 := blk_frozen BK121.out 2
        have hfz13_3 := blk_frozen BK121.out 3
        have hfz13_4 := blk_frozen BK121.out 4
        have hfz13_5 := blk_frozen BK121.out 5
        have hfz13_6 := blk_frozen BK121.out 6
        have hfz13_7 := blk_frozen BK121.out 7
        have hfz13_8 := blk_frozen BK121.out 8
        have hfz13_9 := blk_frozen BK121.out 9
        have hfz13_10 := blk_frozen BK121.out 10
        have hfz13_11 := blk_frozen BK121.out 11
        have hfz13_12 := blk_frozen BK121.out 12
        have hfz13_13 := blk_frozen BK121.out 13
        have hfz13_14 := blk_frozen BK121.out 14
        have hfz13_15 := blk_frozen BK121.out 15
        have hfz13_16 := blk_frozen BK121.out 16
        go_wp2_with (first | (go_at_call 45; (with_reducible refine (posix_named.calls a0_2 false _ A7.out).mono ?_); rintro e w14 ⟨rfl, hb⟩; have n0_ := Aside0.mk (blk_below (g := gb121) (o := .cells #[.int .i64 a0_0, .bool false, .string a0_2, .int .i64 a0_3, .bool a0_4, .string a0_5, .bool a0_6, .int .i64 a0_7, .int .i64 a0_8, .int .i64 a0_9, .int .i64 a0_10, .int .i64 a0_11, .int .i64 a0_12, .int .i64 a0_13, .int .i64 a0_14, .int .i64 a0_15, .int .i64 a0_16] 27 (0, 0)) (by (with_reducible repeat (first | refine blk_drewN ?_ _ | refine blk_drew ?_ | refine blk_alloc ?_ _)); exact BK121.out) hb); have n1_ := Aside0.mk (below_step (by repeat (first | (with_reducible first | exact HB.out | apply below_alloc | apply pw_below_drewN | apply below_drew1 | refine below_set ?_ GE121.out) | exact HB.out)) hb); clear BK121; clear HB; have BK121 := n0_; have HB := n1_; clear n0_ n1_; (try clear hb); (try clear hb2); (try clear hk); (try clear hi)))
        go_meet
        case rel => exact ⟨_, (true), (by first | rfl | (simp; done) | (simp [*]; done)), H', ⟨by first | omega | exact Nat.le_refl _⟩, ⟨by (with_reducible repeat (first | refine blk_drewN ?_ _ | refine blk_drew ?_ | refine blk_alloc ?_ _)); exact BK121.out⟩, ⟨by repeat (first | (with_reducible first | exact HB.out | apply below_alloc | apply pw_below_drewN | apply below_drew1 | refine below_set ?_ GE121.out) | exact HB.out)⟩⟩
  case rest =>
    clear HC3
    try clear c2
    try clear p2
    try clear c5
    try clear c8
    try clear hcz10_0
    try clear hcz10_1
    try clear hcz10_10
    try clear hcz10_11
    try clear hcz10_12
    try clear hcz10_13
    try clear hcz10_14
    try clear hcz10_15
    try clear hcz10_16
    try clear hcz10_2
    try clear hcz10_3
    try clear hcz10_4
    try clear hcz10_5
    try clear hcz10_6
    try clear hcz10_7
    try clear hcz10_8
    try clear hcz10_9
    try clear hcz12_0
    try clear hcz12_1
    try clear hcz12_10
    try clear hcz12_11
    try clear hcz12_12
    try clear hcz12_13
    try clear hcz12_14
    try clear hcz12_15
    try clear hcz12_16
    try clear hcz12_2
    try clear hcz12_3
    try clear hcz12_4
    try clear hcz12_5
    try clear hcz12_6
    try clear hcz12_7
    try clear hcz12_8
    try clear hcz12_9
    try clear hcz13_0
    try clear hcz13_1
    try clear hcz13_10
    try clear hcz13_11
    try clear hcz13_12
    try clear hcz13_13
    try clear hcz13_14
    try clear hcz13_15
    try clear hcz13_16
    try clear hcz13_2
    try clear hcz13_3
    try clear hcz13_4
    try clear hcz13_5
    try clear hcz13_6
    try clear hcz13_7
    try clear hcz13_8
    try clear hcz13_9
    try clear hcz6_0
    try clear hcz6_1
    try clear hcz6_10
    try clear hcz6_11
    try clear hcz6_12
    try clear hcz6_13
    try clear hcz6_14
    try clear hcz6_15
    try clear hcz6_16
    try clear hcz6_2
    try clear hcz6_3
    try clear hcz6_4
    try clear hcz6_5
    try clear hcz6_6
    try clear hcz6_7
    try clear hcz6_8
    try clear hcz6_9
    try clear hfz10_0
    try clear hfz10_1
    try clear hfz10_10
    try clear hfz10_11
    try clear hfz10_12
    try clear hfz10_13
    try clear hfz10_14
    try clear hfz10_15
    try clear hfz10_16
    try clear hfz10_2
    try clear hfz10_3
    try clear hfz10_4
    try clear hfz10_5
    try clear hfz10_6
    try clear hfz10_7
    try clear hfz10_8
    try clear hfz10_9
    try clear hfz12_0
    try clear hfz12_1
    try clear hfz12_10
    try clear hfz12_11
    try clear hfz12_12
    try clear hfz12_13
    try clear hfz12_14
    try clear hfz12_15
    try clear hfz12_16
    try clear hfz12_2
    try clear hfz12_3
    try clear hfz12_4
    try clear hfz12_5
    try clear hfz12_6
    try clear hfz12_7
    try clear hfz12_8
    try clear hfz12_9
    try clear hfz13_0
    try clear hfz13_1
    try clear hfz13_10
    try clear hfz13_11
    try clear hfz13_12
    try clear hfz13_13
    try clear hfz13_14
    try clear hfz13_15
    try clear hfz13_16
    try clear hfz13_2
    try clear hfz13_3
    try clear hfz13_4
    try clear hfz13_5
    try clear hfz13_6
    try clear hfz13_7
    try clear hfz13_8
    try clear hfz13_9
    try clear hfz6_0
    try clear hfz6_1
    try clear hfz6_10
    try clear hfz6_11
    try clear hfz6_12
    try clear hfz6_13
    try clear hfz6_14
    try clear hfz6_15
    try clear hfz6_16
    try clear hfz6_2
    try clear hfz6_3
    try clear hfz6_4
    try clear hfz6_5
    try clear hfz6_6
    try clear hfz6_7
    try clear hfz6_8
    try clear hfz6_9
    obtain ⟨kq, x21_2, rfl, HA, HJ2, BK121, HB⟩ := hcut
    cases kq with
    | zero => exact absurd HA.out (by simp [posix_Right.j0])
    | succ kj2 =>
      have H := HA.out
      clear HA
      simp only [posix_Right.j0] at H
      by_cases c15 : x21_2 = true
      · subst c15
        have H1 : (some false) = some r := by rw [if_pos rfl] at H; exact H
        clear H
        have H := H1
        clear H1
        obtain rfl := Option.some.inj H
        go_wp2
        go_ret
        exact ⟨by first | rfl | (simp [errW_none, errW_some] <;> rfl) | (simp [*, errW_none, errW_some] <;> rfl), by repeat (first | (with_reducible first | exact HB.out | apply below_alloc | apply pw_below_drewN | apply below_drew1 | refine below_set ?_ GE121.out) | exact HB.out)⟩
      · replace c15 := Bool.eq_false_iff.mpr c15
        subst c15
        have H1 : (if a0_6 = true then (if a0_4 = true then ((posix_named.f a0_5).bind fun t124 => (if t124 = true then ((posix_within.f a0_3 (-89999) 89999).bind fun t125 => (if t125 = true then ((posix_changes.f kj2 a0_7 a0_8 a0_9 a0_10 a0_11 a1).bind fun t126 => (if t126 = true then ((posix_changes.f kj2 a0_12 a0_13 a0_14 a0_15 a0_16 a1).bind fun t127 => (some t127)) else (some false))) else (some false))) else (some false))) else (some false)) else (some ((a0_3 == 0 && (!a0_4 && (a0_5.toList.isEmpty))) && (!a0_6 && ((a0_7 == 0 && (a0_8 == 0 && (a0_9 == 0 && (a0_10 == 0 && (a0_11 == 0))))) && ((a0_12 == 0 && (a0_13 == 0 && (a0_14 == 0 && (a0_15 == 0 && (a0_16 == 0))))))))))) = some r := by rw [if_neg (show ¬ (false = true) by decide)] at H; exact H
        clear H
        have H := H1
        clear H1
        by_cases c16 : a0_6 = true
        · subst c16
          have H1 : (if a0_4 = true then ((posix_named.f a0_5).bind fun t124 => (if t124 = true then ((posix_within.f a0_3 (-89999) 89999).bind fun t125 => (if t125 = true then ((posix_changes.f kj2 a0_7 a0_8 a0_9 a0_10 a0_11 a1).bind fun t126 => (if t126 = true then ((posix_changes.f kj2 a0_12 a0_13 a0_14 a0_15 a0_16 a1).bind fun t127 => (some t127)) else (some false))) else (some false))) else (some false))) else (some false)) = some r := by rw [if_pos rfl] at H; exact H
          clear H
          have H := H1
          clear H1
          by_cases c17 : a0_4 = true
          · subst c17
            have H1 : ((posix_named.f a0_5).bind fun t124 => (if t124 = true then ((posix_within.f a0_3 (-89999) 89999).bind fun t125 => (if t125 = true then ((posix_changes.f kj2 a0_7 a0_8 a0_9 a0_10 a0_11 a1).bind fun t126 => (if t126 = true then ((posix_changes.f kj2 a0_12 a0_13 a0_14 a0_15 a0_16 a1).bind fun t127 => (some t127)) else (some false))) else (some false))) else (some false))) = some r := by rw [if_pos rfl] at H; exact H
            clear H
            have H := H1
            clear H1
            replace H := Option.bind_eq_some_iff.mp H
            obtain ⟨t124, A180, H⟩ := H
            replace H : (if t124 = true then ((posix_within.f a0_3 (-89999) 89999).bind fun t125 => (if t125 = true then ((posix_changes.f kj2 a0_7 a0_8 a0_9 a0_10 a0_11 a1).bind fun t126 => (if t126 = true then ((posix_changes.f kj2 a0_12 a0_13 a0_14 a0_15 a0_16 a1).bind fun t127 => (some t127)) else (some false))) else (some false))) else (some false)) = some r := H
            have A18 := Aside0.mk A180
            clear A180
            by_cases c19 : t124 = true
            · subst c19
              have H1 : ((posix_within.f a0_3 (-89999) 89999).bind fun t125 => (if t125 = true then ((posix_changes.f kj2 a0_7 a0_8 a0_9 a0_10 a0_11 a1).bind fun t126 => (if t126 = true then ((posix_changes.f kj2 a0_12 a0_13 a0_14 a0_15 a0_16 a1).bind fun t127 => (some t127)) else (some false))) else (some false))) = some r := by rw [if_pos rfl] at H; exact H
              clear H
              have H := H1
              clear H1
              replace H := Option.bind_eq_some_iff.mp H
              obtain ⟨t125, A200, H⟩ := H
              replace H : (if t125 = true then ((posix_changes.f kj2 a0_7 a0_8 a0_9 a0_10 a0_11 a1).bind fun t126 => (if t126 = true then ((posix_changes.f kj2 a0_12 a0_13 a0_14 a0_15 a0_16 a1).bind fun t127 => (some t127)) else (some false))) else (some false)) = some r := H
              have A20 := Aside0.mk A200
              clear A200
              by_cases c21 : t125 = true
              · subst c21
                have H1 : ((posix_changes.f kj2 a0_7 a0_8 a0_9 a0_10 a0_11 a1).bind fun t126 => (if t126 = true then ((posix_changes.f kj2 a0_12 a0_13 a0_14 a0_15 a0_16 a1).bind fun t127 => (some t127)) else (some false))) = some r := by rw [if_pos rfl] at H; exact H
                clear H
                have H := H1
                clear H1
                replace H := Option.bind_eq_some_iff.mp H
                obtain ⟨t126, A220, H⟩ := H
                replace H : (if t126 = true then ((posix_changes.f kj2 a0_12 a0_13 a0_14 a0_15 a0_16 a1).bind fun t127 => (some t127)) else (some false)) = some r := H
                have A22 := Aside0.mk A220
                clear A220
                by_cases c23 : t126 = true
                · subst c23
                  have H1 : ((posix_changes.f kj2 a0_12 a0_13 a0_14 a0_15 a0_16 a1).bind fun t127 => (some t127)) = some r := by rw [if_pos rfl] at H; exact H
                  clear H
                  have H := H1
                  clear H1
                  replace H := Option.bind_eq_some_iff.mp H
                  obtain ⟨t127, A240, H⟩ := H
                  replace H : (some t127) = some r := H
                  have A24 := Aside0.mk A240
                  clear A240
                  obtain rfl := Option.some.inj H
                  have hcz25_0 : wc.cell? ⟨gb121, 0, none⟩ = some (.int .i64 a0_0) := (blk_cell BK121.out 0).trans rfl
                  have hcz25_1 : wc.cell? ⟨gb121, 1, none⟩ = some (.bool a0_1) := (blk_cell BK121.out 1).trans rfl
                  have hcz25_2 : wc.cell? ⟨gb121, 2, none⟩ = some (.string a0_2) := (blk_cell BK121.out 2).trans rfl
                  have hcz25_3 : wc.cell? ⟨gb121, 3, none⟩ = some (.int .i64 a0_3) := (blk_cell BK121.out 3).trans rfl
                  have hcz25_4 : wc.cell? ⟨gb121, 4, none⟩ = some (.bool true) := (blk_cell BK121.out 4).trans rfl
                  have hcz25_5 : wc.cell? ⟨gb121, 5, none⟩ = some (.string a0_5) := (blk_cell BK121.out 5).trans rfl
                  have hcz25_6 : wc.cell? ⟨gb121, 6, none⟩ = some (.bool true) := (blk_cell BK121.out 6).trans rfl
                  have hcz25_7 : wc.cell? ⟨gb121, 7, none⟩ = some (.int .i64 a0_7) := (blk_cell BK121.out 7).trans rfl
                  have hcz25_8 : wc.cell? ⟨gb121, 8, none⟩ = some (.int .i64 a0_8) := (blk_cell BK121.out 8).trans rfl
                  have hcz25_9 : wc.cell? ⟨gb121, 9, none⟩ = some (.int .i64 a0_9) := (blk_cell BK121.out 9).trans rfl
                  have hcz25_10 : wc.cell? ⟨gb121, 10, none⟩ = some (.int .i64 a0_10) := (blk_cell BK121.out 10).trans rfl
                  have hcz25_11 : wc.cell? ⟨gb121, 11, none⟩ = some (.int .i64 a0_11) := (blk_cell BK121.out 11).trans rfl
                  have hcz25_12 : wc.cell? ⟨gb121, 12, none⟩ = some (.int .i64 a0_12) := (blk_cell BK121.out 12).trans rfl
                  have hcz25_13 : wc.cell? ⟨gb121, 13, none⟩ = some (.int .i64 a0_13) := (blk_cell BK121.out 13).trans rfl
                  have hcz25_14 : wc.cell? ⟨gb121, 14, none⟩ = some (.int .i64 a0_14) := (blk_cell BK121.out 14).trans rfl
                  have hcz25_15 : wc.cell? ⟨gb121, 15, none⟩ = some (.int .i64 a0_15) := (blk_cell BK121.out 15).trans rfl
                  have hcz25_16 : wc.cell? ⟨gb121, 16, none⟩ = some (.int .i64 a0_16) := (blk_cell BK121.out 16).trans rfl
                  have hfz25_0 := blk_frozen BK121.out 0
                  have hfz25_1 := blk_frozen BK121.out 1
                  have hfz25_2 := blk_frozen BK121.out 2
                  have hfz25_3 := blk_frozen BK121.out 3
                  have hfz25_4 := blk_frozen BK121.out 4
                  have hfz25_5 := blk_frozen BK121.out 5
                  have hfz25_6 := blk_frozen BK121.out 6
                  have hfz25_7 := blk_frozen BK121.out 7
                  have hfz25_8 := blk_frozen BK121.out 8
                  have hfz25_9 := blk_frozen BK121.out 9
                  have hfz25_10 := blk_frozen BK121.out 10
                  have hfz25_11 := blk_frozen BK121.out 11
                  have hfz25_12 := blk_frozen BK121.out 12
                  have hfz25_13 := blk_frozen BK121.out 13
                  have hfz25_14 := blk_frozen BK121.out 14
                  have hfz25_15 := blk_frozen BK121.out 15
                  have hfz25_16 := blk_frozen BK121.out 16
                  go_wp2_with (first | (go_at_call 45; (with_reducible refine (posix_named.calls a0_5 true _ A18.out).mono ?_); rintro e w26 ⟨rfl, hb⟩; have n0_ := Aside0.mk (blk_below (g := gb121) (o := .cells #[.int .i64 a0_0, .bool a0_1, .string a0_2, .int .i64 a0_3, .bool true, .string a0_5, .bool true, .int .i64 a0_7, .int .i64 a0_8, .int .i64 a0_9, .int .i64 a0_10, .int .i64 a0_11, .int .i64 a0_12, .int .i64 a0_13, .int .i64 a0_14, .int .i64 a0_15, .int .i64 a0_16] 27 (0, 0)) (by (with_reducible repeat (first | refine blk_drewN ?_ _ | refine blk_drew ?_ | refine blk_alloc ?_ _)); exact BK121.out) hb); have n1_ := Aside0.mk (below_step (by repeat (first | (with_reducible first | exact HB.out | apply below_alloc | apply pw_below_drewN | apply below_drew1 | refine below_set ?_ GE121.out) | exact HB.out)) hb); clear BK121; clear HB; have BK121 := n0_; have HB := n1_; clear n0_ n1_; (try clear hb); (try clear hb2); (try clear hk); (try clear hi); have hcz27_0 : w26.cell? ⟨gb121, 0, none⟩ = some (.int .i64 a0_0) := (blk_cell BK121.out 0).trans rfl; have hcz27_1 : w26.cell? ⟨gb121, 1, none⟩ = some (.bool a0_1) := (blk_cell BK121.out 1).trans rfl; have hcz27_2 : w26.cell? ⟨gb121, 2, none⟩ = some (.string a0_2) := (blk_cell BK121.out 2).trans rfl; have hcz27_3 : w26.cell? ⟨gb121, 3, none⟩ = some (.int .i64 a0_3) := (blk_cell BK121.out 3).trans rfl; have hcz27_4 : w26.cell? ⟨gb121, 4, none⟩ = some (.bool true) := (blk_cell BK121.out 4).trans rfl; have hcz27_5 : w26.cell? ⟨gb121, 5, none⟩ = some (.string a0_5) := (blk_cell BK121.out 5).trans rfl; have hcz27_6 : w26.cell? ⟨gb121, 6, none⟩ = some (.bool true) := (blk_cell BK121.out 6).trans rfl; have hcz27_7 : w26.cell? ⟨gb121, 7, none⟩ = some (.int .i64 a0_7) := (blk_cell BK121.out 7).trans rfl; have hcz27_8 : w26.cell? ⟨gb121, 8, none⟩ = some (.int .i64 a0_8) := (blk_cell BK121.out 8).trans rfl; have hcz27_9 : w26.cell? ⟨gb121, 9, none⟩ = some (.int .i64 a0_9) := (blk_cell BK121.out 9).trans rfl; have hcz27_10 : w26.cell? ⟨gb121, 10, none⟩ = some (.int .i64 a0_10) := (blk_cell BK121.out 10).trans rfl; have hcz27_11 : w26.cell? ⟨gb121, 11, none⟩ = some (.int .i64 a0_11) := (blk_cell BK121.out 11).trans rfl; have hcz27_12 : w26.cell? ⟨gb121, 12, none⟩ = some (.int .i64 a0_12) := (blk_cell BK121.out 12).trans rfl; have hcz27_13 : w26.cell? ⟨gb121, 13, none⟩ = some (.int .i64 a0_13) := (blk_cell BK121.out 13).trans rfl; have hcz27_14 : w26.cell? ⟨gb121, 14, none⟩ = some (.int .i64 a0_14) := (blk_cell BK121.out 14).trans rfl; have hcz27_15 : w26.cell? ⟨gb121, 15, none⟩ = some (.int .i64 a0_15) := (blk_cell BK121.out 15).trans rfl; have hcz27_16 : w26.cell? ⟨gb121, 16, none⟩ = some (.int .i64 a0_16) := (blk_cell BK121.out 16).trans rfl; have hfz27_0 := blk_frozen BK121.out 0; have hfz27_1 := blk_frozen BK121.out 1; have hfz27_2 := blk_frozen BK121.out 2; have hfz27_3 := blk_frozen BK121.out 3; have hfz27_4 := blk_frozen BK121.out 4; have hfz27_5 := blk_frozen BK121.out 5; have hfz27_6 := blk_frozen BK121.out 6; have hfz27_7 := blk_frozen BK121.out 7; have hfz27_8 := blk_frozen BK121.out 8; have hfz27_9 := blk_frozen BK121.out 9; have hfz27_10 := blk_frozen BK121.out 10; have hfz27_11 := blk_frozen BK121.out 11; have hfz27_12 := blk_frozen BK121.out 12; have hfz27_13 := blk_frozen BK121.out 13; have hfz27_14 := blk_frozen BK121.out 14; have hfz27_15 := blk_frozen BK121.out 15; have hfz27_16 := blk_frozen BK121.out 16) | (go_at_call 46; (with_reducible refine (posix_within.calls a0_3 (-89999) 89999 true _ A20.out).mono ?_); rintro e w' ⟨rfl, ⟨nd, rfl⟩⟩) | (go_at_call 47; (with_reducible refine (posix_changes.calls kj2 a0_7 a0_8 a0_9 a0_10 a0_11 a1 true _ A22.out).mono ?_); rintro e w28 ⟨rfl, hb⟩; have n0_ := Aside0.mk (blk_below (g := gb121) (o := .cells #[.int .i64 a0_0, .bool a0_1, .string a0_2, .int .i64 a0_3, .bool true, .string a0_5, .bool true, .int .i64 a0_7, .int .i64 a0_8, .int .i64 a0_9, .int .i64 a0_10, .int .i64 a0_11, .int .i64 a0_12, .int .i64 a0_13, .int .i64 a0_14, .int .i64 a0_15, .int .i64 a0_16] 27 (0, 0)) (by (with_reducible repeat (first | refine blk_drewN ?_ _ | refine blk_drew ?_ | refine blk_alloc ?_ _)); exact BK121.out) hb); have n1_ := Aside0.mk (below_step (by repeat (first | (with_reducible first | exact HB.out | apply below_alloc | apply pw_below_drewN | apply below_drew1 | refine below_set ?_ GE121.out) | exact HB.out)) hb); clear BK121; clear HB; have BK121 := n0_; have HB := n1_; clear n0_ n1_; (try clear hb); (try clear hb2); (try clear hk); (try clear hi); have hcz29_0 : w28.cell? ⟨gb121, 0, none⟩ = some (.int .i64 a0_0) := (blk_cell BK121.out 0).trans rfl; have hcz29_1 : w28.cell? ⟨gb121, 1, none⟩ = some (.bool a0_1) := (blk_cell BK121.out 1).trans rfl; have hcz29_2 : w28.cell? ⟨gb121, 2, none⟩ = some (.string a0_2) := (blk_cell BK121.out 2).trans rfl; have hcz29_3 : w28.cell? ⟨gb121, 3, none⟩ = some (.int .i64 a0_3) := (blk_cell BK121.out 3).trans rfl; have hcz29_4 : w28.cell? ⟨gb121, 4, none⟩ = some (.bool true) := (blk_cell BK121.out 4).trans rfl; have hcz29_5 : w28.cell? ⟨gb121, 5, none⟩ = some (.string a0_5) := (blk_cell BK121.out 5).trans rfl; have hcz29_6 : w28.cell? ⟨gb121, 6, none⟩ = some (.bool true) := (blk_cell BK121.out 6).trans rfl; have hcz29_7 : w28.cell? ⟨gb121, 7, none⟩ = some (.int .i64 a0_7) := (blk_cell BK121.out 7).trans rfl; have hcz29_8 : w28.cell? ⟨gb121, 8, none⟩ = some (.int .i64 a0_8) := (blk_cell BK121.out 8).trans rfl; have hcz29_9 : w28.cell? ⟨gb121, 9, none⟩ = some (.int .i64 a0_9) := (blk_cell BK121.out 9).trans rfl; have hcz29_10 : w28.cell? ⟨gb121, 10, none⟩ = some (.int .i64 a0_10) := (blk_cell BK121.out 10).trans rfl; have hcz29_11 : w28.cell? ⟨gb121, 11, none⟩ = some (.int .i64 a0_11) := (blk_cell BK121.out 11).trans rfl; have hcz29_12 : w28.cell? ⟨gb121, 12, none⟩ = some (.int .i64 a0_12) := (blk_cell BK121.out 12).trans rfl; have hcz29_13 : w28.cell? ⟨gb121, 13, none⟩ = some (.int .i64 a0_13) := (blk_cell BK121.out 13).trans rfl; have hcz29_14 : w28.cell? ⟨gb121, 14, none⟩ = some (.int .i64 a0_14) := (blk_cell BK121.out 14).trans rfl; have hcz29_15 : w28.cell? ⟨gb121, 15, none⟩ = some (.int .i64 a0_15) := (blk_cell BK121.out 15).trans rfl; have hcz29_16 : w28.cell? ⟨gb121, 16, none⟩ = some (.int .i64 a0_16) := (blk_cell BK121.out 16).trans rfl; have hfz29_0 := blk_frozen BK121.out 0; have hfz29_1 := blk_frozen BK121.out 1; have hfz29_2 := blk_frozen BK121.out 2; have hfz29_3 := blk_frozen BK121.out 3; have hfz29_4 := blk_frozen BK121.out 4; have hfz29_5 := blk_frozen BK121.out 5; have hfz29_6 := blk_frozen BK121.out 6; have hfz29_7 := blk_frozen BK121.out 7; have hfz29_8 := blk_frozen BK121.out 8; have hfz29_9 := blk_frozen BK121.out 9; have hfz29_10 := blk_frozen BK121.out 10; have hfz29_11 := blk_frozen BK121.out 11; have hfz29_12 := blk_frozen BK121.out 12; have hfz29_13 := blk_frozen BK121.out 13; have hfz29_14 := blk_frozen BK121.out 14; have hfz29_15 := blk_frozen BK121.out 15; have hfz29_16 := blk_frozen BK121.out 16) | (go_at_call 47; (with_reducible refine (posix_changes.calls kj2 a0_12 a0_13 a0_14 a0_15 a0_16 a1 t127 _ A24.out).mono ?_); rintro e w30 ⟨rfl, hb⟩; have n0_ := Aside0.mk (blk_below (g := gb121) (o := .cells #[.int .i64 a0_0, .bool a0_1, .string a0_2, .int .i64 a0_3, .bool true, .string a0_5, .bool true, .int .i64 a0_7, .int .i64 a0_8, .int .i64 a0_9, .int .i64 a0_10, .int .i64 a0_11, .int .i64 a0_12, .int .i64 a0_13, .int .i64 a0_14, .int .i64 a0_15, .int .i64 a0_16] 27 (0, 0)) (by (with_reducible repeat (first | refine blk_drewN ?_ _ | refine blk_drew ?_ | refine blk_alloc ?_ _)); exact BK121.out) hb); have n1_ := Aside0.mk (below_step (by repeat (first | (with_reducible first | exact HB.out | apply below_alloc | apply pw_below_drewN | apply below_drew1 | refine below_set ?_ GE121.out) | exact HB.out)) hb); clear BK121; clear HB; have BK121 := n0_; have HB := n1_; clear n0_ n1_; (try clear hb); (try clear hb2); (try clear hk); (try clear hi)))
                  go_ret
                  exact ⟨by first | rfl | (simp [errW_none, errW_some] <;> rfl) | (simp [*, errW_none, errW_some] <;> rfl), by repeat (first | (with_reducible first | exact HB.out | apply below_alloc | apply pw_below_drewN | apply below_drew1 | refine below_set ?_ GE121.out) | exact HB.out)⟩
                · replace c23 := Bool.eq_false_iff.mpr c23
                  subst c23
                  have H1 : (some false) = some r := by rw [if_neg (show ¬ (false = true) by decide)] at H; exact H
                  clear H
                  have H := H1
                  clear H1
                  obtain rfl := Option.some.inj H
                  have hcz31_0 : wc.cell? ⟨gb121, 0, none⟩ = some (.int .i64 a0_0) := (blk_cell BK121.out 0).trans rfl
                  have hcz31_1 : wc.cell? ⟨gb121, 1, none⟩ = some (.bool a0_1) := (blk_cell BK121.out 1).trans rfl
                  have hcz31_2 : wc.cell? ⟨gb121, 2, none⟩ = some (.string a0_2) := (blk_cell BK121.out 2).trans rfl
                  have hcz31_3 : wc.cell? ⟨gb121, 3, none⟩ = some (.int .i64 a0_3) := (blk_cell BK121.out 3).trans rfl
                  have hcz31_4 : wc.cell? ⟨gb121, 4, none⟩ = some (.bool true) := (blk_cell BK121.out 4).trans rfl
                  have hcz31_5 : wc.cell? ⟨gb121, 5, none⟩ = some (.string a0_5) := (blk_cell BK121.out 5).trans rfl
                  have hcz31_6 : wc.cell? ⟨gb121, 6, none⟩ = some (.bool true) := (blk_cell BK121.out 6).trans rfl
                  have hcz31_7 : wc.cell? ⟨gb121, 7, none⟩ = some (.int .i64 a0_7) := (blk_cell BK121.out 7).trans rfl
                  have hcz31_8 : wc.cell? ⟨gb121, 8, none⟩ = some (.int .i64 a0_8) := (blk_cell BK121.out 8).trans rfl
                  have hcz31_9 : wc.cell? ⟨gb121, 9, none⟩ = some (.int .i64 a0_9) := (blk_cell BK121.out 9).trans rfl
                  have hcz31_10 : wc.cell? ⟨gb121, 10, none⟩ = some (.int .i64 a0_10) := (blk_cell BK121.out 10).trans rfl
                  have hcz31_11 : wc.cell? ⟨gb121, 11, none⟩ = some (.int .i64 a0_11) := (blk_cell BK121.out 11).trans rfl
                  have hcz31_12 : wc.cell? ⟨gb121, 12, none⟩ = some (.int .i64 a0_12) := (blk_cell BK121.out 12).trans rfl
                  have hcz31_13 : wc.cell? ⟨gb121, 13, none⟩ = some (.int .i64 a0_13) := (blk_cell BK121.out 13).trans rfl
                  have hcz31_14 : wc.cell? ⟨gb121, 14, none⟩ = some (.int .i64 a0_14) := (blk_cell BK121.out 14).trans rfl
                  have hcz31_15 : wc.cell? ⟨gb121, 15, none⟩ = some (.int .i64 a0_15) := (blk_cell BK121.out 15).trans rfl
                  have hcz31_16 : wc.cell? ⟨gb121, 16, none⟩ = some (.int .i64 a0_16) := (blk_cell BK121.out 16).trans rfl
                  have hfz31_0 := blk_frozen BK121.out 0
                  have hfz31_1 := blk_frozen BK121.out 1
                  have hfz31_2 := blk_frozen BK121.out 2
                  have hfz31_3 := blk_frozen BK121.out 3
                  have hfz31_4 := blk_frozen BK121.out 4
                  have hfz31_5 := blk_frozen BK121.out 5
                  have hfz31_6 := blk_frozen BK121.out 6
                  have hfz31_7 := blk_frozen BK121.out 7
                  have hfz31_8 := blk_frozen BK121.out 8
                  have hfz31_9 := blk_frozen BK121.out 9
                  have hfz31_10 := blk_frozen BK121.out 10
                  have hfz31_11 := blk_frozen BK121.out 11
                  have hfz31_12 := blk_frozen BK121.out 12
                  have hfz31_13 := blk_frozen BK121.out 13
                  have hfz31_14 := blk_frozen BK121.out 14
                  have hfz31_15 := blk_frozen BK121.out 15
                  have hfz31_16 := blk_frozen BK121.out 16
                  go_wp2_with (first | (go_at_call 45; (with_reducible refine (posix_named.calls a0_5 true _ A18.out).mono ?_); rintro e w32 ⟨rfl, hb⟩; have n0_ := Aside0.mk (blk_below (g := gb121) (o := .cells #[.int .i64 a0_0, .bool a0_1, .string a0_2, .int .i64 a0_3, .bool true, .string a0_5, .bool true, .int .i64 a0_7, .int .i64 a0_8, .int .i64 a0_9, .int .i64 a0_10, .int .i64 a0_11, .int .i64 a0_12, .int .i64 a0_13, .int .i64 a0_14, .int .i64 a0_15, .int .i64 a0_16] 27 (0, 0)) (by (with_reducible repeat (first | refine blk_drewN ?_ _ | refine blk_drew ?_ | refine blk_alloc ?_ _)); exact BK121.out) hb); have n1_ := Aside0.mk (below_step (by repeat (first | (with_reducible first | exact HB.out | apply below_alloc | apply pw_below_drewN | apply below_drew1 | refine below_set ?_ GE121.out) | exact HB.out)) hb); clear BK121; clear HB; have BK121 := n0_; have HB := n1_; clear n0_ n1_; (try clear hb); (try clear hb2); (try clear hk); (try clear hi); have hcz33_0 : w32.cell? ⟨gb121, 0, none⟩ = some (.int .i64 a0_0) := (blk_cell BK121.out 0).trans rfl; have hcz33_1 : w32.cell? ⟨gb121, 1, none⟩ = some (.bool a0_1) := (blk_cell BK121.out 1).trans rfl; have hcz33_2 : w32.cell? ⟨gb121, 2, none⟩ = some (.string a0_2) := (blk_cell BK121.out 2).trans rfl; have hcz33_3 : w32.cell? ⟨gb121, 3, none⟩ = some (.int .i64 a0_3) := (blk_cell BK121.out 3).trans rfl; have hcz33_4 : w32.cell? ⟨gb121, 4, none⟩ = some (.bool true) := (blk_cell BK121.out 4).trans rfl; have hcz33_5 : w32.cell? ⟨gb121, 5, none⟩ = some (.string a0_5) := (blk_cell BK121.out 5).trans rfl; have hcz33_6 : w32.cell? ⟨gb121, 6, none⟩ = some (.bool true) := (blk_cell BK121.out 6).trans rfl; have hcz33_7 : w32.cell? ⟨gb121, 7, none⟩ = some (.int .i64 a0_7) := (blk_cell BK121.out 7).trans rfl; have hcz33_8 : w32.cell? ⟨gb121, 8, none⟩ = some (.int .i64 a0_8) := (blk_cell BK121.out 8).trans rfl; have hcz33_9 : w32.cell? ⟨gb121, 9, none⟩ = some (.int .i64 a0_9) := (blk_cell BK121.out 9).trans rfl; have hcz33_10 : w32.cell? ⟨gb121, 10, none⟩ = some (.int .i64 a0_10) := (blk_cell BK121.out 10).trans rfl; have hcz33_11 : w32.cell? ⟨gb121, 11, none⟩ = some (.int .i64 a0_11) := (blk_cell BK121.out 11).trans rfl; have hcz33_12 : w32.cell? ⟨gb121, 12, none⟩ = some (.int .i64 a0_12) := (blk_cell BK121.out 12).trans rfl; have hcz33_13 : w32.cell? ⟨gb121, 13, none⟩ = some (.int .i64 a0_13) := (blk_cell BK121.out 13).trans rfl; have hcz33_14 : w32.cell? ⟨gb121, 14, none⟩ = some (.int .i64 a0_14) := (blk_cell BK121.out 14).trans rfl; have hcz33_15 : w32.cell? ⟨gb121, 15, none⟩ = some (.int .i64 a0_15) := (blk_cell BK121.out 15).trans rfl; have hcz33_16 : w32.cell? ⟨gb121, 16, none⟩ = some (.int .i64 a0_16) := (blk_cell BK121.out 16).trans rfl; have hfz33_0 := blk_frozen BK121.out 0; have hfz33_1 := blk_frozen BK121.out 1; have hfz33_2 := blk_frozen BK121.out 2; have hfz33_3 := blk_frozen BK121.out 3; have hfz33_4 := blk_frozen BK121.out 4; have hfz33_5 := blk_frozen BK121.out 5; have hfz33_6 := blk_frozen BK121.out 6; have hfz33_7 := blk_frozen BK121.out 7; have hfz33_8 := blk_frozen BK121.out 8; have hfz33_9 := blk_frozen BK121.out 9; have hfz33_10 := blk_frozen BK121.out 10; have hfz33_11 := blk_frozen BK121.out 11; have hfz33_12 := blk_frozen BK121.out 12; have hfz33_13 := blk_frozen BK121.out 13; have hfz33_14 := blk_frozen BK121.out 14; have hfz33_15 := blk_frozen BK121.out 15; have hfz33_16 := blk_frozen BK121.out 16) | (go_at_call 46; (with_reducible refine (posix_within.calls a0_3 (-89999) 89999 true _ A20.out).mono ?_); rintro e w' ⟨rfl, ⟨nd, rfl⟩⟩) | (go_at_call 47; (with_reducible refine (posix_changes.calls kj2 a0_7 a0_8 a0_9 a0_10 a0_11 a1 false _ A22.out).mono ?_); rintro e w34 ⟨rfl, hb⟩; have n0_ := Aside0.mk (blk_below (g := gb121) (o := .cells #[.int .i64 a0_0, .bool a0_1, .string a0_2, .int .i64 a0_3, .bool true, .string a0_5, .bool true, .int .i64 a0_7, .int .i64 a0_8, .int .i64 a0_9, .int .i64 a0_10, .int .i64 a0_11, .int .i64 a0_12, .int .i64 a0_13, .int .i64 a0_14, .int .i64 a0_15, .int .i64 a0_16] 27 (0, 0)) (by (with_reducible repeat (first | refine blk_drewN ?_ _ | refine blk_drew ?_ | refine blk_alloc ?_ _)); exact BK121.out) hb); have n1_ := Aside0.mk (below_step (by repeat (first | (with_reducible first | exact HB.out | apply below_alloc | apply pw_below_drewN | apply below_drew1 | refine below_set ?_ GE121.out) | exact HB.out)) hb); clear BK121; clear HB; have BK121 := n0_; have HB := n1_; clear n0_ n1_; (try clear hb); (try clear hb2); (try clear hk); (try clear hi)))
                  go_ret
                  exact ⟨by first | rfl | (simp [errW_none, errW_some] <;> rfl) | (simp [*, errW_none, errW_some] <;> rfl), by repeat (first | (with_reducible first | exact HB.out | apply below_alloc | apply pw_below_drewN | apply below_drew1 | refine below_set ?_ GE121.out) | exact HB.out)⟩
              · replace c21 := Bool.eq_false_iff.mpr c21
                subst c21
                have H1 : (some false) = some r := by rw [if_neg (show ¬ (false = true) by decide)] at H; exact H
                clear H
                have H := H1
                clear H1
                obtain rfl := Option.some.inj H
                have hcz35_0 : wc.cell? ⟨gb121, 0, none⟩ = some (.int .i64 a0_0) := (blk_cell BK121.out 0).trans rfl
                have hcz35_1 : wc.cell? ⟨gb121, 1, none⟩ = some (.bool a0_1) := (blk_cell BK121.out 1).trans rfl
                have hcz35_2 : wc.cell? ⟨gb121, 2, none⟩ = some (.string a0_2) := (blk_cell BK121.out 2).trans rfl
                have hcz35_3 : wc.cell? ⟨gb121, 3, none⟩ = some (.int .i64 a0_3) := (blk_cell BK121.out 3).trans rfl
                have hcz35_4 : wc.cell? ⟨gb121, 4, none⟩ = some (.bool true) := (blk_cell BK121.out 4).trans rfl
                have hcz35_5 : wc.cell? ⟨gb121, 5, none⟩ = some (.string a0_5) := (blk_cell BK121.out 5).trans rfl
                have hcz35_6 : wc.cell? ⟨gb121, 6, none⟩ = some (.bool true) := (blk_cell BK121.out 6).trans rfl
                have hcz35_7 : wc.cell? ⟨gb121, 7, none⟩ = some (.int .i64 a0_7) := (blk_cell BK121.out 7).trans rfl
                have hcz35_8 : wc.cell? ⟨gb121, 8, none⟩ = some (.int .i64 a0_8) := (blk_cell BK121.out 8).trans rfl
                have hcz35_9 : wc.cell? ⟨gb121, 9, none⟩ = some (.int .i64 a0_9) := (blk_cell BK121.out 9).trans rfl
                have hcz35_10 : wc.cell? ⟨gb121, 10, none⟩ = some (.int .i64 a0_10) := (blk_cell BK121.out 10).trans rfl
                have hcz35_11 : wc.cell? ⟨gb121, 11, none⟩ = some (.int .i64 a0_11) := (blk_cell BK121.out 11).trans rfl
                have hcz35_12 : wc.cell? ⟨gb121, 12, none⟩ = some (.int .i64 a0_12) := (blk_cell BK121.out 12).trans rfl
                have hcz35_13 : wc.cell? ⟨gb121, 13, none⟩ = some (.int .i64 a0_13) := (blk_cell BK121.out 13).trans rfl
                have hcz35_14 : wc.cell? ⟨gb121, 14, none⟩ = some (.int .i64 a0_14) := (blk_cell BK121.out 14).trans rfl
                have hcz35_15 : wc.cell? ⟨gb121, 15, none⟩ = some (.int .i64 a0_15) := (blk_cell BK121.out 15).trans rfl
                have hcz35_16 : wc.cell? ⟨gb121, 16, none⟩ = some (.int .i64 a0_16) := (blk_cell BK121.out 16).trans rfl
                have hfz35_0 := blk_frozen BK121.out 0
                have hfz35_1 := blk_frozen BK121.out 1
                have hfz35_2 := blk_frozen BK121.out 2
                have hfz35_3 := blk_frozen BK121.out 3
                have hfz35_4 := blk_frozen BK121.out 4
                have hfz35_5 := blk_frozen BK121.out 5
                have hfz35_6 := blk_frozen BK121.out 6
                have hfz35_7 := blk_frozen BK121.out 7
                have hfz35_8 := blk_frozen BK121.out 8
                have hfz35_9 := blk_frozen BK121.out 9
                have hfz35_10 := blk_frozen BK121.out 10
                have hfz35_11 := blk_frozen BK121.out 11
                have hfz35_12 := blk_frozen BK121.out 12
                have hfz35_13 := blk_frozen BK121.out 13
                have hfz35_14 := blk_frozen BK121.out 14
                have hfz35_15 := blk_frozen BK121.out 15
                have hfz35_16 := blk_frozen BK121.out 16
                go_wp2_with (first | (go_at_call 45; (with_reducible refine (posix_named.calls a0_5 true _ A18.out).mono ?_); rintro e w36 ⟨rfl, hb⟩; have n0_ := Aside0.mk (blk_below (g := gb121) (o := .cells #[.int .i64 a0_0, .bool a0_1, .string a0_2, .int .i64 a0_3, .bool true, .string a0_5, .bool true, .int .i64 a0_7, .int .i64 a0_8, .int .i64 a0_9, .int .i64 a0_10, .int .i64 a0_11, .int .i64 a0_12, .int .i64 a0_13, .int .i64 a0_14, .int .i64 a0_15, .int .i64 a0_16] 27 (0, 0)) (by (with_reducible repeat (first | refine blk_drewN ?_ _ | refine blk_drew ?_ | refine blk_alloc ?_ _)); exact BK121.out) hb); have n1_ := Aside0.mk (below_step (by repeat (first | (with_reducible first | exact HB.out | apply below_alloc | apply pw_below_drewN | apply below_drew1 | refine below_set ?_ GE121.out) | exact HB.out)) hb); clear BK121; clear HB; have BK121 := n0_; have HB := n1_; clear n0_ n1_; (try clear hb); (try clear hb2); (try clear hk); (try clear hi); have hcz37_0 : w36.cell? ⟨gb121, 0, none⟩ = some (.int .i64 a0_0) := (blk_cell BK121.out 0).trans rfl; have hcz37_1 : w36.cell? ⟨gb121, 1, none⟩ = some (.bool a0_1) := (blk_cell BK121.out 1).trans rfl; have hcz37_2 : w36.cell? ⟨gb121, 2, none⟩ = some (.string a0_2) := (blk_cell BK121.out 2).trans rfl; have hcz37_3 : w36.cell? ⟨gb121, 3, none⟩ = some (.int .i64 a0_3) := (blk_cell BK121.out 3).trans rfl; have hcz37_4 : w36.cell? ⟨gb121, 4, none⟩ = some (.bool true) := (blk_cell BK121.out 4).trans rfl; have hcz37_5 : w36.cell? ⟨gb121, 5, none⟩ = some (.string a0_5) := (blk_cell BK121.out 5).trans rfl; have hcz37_6 : w36.cell? ⟨gb121, 6, none⟩ = some (.bool true) := (blk_cell BK121.out 6).trans rfl; have hcz37_7 : w36.cell? ⟨gb121, 7, none⟩ = some (.int .i64 a0_7) := (blk_cell BK121.out 7).trans rfl; have hcz37_8 : w36.cell? ⟨gb121, 8, none⟩ = some (.int .i64 a0_8) := (blk_cell BK121.out 8).trans rfl; have hcz37_9 : w36.cell? ⟨gb121, 9, none⟩ = some (.int .i64 a0_9) := (blk_cell BK121.out 9).trans rfl; have hcz37_10 : w36.cell? ⟨gb121, 10, none⟩ = some (.int .i64 a0_10) := (blk_cell BK121.out 10).trans rfl; have hcz37_11 : w36.cell? ⟨gb121, 11, none⟩ = some (.int .i64 a0_11) := (blk_cell BK121.out 11).trans rfl; have hcz37_12 : w36.cell? ⟨gb121, 12, none⟩ = some (.int .i64 a0_12) := (blk_cell BK121.out 12).trans rfl; have hcz37_13 : w36.cell? ⟨gb121, 13, none⟩ = some (.int .i64 a0_13) := (blk_cell BK121.out 13).trans rfl; have hcz37_14 : w36.cell? ⟨gb121, 14, none⟩ = some (.int .i64 a0_14) := (blk_cell BK121.out 14).trans rfl; have hcz37_15 : w36.cell? ⟨gb121, 15, none⟩ = some (.int .i64 a0_15) := (blk_cell BK121.out 15).trans rfl; have hcz37_16 : w36.cell? ⟨gb121, 16, none⟩ = some (.int .i64 a0_16) := (blk_cell BK121.out 16).trans rfl; have hfz37_0 := blk_frozen BK121.out 0; have hfz37_1 := blk_frozen BK121.out 1; have hfz37_2 := blk_frozen BK121.out 2; have hfz37_3 := blk_frozen BK121.out 3; have hfz37_4 := blk_frozen BK121.out 4; have hfz37_5 := blk_frozen BK121.out 5; have hfz37_6 := blk_frozen BK121.out 6; have hfz37_7 := blk_frozen BK121.out 7; have hfz37_8 := blk_frozen BK121.out 8; have hfz37_9 := blk_frozen BK121.out 9; have hfz37_10 := blk_frozen BK121.out 10; have hfz37_11 := blk_frozen BK121.out 11; have hfz37_12 := blk_frozen BK121.out 12; have hfz37_13 := blk_frozen BK121.out 13; have hfz37_14 := blk_frozen BK121.out 14; have hfz37_15 := blk_frozen BK121.out 15; have hfz37_16 := blk_frozen BK121.out 16) | (go_at_call 46; (with_reducible refine (posix_within.calls a0_3 (-89999) 89999 false _ A20.out).mono ?_); rintro e w' ⟨rfl, ⟨nd, rfl⟩⟩))
                go_ret
                exact ⟨by first | rfl | (simp [errW_none, errW_some] <;> rfl) | (simp [*, errW_none, errW_some] <;> rfl), by repeat (first | (with_reducible first | exact HB.out | apply below_alloc | apply pw_below_drewN | apply below_drew1 | refine below_set ?_ GE121.out) | exact HB.out)⟩
            · replace c19 := Bool.eq_false_iff.mpr c19
              subst c19
              have H1 : (some false) = some r := by rw [if_neg (show ¬ (false = true) by decide)] at H; exact H
              clear H
              have H := H1
              clear H1
              obtain rfl := Option.some.inj H
              have hcz38_0 : wc.cell? ⟨gb121, 0, none⟩ = some (.int .i64 a0_0) := (blk_cell BK121.out 0).trans rfl
              have hcz38_1 : wc.cell? ⟨gb121, 1, none⟩ = some (.bool a0_1) := (blk_cell BK121.out 1).trans rfl
              have hcz38_2 : wc.cell? ⟨gb121, 2, none⟩ = some (.string a0_2) := (blk_cell BK121.out 2).trans rfl
              have hcz38_3 : wc.cell? ⟨gb121, 3, none⟩ = some (.int .i64 a0_3) := (blk_cell BK121.out 3).trans rfl
              have hcz38_4 : wc.cell? ⟨gb121, 4, none⟩ = some (.bool true) := (blk_cell BK121.out 4).trans rfl
              have hcz38_5 : wc.cell? ⟨gb121, 5, none⟩ = some (.string a0_5) := (blk_cell BK121.out 5).trans rfl
              have hcz38_6 : wc.cell? ⟨gb121, 6, none⟩ = some (.bool true) := (blk_cell BK121.out 6).trans rfl
              have hcz38_7 : wc.cell? ⟨gb121, 7, none⟩ = some (.int .i64 a0_7) := (blk_cell BK121.out 7).trans rfl
              have hcz38_8 : wc.cell? ⟨gb121, 8, none⟩ = some (.int .i64 a0_8) := (blk_cell BK121.out 8).trans rfl
              have hcz38_9 : wc.cell? ⟨gb121, 9, none⟩ = some (.int .i64 a0_9) := (blk_cell BK121.out 9).trans rfl
              have hcz38_10 : wc.cell? ⟨gb121, 10, none⟩ = some (.int .i64 a0_10) := (blk_cell BK121.out 10).trans rfl
              have hcz38_11 : wc.cell? ⟨gb121, 11, none⟩ = some (.int .i64 a0_11) := (blk_cell BK121.out 11).trans rfl
              have hcz38_12 : wc.cell? ⟨gb121, 12, none⟩ = some (.int .i64 a0_12) := (blk_cell BK121.out 12).trans rfl
              have hcz38_13 : wc.cell? ⟨gb121, 13, none⟩ = some (.int .i64 a0_13) := (blk_cell BK121.out 13).trans rfl
              have hcz38_14 : wc.cell? ⟨gb121, 14, none⟩ = some (.int .i64 a0_14) := (blk_cell BK121.out 14).trans rfl
              have hcz38_15 : wc.cell? ⟨gb121, 15, none⟩ = some (.int .i64 a0_15) := (blk_cell BK121.out 15).trans rfl
              have hcz38_16 : wc.cell? ⟨gb121, 16, none⟩ = some (.int .i64 a0_16) := (blk_cell BK121.out 16).trans rfl
              have hfz38_0 := blk_frozen BK121.out 0
              have hfz38_1 := blk_frozen BK121.out 1
              have hfz38_2 := blk_frozen BK121.out 2
              have hfz38_3 := blk_frozen BK121.out 3
              have hfz38_4 := blk_frozen BK121.out 4
              have hfz38_5 := blk_frozen BK121.out 5
              have hfz38_6 := blk_frozen BK121.out 6
              have hfz38_7 := blk_frozen BK121.out 7
              have hfz38_8 := blk_frozen BK121.out 8
              have hfz38_9 := blk_frozen BK121.out 9
              have hfz38_10 := blk_frozen BK121.out 10
              have hfz38_11 := blk_frozen BK121.out 11
              have hfz38_12 := blk_frozen BK121.out 12
              have hfz38_13 := blk_frozen BK121.out 13
              have hfz38_14 := blk_frozen BK121.out 14
              have hfz38_15 := blk_frozen BK121.out 15
              have hfz38_16 := blk_frozen BK121.out 16
              go_wp2_with (first | (go_at_call 45; (with_reducible refine (posix_named.calls a0_5 false _ A18.out).mono ?_); rintro e w39 ⟨rfl, hb⟩; have n0_ := Aside0.mk (blk_below (g := gb121) (o := .cells #[.int .i64 a0_0, .bool a0_1, .string a0_2, .int .i64 a0_3, .bool true, .string a0_5, .bool true, .int .i64 a0_7, .int .i64 a0_8, .int .i64 a0_9, .int .i64 a0_10, .int .i64 a0_11, .int .i64 a0_12, .int .i64 a0_13, .int .i64 a0_14, .int .i64 a0_15, .int .i64 a0_16] 27 (0, 0)) (by (with_reducible repeat (first | refine blk_drewN ?_ _ | refine blk_drew ?_ | refine blk_alloc ?_ _)); exact BK121.out) hb); have n1_ := Aside0.mk (below_step (by repeat (first | (with_reducible first | exact HB.out | apply below_alloc | apply pw_below_drewN | apply below_drew1 | refine below_set ?_ GE121.out) | exact HB.out)) hb); clear BK121; clear HB; have BK121 := n0_; have HB := n1_; clear n0_ n1_; (try clear hb); (try clear hb2); (try clear hk); (try clear hi)))
              go_ret
              exact ⟨by first | rfl | (simp [errW_none, errW_some] <;> rfl) | (simp [*, errW_none, errW_some] <;> rfl), by repeat (first | (with_reducible first | exact HB.out | apply below_alloc | apply pw_below_drewN | apply below_drew1 | refine below_set ?_ GE121.out) | exact HB.out)⟩
          · replace c17 := Bool.eq_false_iff.mpr c17
            subst c17
            have H1 : (some false) = some r := by rw [if_neg (show ¬ (false = true) by decide)] at H; exact H
            clear H
            have H := H1
            clear H1
            obtain rfl := Option.some.inj H
            have hcz40_0 : wc.cell? ⟨gb121, 0, none⟩ = some (.int .i64 a0_0) := (blk_cell BK121.out 0).trans rfl
            have hcz40_1 : wc.cell? ⟨gb121, 1, none⟩ = some (.bool a0_1) := (blk_cell BK121.out 1).trans rfl
            have hcz40_2 : wc.cell? ⟨gb121, 2, none⟩ = some (.string a0_2) := (blk_cell BK121.out 2).trans rfl
            have hcz40_3 : wc.cell? ⟨gb121, 3, none⟩ = some (.int .i64 a0_3) := (blk_cell BK121.out 3).trans rfl
            have hcz40_4 : wc.cell? ⟨gb121, 4, none⟩ = some (.bool false) := (blk_cell BK121.out 4).trans rfl
            have hcz40_5 : wc.cell? ⟨gb121, 5, none⟩ = some (.string a0_5) := (blk_cell BK121.out 5).trans rfl
            have hcz40_6 : wc.cell? ⟨gb121, 6, none⟩ = some (.bool true) := (blk_cell BK121.out 6).trans rfl
            have hcz40_7 : wc.cell? ⟨gb121, 7, none⟩ = some (.int .i64 a0_7) := (blk_cell BK121.out 7).trans rfl
            have hcz40_8 : wc.cell? ⟨gb121, 8, none⟩ = some (.int .i64 a0_8) := (blk_cell BK121.out 8).trans rfl
            have hcz40_9 : wc.cell? ⟨gb121, 9, none⟩ = some (.int .i64 a0_9) := (blk_cell BK121.out 9).trans rfl
            have hcz40_10 : wc.cell? ⟨gb121, 10, none⟩ = some (.int .i64 a0_10) := (blk_cell BK121.out 10).trans rfl
            have hcz40_11 : wc.cell? ⟨gb121, 11, none⟩ = some (.int .i64 a0_11) := (blk_cell BK121.out 11).trans rfl
            have hcz40_12 : wc.cell? ⟨gb121, 12, none⟩ = some (.int .i64 a0_12) := (blk_cell BK121.out 12).trans rfl
            have hcz40_13 : wc.cell? ⟨gb121, 13, none⟩ = some (.int .i64 a0_13) := (blk_cell BK121.out 13).trans rfl
            have hcz40_14 : wc.cell? ⟨gb121, 14, none⟩ = some (.int .i64 a0_14) := (blk_cell BK121.out 14).trans rfl
            have hcz40_15 : wc.cell? ⟨gb121, 15, none⟩ = some (.int .i64 a0_15) := (blk_cell BK121.out 15).trans rfl
            have hcz40_16 : wc.cell? ⟨gb121, 16, none⟩ = some (.int .i64 a0_16) := (blk_cell BK121.out 16).trans rfl
            have hfz40_0 := blk_frozen BK121.out 0
            have hfz40_1 := blk_frozen BK121.out 1
            have hfz40_2 := blk_frozen BK121.out 2
            have hfz40_3 := blk_frozen BK121.out 3
            have hfz40_4 := blk_frozen BK121.out 4
            have hfz40_5 := blk_frozen BK121.out 5
            have hfz40_6 := blk_frozen BK121.out 6
            have hfz40_7 := blk_frozen BK121.out 7
            have hfz40_8 := blk_frozen BK121.out 8
            have hfz40_9 := blk_frozen BK121.out 9
            have hfz40_10 := blk_frozen BK121.out 10
            have hfz40_11 := blk_frozen BK121.out 11
            have hfz40_12 := blk_frozen BK121.out 12
            have hfz40_13 := blk_frozen BK121.out 13
            have hfz40_14 := blk_frozen BK121.out 14
            have hfz40_15 := blk_frozen BK121.out 15
            have hfz40_16 := blk_frozen BK121.out 16
            go_wp2
            go_ret
            exact ⟨by first | rfl | (simp [errW_none, errW_some] <;> rfl) | (simp [*, errW_none, errW_some] <;> rfl), by repeat (first | (with_reducible first | exact HB.out | apply below_alloc | apply pw_below_drewN | apply below_drew1 | refine below_set ?_ GE121.out) | exact HB.out)⟩
        · replace c16 := Bool.eq_false_iff.mpr c16
          subst c16
          have H1 : (some ((a0_3 == 0 && (!a0_4 && (a0_5.toList.isEmpty))) && (!false && ((a0_7 == 0 && (a0_8 == 0 && (a0_9 == 0 && (a0_10 == 0 && (a0_11 == 0))))) && ((a0_12 == 0 && (a0_13 == 0 && (a0_14 == 0 && (a0_15 == 0 && (a0_16 == 0)))))))))) = some r := by rw [if_neg (show ¬ (false = true) by decide)] at H; exact H
          clear H
          have H := H1
          clear H1
          obtain rfl := Option.some.inj H
          have hcz41_0 : wc.cell? ⟨gb121, 0, none⟩ = some (.int .i64 a0_0) := (blk_cell BK121.out 0).trans rfl
          have hcz41_1 : wc.cell? ⟨gb121, 1, none⟩ = some (.bool a0_1) := (blk_cell BK121.out 1).trans rfl
          have hcz41_2 : wc.cell? ⟨gb121, 2, none⟩ = some (.string a0_2) := (blk_cell BK121.out 2).trans rfl
          have hcz41_3 : wc.cell? ⟨gb121, 3, none⟩ = some (.int .i64 a0_3) := (blk_cell BK121.out 3).trans rfl
          have hcz41_4 : wc.cell? ⟨gb121, 4, none⟩ = some (.bool a0_4) := (blk_cell BK121.out 4).trans rfl
          have hcz41_5 : wc.cell? ⟨gb121, 5, none⟩ = some (.string a0_5) := (blk_cell BK121.out 5).trans rfl
          have hcz41_6 : wc.cell? ⟨gb121, 6, none⟩ = some (.bool false) := (blk_cell BK121.out 6).trans rfl
          have hcz41_7 : wc.cell? ⟨gb121, 7, none⟩ = some (.int .i64 a0_7) := (blk_cell BK121.out 7).trans rfl
          have hcz41_8 : wc.cell? ⟨gb121, 8, none⟩ = some (.int .i64 a0_8) := (blk_cell BK121.out 8).trans rfl
          have hcz41_9 : wc.cell? ⟨gb121, 9, none⟩ = some (.int .i64 a0_9) := (blk_cell BK121.out 9).trans rfl
          have hcz41_10 : wc.cell? ⟨gb121, 10, none⟩ = some (.int .i64 a0_10) := (blk_cell BK121.out 10).trans rfl
          have hcz41_11 : wc.cell? ⟨gb121, 11, none⟩ = some (.int .i64 a0_11) := (blk_cell BK121.out 11).trans rfl
          have hcz41_12 : wc.cell? ⟨gb121, 12, none⟩ = some (.int .i64 a0_12) := (blk_cell BK121.out 12).trans rfl
          have hcz41_13 : wc.cell? ⟨gb121, 13, none⟩ = some (.int .i64 a0_13) := (blk_cell BK121.out 13).trans rfl
          have hcz41_14 : wc.cell? ⟨gb121, 14, none⟩ = some (.int .i64 a0_14) := (blk_cell BK121.out 14).trans rfl
          have hcz41_15 : wc.cell? ⟨gb121, 15, none⟩ = some (.int .i64 a0_15) := (blk_cell BK121.out 15).trans rfl
          have hcz41_16 : wc.cell? ⟨gb121, 16, none⟩ = some (.int .i64 a0_16) := (blk_cell BK121.out 16).trans rfl
          have hfz41_0 := blk_frozen BK121.out 0
          have hfz41_1 := blk_frozen BK121.out 1
          have hfz41_2 := blk_frozen BK121.out 2
          have hfz41_3 := blk_frozen BK121.out 3
          have hfz41_4 := blk_frozen BK121.out 4
          have hfz41_5 := blk_frozen BK121.out 5
          have hfz41_6 := blk_frozen BK121.out 6
          have hfz41_7 := blk_frozen BK121.out 7
          have hfz41_8 := blk_frozen BK121.out 8
          have hfz41_9 := blk_frozen BK121.out 9
          have hfz41_10 := blk_frozen BK121.out 10
          have hfz41_11 := blk_frozen BK121.out 11
          have hfz41_12 := blk_frozen BK121.out 12
          have hfz41_13 := blk_frozen BK121.out 13
          have hfz41_14 := blk_frozen BK121.out 14
          have hfz41_15 := blk_frozen BK121.out 15
          have hfz41_16 := blk_frozen BK121.out 16
          go_wp2_with (first | ((with_reducible refine gate_dst (N := 25) rfl ?_); refine wpList_load_row rfl 27 _ rfl (gb121) rfl 27 #[.int .i64 a0_0, .bool a0_1, .string a0_2, .int .i64 a0_3, .bool a0_4, .string a0_5, .bool false, .int .i64 a0_7, .int .i64 a0_8, .int .i64 a0_9, .int .i64 a0_10, .int .i64 a0_11, .int .i64 a0_12, .int .i64 a0_13, .int .i64 a0_14, .int .i64 a0_15, .int .i64 a0_16] (0, 0) _ (by (with_reducible repeat (first | refine blk_drewN ?_ _ | refine blk_drew ?_ | refine blk_alloc ?_ _)); exact BK121.out) Tryd.underlying27 rfl (by kernel_rfl) ?_))
          go_ret
          exact ⟨by first | rfl | (simp [errW_none, errW_some] <;> rfl) | (simp [*, errW_none, errW_some] <;> rfl), by repeat (first | (with_reducible first | exact HB.out | apply below_alloc | apply pw_below_drewN | apply below_drew1 | refine below_set ?_ GE121.out) | exact HB.out)⟩

end Go.Proofs.YtgbehcahdgamoaaDoor.Fn

namespace Go.Proofs.YtgbehcahdgamoaaDoor.Fn
open Go.RowKit Go.Proofs.YtgbehcahdgamoaaDoorW.PrintWords Go.Proofs.YtgbehcahdgamoaaDoorW.PrintLast Go.Proofs.YtgbehcahdgamoaaDoorW.PrintMore
attribute [local go_sem] max2_int min2_int max_two min_two max_three min_three max_four min_four   -- for this text's walks alone
set_option linter.unusedVariables false
set_option linter.unusedSimpArgs false

/-! ### rule_may: function 25 -/
def rule_may.f (a0 : Int) : Option (Bool) := if a0 ≥ (-2147483648) then (some (decide (a0 ≤ 2147483647))) else (some false)
set_option maxHeartbeats 8000000 in
set_option maxRecDepth 100000 in
theorem rule_may.calls (a0 : Int) (r : Bool) (w : World) (h : rule_may.f a0 = some r) :
    Calls Tryd.prog 25 #[.int .i64 a0] w fun e w' => e = .returned (.bool r) ∧ Drawn0 w w' := by
  have H : (if a0 ≥ (-2147483648) then (some (decide (a0 ≤ 2147483647))) else (some false)) = some r := h
  clear h
  by_cases c2 : a0 ≥ (-2147483648)
  · rw [if_pos c2] at H
    have c2b0 : decide ((-2147483648) ≤ a0) = true := decide_eq_true c2
    clear c2
    obtain rfl := Option.some.inj H
    go_enter Tryd.func25, Tryd.ntmps25
    go_wp2
    go_ret
    exact ⟨by first | rfl | (simp; done) | (simp [*]; done), by repeat (first | exact Drawn0.refl _ | apply Drawn0.step)⟩
  · rw [if_neg c2] at H
    have c2b0 : decide ((-2147483648) ≤ a0) = false := decide_eq_false c2
    clear c2
    obtain rfl := Option.some.inj H
    go_enter Tryd.func25, Tryd.ntmps25
    go_wp2
    go_ret
    exact ⟨by first | rfl | (simp; done) | (simp [*]; done), by repeat (first | exact Drawn0.refl _ | apply Drawn0.step)⟩

end Go.Proofs.YtgbehcahdgamoaaDoor.Fn

namespace Go.Proofs.YtgbehcahdgamoaaDoor.Fn
open Go.RowKit Go.Proofs.YtgbehcahdgamoaaDoorW.PrintWords Go.Proofs.YtgbehcahdgamoaaDoorW.PrintLast Go.Proofs.YtgbehcahdgamoaaDoorW.PrintMore
attribute [local go_sem] max2_int min2_int max_two min_two max_three min_three max_four min_four   -- for this text's walks alone
set_option linter.unusedVariables false
set_option linter.unusedSimpArgs false

/-! ### rule_probe: function 27 -/
def rule_probe.f (a0_0 : Int) (a0_1 : Int) (a0_2 : Int) (a0_3 : Int) (a0_4 : Int) : Option (Int × Bool × ByteArray × Int × Bool × ByteArray × Bool × Int × Int × Int × Int × Int × Int × Int × Int × Int × Int) := some (0, false, (⟨#[65, 65, 65]⟩ : ByteArray), 0, true, (⟨#[66, 66, 66]⟩ : ByteArray), true, a0_0, a0_1, a0_2, a0_3, a0_4, a0_0, a0_1, a0_2, a0_3, a0_4)
set_option maxHeartbeats 8000000 in
set_option maxRecDepth 100000 in
theorem rule_probe.calls (a0_0 : Int) (a0_1 : Int) (a0_2 : Int) (a0_3 : Int) (a0_4 : Int) (r1 : Int) (r2 : Bool) (r3 : ByteArray) (r4 : Int) (r5 : Bool) (r6 : ByteArray) (r7 : Bool) (r8 : Int) (r9 : Int) (r10 : Int) (r11 : Int) (r12 : Int) (r13 : Int) (r14 : Int) (r15 : Int) (r16 : Int) (r17 : Int) (w : World) (h : rule_probe.f a0_0 a0_1 a0_2 a0_3 a0_4 = some (r1, r2, r3, r4, r5, r6, r7, r8, r9, r10, r11, r12, r13, r14, r15, r16, r17)) :
    Calls Tryd.prog 27 #[.agg #[.int .i64 a0_0, .int .i64 a0_1, .int .i64 a0_2, .int .i64 a0_3, .int .i64 a0_4]] w fun e w' => e = .returned (.agg #[.int .i64 r1, .bool r2, .string r3, .int .i64 r4, .bool r5, .string r6, .bool r7, .int .i64 r8, .int .i64 r9, .int .i64 r10, .int .i64 r11, .int .i64 r12, .int .i64 r13, .int .i64 r14, .int .i64 r15, .int .i64 r16, .int .i64 r17]) ∧ Below w.heap.size w w' := by
  have hu25 := Tryd.underlying25
  have hu27 := Tryd.underlying27
  have hu23 := Tryd.underlying23
  have HB := Aside0.mk (Below.refl w.heap.size w)
  have H : (some (0, false, (⟨#[65, 65, 65]⟩ : ByteArray), 0, true, (⟨#[66, 66, 66]⟩ : ByteArray), true, a0_0, a0_1, a0_2, a0_3, a0_4, a0_0, a0_1, a0_2, a0_3, a0_4)) = some (r1, r2, r3, r4, r5, r6, r7, r8, r9, r10, r11, r12, r13, r14, r15, r16, r17) := h
  clear h
  simp only [Option.some.injEq, Prod.mk.injEq] at H
  obtain ⟨rfl, rfl, rfl, rfl, rfl, rfl, rfl, rfl, rfl, rfl, rfl, rfl, rfl, rfl, rfl, rfl, rfl⟩ := H
  go_enter Tryd.func27, Tryd.ntmps27
  go_wp2_with (first | ((with_reducible refine gate_dst (N := 1) rfl ?_); refine box_event ?hg (N := 1) ?hd (cs := #[.int .i64 a0_0, .int .i64 a0_1, .int .i64 a0_2, .int .i64 a0_3, .int .i64 a0_4]) (t := 25) ?hr ?_; (case hd => rfl); (case hg => rfl); (case hr => first | (go_simp; done) | (go_simp; rfl)); intro gb128 hg w2 hbox hb; have n0_ := Aside0.mk (below_step (by repeat (first | (with_reducible first | exact HB.out | apply below_alloc | apply pw_below_drewN | apply below_drew1) | exact HB.out)) hb); have n1_ := Aside0.mk (hbox); have n2_ := Aside0.mk ((by rw [hg]; exact (below_size (by repeat (first | (with_reducible first | exact HB.out | apply below_alloc | apply pw_below_drewN | apply below_drew1) | exact HB.out))) : w.heap.size ≤ gb128)); have n3_ := Aside0.mk ((by rw [hg]; exact (below_size (by repeat (first | (with_reducible first | exact HB.out | apply below_alloc | apply pw_below_drewN | apply below_drew1) | exact HB.out))) : w.heap.size ≤ gb128)); clear HB; have HB := n0_; have BK128 := n1_; have GW128 := n2_; have GE128 := n3_; clear n0_ n1_ n2_ n3_; clear hb hbox hg) | ((with_reducible refine gate_dst (N := 2) rfl ?_); refine box_event ?hg (N := 2) ?hd (cs := #[.int .i64 0, .bool false, .string (⟨#[]⟩ : ByteArray), .int .i64 0, .bool false, .string (⟨#[]⟩ : ByteArray), .bool false, .int .i64 0, .int .i64 0, .int .i64 0, .int .i64 0, .int .i64 0, .int .i64 0, .int .i64 0, .int .i64 0, .int .i64 0, .int .i64 0]) (t := 27) ?hr ?_; (case hd => rfl); (case hg => rfl); (case hr => first | (go_simp; done) | (go_simp; rfl)); intro gb129 hg w3 hbox hb; have n0_ := Aside0.mk (blk_below (g := gb128) (o := .cells #[.int .i64 a0_0, .int .i64 a0_1, .int .i64 a0_2, .int .i64 a0_3, .int .i64 a0_4] 25 (0, 0)) (by (with_reducible repeat (first | refine blk_drewN ?_ _ | refine blk_drew ?_ | refine blk_alloc ?_ _)); exact BK128.out) hb); have n1_ := Aside0.mk (below_step (by repeat (first | (with_reducible first | exact HB.out | apply below_alloc | apply pw_below_drewN | apply below_drew1 | refine below_set ?_ GE128.out) | exact HB.out)) hb); have n2_ := Aside0.mk (hbox); have n3_ := Aside0.mk ((by rw [hg]; exact (below_size (by repeat (first | (with_reducible first | exact HB.out | apply below_alloc | apply pw_below_drewN | apply below_drew1 | refine below_set ?_ GE128.out) | exact HB.out))) : w.heap.size ≤ gb129)); have n4_ := Aside0.mk ((by rw [hg]; exact (below_size (by repeat (first | (with_reducible first | exact HB.out | apply below_alloc | apply pw_below_drewN | apply below_drew1 | refine below_set ?_ GE128.out) | exact HB.out))) : w.heap.size ≤ gb129)); have n5_ := Aside0.mk ((by rw [hg]; exact Nat.ne_of_lt (blk_lt (g := gb128) (o := .cells #[.int .i64 a0_0, .int .i64 a0_1, .int .i64 a0_2, .int .i64 a0_3, .int .i64 a0_4] 25 (0, 0)) (by (with_reducible repeat (first | refine blk_drewN ?_ _ | refine blk_drew ?_ | refine blk_alloc ?_ _)); exact BK128.out)) : gb128 ≠ gb129)); have n6_ := Aside0.mk ((by rw [hg]; exact Nat.ne_of_gt (blk_lt (g := gb128) (o := .cells #[.int .i64 a0_0, .int .i64 a0_1, .int .i64 a0_2, .int .i64 a0_3, .int .i64 a0_4] 25 (0, 0)) (by (with_reducible repeat (first | refine blk_drewN ?_ _ | refine blk_drew ?_ | refine blk_alloc ?_ _)); exact BK128.out)) : gb129 ≠ gb128)); clear BK128; clear HB; have BK128 := n0_; have HB := n1_; have BK129 := n2_; have GW129 := n3_; have GE129 := n4_; have NB128_129 := n5_; have NB129_128 := n6_; clear n0_ n1_ n2_ n3_ n4_ n5_ n6_; clear hb hbox hg) | ((with_reducible refine gate_dst (N := 3) rfl ?_); refine box_event ?hg (N := 3) ?hd (cs := #[.int .i64 0, .bool false, .string (⟨#[]⟩ : ByteArray)]) (t := 23) ?hr ?_; (case hd => rfl); (case hg => rfl); (case hr => first | (go_simp; done) | (go_simp; rfl)); intro gb130 hg w4 hbox hb; have n0_ := Aside0.mk (blk_below (g := gb128) (o := .cells #[.int .i64 a0_0, .int .i64 a0_1, .int .i64 a0_2, .int .i64 a0_3, .int .i64 a0_4] 25 (0, 0)) (by (with_reducible repeat (first | refine blk_drewN ?_ _ | refine blk_drew ?_ | refine blk_alloc ?_ _)); exact BK128.out) hb); have n1_ := Aside0.mk (blk_below (g := gb129) (o := .cells #[.int .i64 0, .bool false, .string (⟨#[]⟩ : ByteArray), .int .i64 0, .bool false, .string (⟨#[]⟩ : ByteArray), .bool false, .int .i64 0, .int .i64 0, .int .i64 0, .int .i64 0, .int .i64 0, .int .i64 0, .int .i64 0, .int .i64 0, .int .i64 0, .int .i64 0] 27 (0, 0)) (by (with_reducible repeat (first | refine blk_drewN ?_ _ | refine blk_drew ?_ | refine blk_alloc ?_ _)); exact BK129.out) hb); have n2_ := Aside0.mk (below_step (by repeat (first | (with_reducible first | exact HB.out | apply below_alloc | apply pw_below_drewN | apply below_drew1 | refine below_set ?_ GE128.out | refine below_set ?_ GE129.out) | exact HB.out)) hb); have n3_ := Aside0.mk (hbox); have n4_ := Aside0.mk ((by rw [hg]; exact (below_size (by repeat (first | (with_reducible first | exact HB.out | apply below_alloc | apply pw_below_drewN | apply below_drew1 | refine below_set ?_ GE128.out | refine below_set ?_ GE129.out) | exact HB.out))) : w.heap.size ≤ gb130)); have n5_ := Aside0.mk ((by rw [hg]; exact (below_size (by repeat (first | (with_reducible first | exact HB.out | apply below_alloc | apply pw_below_drewN | apply below_drew1 | refine below_set ?_ GE128.out | refine below_set ?_ GE129.out) | exact HB.out))) : w.heap.size ≤ gb130)); have n6_ := Aside0.mk ((by rw [hg]; exact Nat.ne_of_lt (blk_lt (g := gb128) (o := .cells #[.int .i64 a0_0, .int .i64 a0_1, .int .i64 a0_2, .int .i64 a0_3, .int .i64 a0_4] 25 (0, 0)) (by (with_reducible repeat (first | refine blk_drewN ?_ _ | refine blk_drew ?_ | refine blk_alloc ?_ _)); exact BK128.out)) : gb128 ≠ gb130)); have n7_ := Aside0.mk ((by rw [hg]; exact Nat.ne_of_gt (blk_lt (g := gb128) (o := .cells #[.int .i64 a0_0, .int .i64 a0_1, .int .i64 a0_2, .int .i64 a0_3, .int .i64 a0_4] 25 (0, 0)) (by (with_reducible repeat (first | refine blk_drewN ?_ _ | refine blk_drew ?_ | refine blk_alloc ?_ _)); exact BK128.out)) : gb130 ≠ gb128)); have n8_ := Aside0.mk ((by rw [hg]; exact Nat.ne_of_lt (blk_lt (g := gb129) (o := .cells #[.int .i64 0, .bool false, .string (⟨#[]⟩ : ByteArray), .int .i64 0, .bool false, .string (⟨#[]⟩ : ByteArray), .bool false, .int .i64 0, .int .i64 0, .int .i64 0, .int .i64 0, .int .i64 0, .int .i64 0, .int .i64 0, .int .i64 0, .int .i64 0, .int .i64 0] 27 (0, 0)) (by (with_reducible repeat (first | refine blk_drewN ?_ _ | refine blk_drew ?_ | refine blk_alloc ?_ _)); exact BK129.out)) : gb129 ≠ gb130)); have n9_ := Aside0.mk ((by rw [hg]; exact Nat.ne_of_gt (blk_lt (g := gb129) (o := .cells #[.int .i64 0, .bool false, .string (⟨#[]⟩ : ByteArray), .int .i64 0, .bool false, .string (⟨#[]⟩ : ByteArray), .bool false, .int .i64 0, .int .i64 0, .int .i64 0, .int .i64 0, .int .i64 0, .int .i64 0, .int .i64 0, .int .i64 0, .int .i64 0, .int .i64 0] 27 (0, 0)) (by (with_reducible repeat (first | refine blk_drewN ?_ _ | refine blk_drew ?_ | refine blk_alloc ?_ _)); exact BK129.out)) : gb130 ≠ gb129)); clear BK128; clear BK129; clear HB; have BK128 := n0_; have BK129 := n1_; have HB := n2_; have BK130 := n3_; have GW130 := n4_; have GE130 := n5_; have NB128_130 := n6_; have NB130_128 := n7_; have NB129_130 := n8_; have NB130_129 := n9_; clear n0_ n1_ n2_ n3_ n4_ n5_ n6_ n7_ n8_ n9_; clear hb hbox hg; have hnb5 := NB130_128.out; have hnc5 := NB128_130.out; have hnb6 := NB130_129.out; have hnc6 := NB129_130.out; have hcz7_0 : w4.cell? ⟨gb130, 0, none⟩ = some (.int .i64 0) := (blk_cell BK130.out 0).trans rfl; have hcz7_1 : w4.cell? ⟨gb130, 1, none⟩ = some (.bool false) := (blk_cell BK130.out 1).trans rfl; have hcz7_2 : w4.cell? ⟨gb130, 2, none⟩ = some (.string (⟨#[]⟩ : ByteArray)) := (blk_cell BK130.out 2).trans rfl; have hfz7_0 := blk_frozen BK130.out 0; have hfz7_1 := blk_frozen BK130.out 1; have hfz7_2 := blk_frozen BK130.out 2; have hnb8 := NB129_128.out; have hnc8 := NB128_129.out; have hcz9_0 : w4.cell? ⟨gb129, 0, none⟩ = some (.int .i64 0) := (blk_cell BK129.out 0).trans rfl; have hcz9_1 : w4.cell? ⟨gb129, 1, none⟩ = some (.bool false) := (blk_cell BK129.out 1).trans rfl; have hcz9_2 : w4.cell? ⟨gb129, 2, none⟩ = some (.string (⟨#[]⟩ : ByteArray)) := (blk_cell BK129.out 2).trans rfl; have hcz9_3 : w4.cell? ⟨gb129, 3, none⟩ = some (.int .i64 0) := (blk_cell BK129.out 3).trans rfl; have hcz9_4 : w4.cell? ⟨gb129, 4, none⟩ = some (.bool false) := (blk_cell BK129.out 4).trans rfl; have hcz9_5 : w4.cell? ⟨gb129, 5, none⟩ = some (.string (⟨#[]⟩ : ByteArray)) := (blk_cell BK129.out 5).trans rfl; have hcz9_6 : w4.cell? ⟨gb129, 6, none⟩ = some (.bool false) := (blk_cell BK129.out 6).trans rfl; have hcz9_7 : w4.cell? ⟨gb129, 7, none⟩ = some (.int .i64 0) := (blk_cell BK129.out 7).trans rfl; have hcz9_8 : w4.cell? ⟨gb129, 8, none⟩ = some (.int .i64 0) := (blk_cell BK129.out 8).trans rfl; have hcz9_9 : w4.cell? ⟨gb129, 9, none⟩ = some (.int .i64 0) := (blk_cell BK129.out 9).trans rfl; have hcz9_10 : w4.cell? ⟨gb129, 10, none⟩ = some (.int .i64 0) := (blk_cell BK129.out 10).trans rfl; have hcz9_11 : w4.cell? ⟨gb129, 11, none⟩ = some (.int .i64 0) := (blk_cell BK129.out 11).trans rfl; have hcz9_12 : w4.cell? ⟨gb129, 12, none⟩ = some (.int .i64 0) := (blk_cell BK129.out 12).trans rfl; have hcz9_13 : w4.cell? ⟨gb129, 13, none⟩ = some (.int .i64 0) := (blk_cell BK129.out 13).trans rfl; have hcz9_14 : w4.cell? ⟨gb129, 14, none⟩ = some (.int .i64 0) := (blk_cell BK129.out 14).trans rfl; have hcz9_15 : w4.cell? ⟨gb129, 15, none⟩ = some (.int .i64 0) := (blk_cell BK129.out 15).trans rfl; have hcz9_16 : w4.cell? ⟨gb129, 16, none⟩ = some (.int .i64 0) := (blk_cell BK129.out 16).trans rfl; have hfz9_0 := blk_frozen BK129.out 0; have hfz9_1 := blk_frozen BK129.out 1; have hfz9_2 := blk_frozen BK129.out 2; have hfz9_3 := blk_frozen BK129.out 3; have hfz9_4 := blk_frozen BK129.out 4; have hfz9_5 := blk_frozen BK129.out 5; have hfz9_6 := blk_frozen BK129.out 6; have hfz9_7 := blk_frozen BK129.out 7; have hfz9_8 := blk_frozen BK129.out 8; have hfz9_9 := blk_frozen BK129.out 9; have hfz9_10 := blk_frozen BK129.out 10; have hfz9_11 := blk_frozen BK129.out 11; have hfz9_12 := blk_frozen BK129.out 12; have hfz9_13 := blk_frozen BK129.out 13; have hfz9_14 := blk_frozen BK129.out 14; have hfz9_15 := blk_frozen BK129.out 15; have hfz9_16 := blk_frozen BK129.out 16) | ((with_reducible refine gate_dst (N := 5) rfl ?_); refine wpList_load_row rfl 23 _ rfl (gb130) rfl 23 #[.int .i64 0, .bool false, .string (⟨#[65, 65, 65]⟩ : ByteArray)] (0, 0) _ (by (with_reducible repeat (first | refine blk_drewN ?_ _ | refine blk_drew ?_ | refine blk_alloc ?_ _)); refine blk_put (cs := #[.int .i64 0, .bool false, .string (⟨#[]⟩ : ByteArray)]) ?_ 2 _ rfl; (with_reducible repeat (first | refine blk_drewN ?_ _ | refine blk_drew ?_ | refine blk_alloc ?_ _)); refine blk_put (cs := #[.int .i64 0, .bool false, .string (⟨#[]⟩ : ByteArray)]) ?_ 1 _ rfl; (with_reducible repeat (first | refine blk_drewN ?_ _ | refine blk_drew ?_ | refine blk_alloc ?_ _)); refine blk_put (cs := #[.int .i64 0, .bool false, .string (⟨#[]⟩ : ByteArray)]) ?_ 0 _ rfl; (with_reducible repeat (first | refine blk_drewN ?_ _ | refine blk_drew ?_ | refine blk_alloc ?_ _)); exact BK130.out) Tryd.underlying23 rfl (by kernel_rfl) ?_) | ((with_reducible refine gate_dst (N := 7) rfl ?_); refine wpList_load_row rfl 25 _ rfl (gb128) rfl 25 #[.int .i64 a0_0, .int .i64 a0_1, .int .i64 a0_2, .int .i64 a0_3, .int .i64 a0_4] (0, 0) _ (by (with_reducible repeat (first | refine blk_drewN ?_ _ | refine blk_drew ?_ | refine blk_alloc ?_ _)); refine blk_far ?_ NB128_130.out _; (with_reducible repeat (first | refine blk_drewN ?_ _ | refine blk_drew ?_ | refine blk_alloc ?_ _)); refine blk_far ?_ NB128_130.out _; (with_reducible repeat (first | refine blk_drewN ?_ _ | refine blk_drew ?_ | refine blk_alloc ?_ _)); refine blk_far ?_ NB128_130.out _; (with_reducible repeat (first | refine blk_drewN ?_ _ | refine blk_drew ?_ | refine blk_alloc ?_ _)); exact BK128.out) Tryd.underlying25 rfl (by kernel_rfl) ?_) | ((with_reducible refine gate_dst (N := 8) rfl ?_); refine wpList_load_row rfl 25 _ rfl (gb128) rfl 25 #[.int .i64 a0_0, .int .i64 a0_1, .int .i64 a0_2, .int .i64 a0_3, .int .i64 a0_4] (0, 0) _ (by (with_reducible repeat (first | refine blk_drewN ?_ _ | refine blk_drew ?_ | refine blk_alloc ?_ _)); refine blk_far ?_ NB128_130.out _; (with_reducible repeat (first | refine blk_drewN ?_ _ | refine blk_drew ?_ | refine blk_alloc ?_ _)); refine blk_far ?_ NB128_130.out _; (with_reducible repeat (first | refine blk_drewN ?_ _ | refine blk_drew ?_ | refine blk_alloc ?_ _)); refine blk_far ?_ NB128_130.out _; (with_reducible repeat (first | refine blk_drewN ?_ _ | refine blk_drew ?_ | refine blk_alloc ?_ _)); exact BK128.out) Tryd.underlying25 rfl (by kernel_rfl) ?_))
  refine bodyPost_ret (results_cell_row rfl _ _ gb129 27 #[.int .i64 0, .bool false, .string (⟨#[65, 65, 65]⟩ : ByteArray), .int .i64 0, .bool true, .string (⟨#[66, 66, 66]⟩ : ByteArray), .bool true, .int .i64 a0_0, .int .i64 a0_1, .int .i64 a0_2, .int .i64 a0_3, .int .i64 a0_4, .int .i64 a0_0, .int .i64 a0_1, .int .i64 a0_2, .int .i64 a0_3, .int .i64 a0_4] (0, 0) _ rfl (by (with_reducible repeat (first | refine blk_drewN ?_ _ | refine blk_drew ?_ | refine blk_alloc ?_ _)); refine blk_put (cs := #[.int .i64 0, .bool false, .string (⟨#[65, 65, 65]⟩ : ByteArray), .int .i64 0, .bool true, .string (⟨#[66, 66, 66]⟩ : ByteArray), .bool true, .int .i64 a0_0, .int .i64 a0_1, .int .i64 a0_2, .int .i64 a0_3, .int .i64 a0_4, .int .i64 a0_0, .int .i64 a0_1, .int .i64 a0_2, .int .i64 a0_3, .int .i64 0]) ?_ 16 _ rfl; (with_reducible repeat (first | refine blk_drewN ?_ _ | refine blk_drew ?_ | refine blk_alloc ?_ _)); refine blk_put (cs := #[.int .i64 0, .bool false, .string (⟨#[65, 65, 65]⟩ : ByteArray), .int .i64 0, .bool true, .string (⟨#[66, 66, 66]⟩ : ByteArray), .bool true, .int .i64 a0_0, .int .i64 a0_1, .int .i64 a0_2, .int .i64 a0_3, .int .i64 a0_4, .int .i64 a0_0, .int .i64 a0_1, .int .i64 a0_2, .int .i64 0, .int .i64 0]) ?_ 15 _ rfl; (with_reducible repeat (first | refine blk_drewN ?_ _ | refine blk_drew ?_ | refine blk_alloc ?_ _)); refine blk_put (cs := #[.int .i64 0, .bool false, .string (⟨#[65, 65, 65]⟩ : ByteArray), .int .i64 0, .bool true, .string (⟨#[66, 66, 66]⟩ : ByteArray), .bool true, .int .i64 a0_0, .int .i64 a0_1, .int .i64 a0_2, .int .i64 a0_3, .int .i64 a0_4, .int .i64 a0_0, .int .i64 a0_1, .int .i64 0, .int .i64 0, .int .i64 0]) ?_ 14 _ rfl; (with_reducible repeat (first | refine blk_drewN ?_ _ | refine blk_drew ?_ | refine blk_alloc ?_ _)); refine blk_put (cs := #[.int .i64 0, .bool false, .string (⟨#[65, 65, 65]⟩ : ByteArray), .int .i64 0, .bool true, .string (⟨#[66, 66, 66]⟩ : ByteArray), .bool true, .int .i64 a0_0, .int .i64 a0_1, .int .i64 a0_2, .int .i64 a0_3, .int .i64 a0_4, .int .i64 a0_0, .int .i64 0, .int .i64 0, .int .i64 0, .int .i64 0]) ?_ 13 _ rfl; (with_reducible repeat (first | refine blk_drewN ?_ _ | refine blk_drew ?_ | refine blk_alloc ?_ _)); refine blk_put (cs := #[.int .i64 0, .bool false, .string (⟨#[65, 65, 65]⟩ : ByteArray), .int .i64 0, .bool true, .string (⟨#[66, 66, 66]⟩ : ByteArray), .bool true, .int .i64 a0_0, .int .i64 a0_1, .int .i64 a0_2, .int .i64 a0_3, .int .i64 a0_4, .int .i64 0, .int .i64 0, .int .i64 0, .int .i64 0, .int .i64 0]) ?_ 12 _ rfl; (with_reducible repeat (first | refine blk_drewN ?_ _ | refine blk_drew ?_ | refine blk_alloc ?_ _)); refine blk_put (cs := #[.int .i64 0, .bool false, .string (⟨#[65, 65, 65]⟩ : ByteArray), .int .i64 0, .bool true, .string (⟨#[66, 66, 66]⟩ : ByteArray), .bool true, .int .i64 a0_0, .int .i64 a0_1, .int .i64 a0_2, .int .i64 a0_3, .int .i64 0, .int .i64 0, .int .i64 0, .int .i64 0, .int .i64 0, .int .i64 0]) ?_ 11 _ rfl; (with_reducible repeat (first | refine blk_drewN ?_ _ | refine blk_drew ?_ | refine blk_alloc ?_ _)); refine blk_put (cs := #[.int .i64 0, .bool false, .string (⟨#[65, 65, 65]⟩ : ByteArray), .int .i64 0, .bool true, .string (⟨#[66, 66, 66]⟩ : ByteArray), .bool true, .int .i64 a0_0, .int .i64 a0_1, .int .i64 a0_2, .int .i64 0, .int .i64 0, .int .i64 0, .int .i64 0, .int .i64 0, .int .i64 0, .int .i64 0]) ?_ 10 _ rfl; (with_reducible repeat (first | refine blk_drewN ?_ _ | refine blk_drew ?_ | refine blk_alloc ?_ _)); refine blk_put (cs := #[.int .i64 0, .bool false, .string (⟨#[65, 65, 65]⟩ : ByteArray), .int .i64 0, .bool true, .string (⟨#[66, 66, 66]⟩ : ByteArray), .bool true, .int .i64 a0_0, .int .i64 a0_1, .int .i64 0, .int .i64 0, .int .i64 0, .int .i64 0, .int .i64 0, .int .i64 0, .int .i64 0, .int .i64 0]) ?_ 9 _ rfl; (with_reducible repeat (first | refine blk_drewN ?_ _ | refine blk_drew ?_ | refine blk_alloc ?_ _)); refine blk_put (cs := #[.int .i64 0, .bool false, .string (⟨#[65, 65, 65]⟩ : ByteArray), .int .i64 0, .bool true, .string (⟨#[66, 66, 66]⟩ : ByteArray), .bool true, .int .i64 a0_0, .int .i64 0, .int .i64 0, .int .i64 0, .int .i64 0, .int .i64 0, .int .i64 0, .int .i64 0, .int .i64 0, .int .i64 0]) ?_ 8 _ rfl; (with_reducible repeat (first | refine blk_drewN ?_ _ | refine blk_drew ?_ | refine blk_alloc ?_ _)); refine blk_put (cs := #[.int .i64 0, .bool false, .string (⟨#[65, 65, 65]⟩ : ByteArray), .int .i64 0, .bool true, .string (⟨#[66, 66, 66]⟩ : ByteArray), .bool true, .int .i64 0, .int .i64 0, .int .i64 0, .int .i64 0, .int .i64 0, .int .i64 0, .int .i64 0, .int .i64 0, .int .i64 0, .int .i64 0]) ?_ 7 _ rfl; (with_reducible repeat (first | refine blk_drewN ?_ _ | refine blk_drew ?_ | refine blk_alloc ?_ _)); refine blk_put (cs := #[.int .i64 0, .bool false, .string (⟨#[65, 65, 65]⟩ : ByteArray), .int .i64 0, .bool true, .string (⟨#[66, 66, 66]⟩ : ByteArray), .bool false, .int .i64 0, .int .i64 0, .int .i64 0, .int .i64 0, .int .i64 0, .int .i64 0, .int .i64 0, .int .i64 0, .int .i64 0, .int .i64 0]) ?_ 6 _ rfl; (with_reducible repeat (first | refine blk_drewN ?_ _ | refine blk_drew ?_ | refine blk_alloc ?_ _)); refine blk_put (cs := #[.int .i64 0, .bool false, .string (⟨#[65, 65, 65]⟩ : ByteArray), .int .i64 0, .bool true, .string (⟨#[]⟩ : ByteArray), .bool false, .int .i64 0, .int .i64 0, .int .i64 0, .int .i64 0, .int .i64 0, .int .i64 0, .int .i64 0, .int .i64 0, .int .i64 0, .int .i64 0]) ?_ 5 _ rfl; (with_reducible repeat (first | refine blk_drewN ?_ _ | refine blk_drew ?_ | refine blk_alloc ?_ _)); refine blk_put (cs := #[.int .i64 0, .bool false, .string (⟨#[65, 65, 65]⟩ : ByteArray), .int .i64 0, .bool false, .string (⟨#[]⟩ : ByteArray), .bool false, .int .i64 0, .int .i64 0, .int .i64 0, .int .i64 0, .int .i64 0, .int .i64 0, .int .i64 0, .int .i64 0, .int .i64 0, .int .i64 0]) ?_ 4 _ rfl; (with_reducible repeat (first | refine blk_drewN ?_ _ | refine blk_drew ?_ | refine blk_alloc ?_ _)); refine blk_put (cs := #[.int .i64 0, .bool false, .string (⟨#[65, 65, 65]⟩ : ByteArray), .int .i64 0, .bool false, .string (⟨#[]⟩ : ByteArray), .bool false, .int .i64 0, .int .i64 0, .int .i64 0, .int .i64 0, .int .i64 0, .int .i64 0, .int .i64 0, .int .i64 0, .int .i64 0, .int .i64 0]) ?_ 3 _ rfl; (with_reducible repeat (first | refine blk_drewN ?_ _ | refine blk_drew ?_ | refine blk_alloc ?_ _)); refine blk_put (cs := #[.int .i64 0, .bool false, .string (⟨#[]⟩ : ByteArray), .int .i64 0, .bool false, .string (⟨#[]⟩ : ByteArray), .bool false, .int .i64 0, .int .i64 0, .int .i64 0, .int .i64 0, .int .i64 0, .int .i64 0, .int .i64 0, .int .i64 0, .int .i64 0, .int .i64 0]) ?_ 2 _ rfl; (with_reducible repeat (first | refine blk_drewN ?_ _ | refine blk_drew ?_ | refine blk_alloc ?_ _)); refine blk_put (cs := #[.int .i64 0, .bool false, .string (⟨#[]⟩ : ByteArray), .int .i64 0, .bool false, .string (⟨#[]⟩ : ByteArray), .bool false, .int .i64 0, .int .i64 0, .int .i64 0, .int .i64 0, .int .i64 0, .int .i64 0, .int .i64 0, .int .i64 0, .int .i64 0, .int .i64 0]) ?_ 1 _ rfl; (with_reducible repeat (first | refine blk_drewN ?_ _ | refine blk_drew ?_ | refine blk_alloc ?_ _)); refine blk_put (cs := #[.int .i64 0, .bool false, .string (⟨#[]⟩ : ByteArray), .int .i64 0, .bool false, .string (⟨#[]⟩ : ByteArray), .bool false, .int .i64 0, .int .i64 0, .int .i64 0, .int .i64 0, .int .i64 0, .int .i64 0, .int .i64 0, .int .i64 0, .int .i64 0, .int .i64 0]) ?_ 0 _ rfl; (with_reducible repeat (first | refine blk_drewN ?_ _ | refine blk_drew ?_ | refine blk_alloc ?_ _)); refine blk_far ?_ NB129_130.out _; (with_reducible repeat (first | refine blk_drewN ?_ _ | refine blk_drew ?_ | refine blk_alloc ?_ _)); refine blk_far ?_ NB129_130.out _; (with_reducible repeat (first | refine blk_drewN ?_ _ | refine blk_drew ?_ | refine blk_alloc ?_ _)); refine blk_far ?_ NB129_130.out _; (with_reducible repeat (first | refine blk_drewN ?_ _ | refine blk_drew ?_ | refine blk_alloc ?_ _)); exact BK129.out) Tryd.underlying27 rfl (by kernel_rfl)) rfl ?_
  exact ⟨by first | rfl | (simp [errW_none, errW_some] <;> rfl) | (simp [*, errW_none, errW_some] <;> rfl), by repeat (first | (with_reducible first | exact HB.out | apply below_alloc | apply pw_below_drewN | apply below_drew1 | refine below_set ?_ GE128.out | refine below_set ?_ GE129.out | refine below_set ?_ GE130.out) | exact HB.out)⟩

end Go.Proofs.YtgbehcahdgamoaaDoor.Fn
