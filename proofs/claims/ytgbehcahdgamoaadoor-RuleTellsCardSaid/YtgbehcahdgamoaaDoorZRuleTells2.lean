/- Part 2 of the texts for LRuleTells: contracts and plain laws that it leans on. -/
import Derived.Test.YtgbehcahdgamoaaDoorProg
import Derived.ProofKit
import Derived.OpenShut
import Derived.ShutString
import Derived.WalkKit
import Derived.Below
import Derived.Deep.Draws
import Derived.Deep.AppendLies
import Derived.Maps.AppendAt
import Derived.OwnWalk
import Derived.Laws.BytesArg
import Derived.Laws.MakeOwn
import Derived.Laws.OwnMore
import Derived.Deep.OwnRows
import Derived.Tactics
import Derived.Lib.ConvBytes
import Derived.Laws.Slices
import Derived.KernelRfl
import Derived.RowKit3
import Derived.Deep.LoopGhost
import Derived.Deep.QuietTactic
import Derived.BigQuiet
import Derived.WideLaws
import Derived.Deep.DeepCutAuto
import Derived.Deep.CutBlock
import Derived.Deep.RegionHeld3
import Derived.Laws.Rows
import Derived.Lib.AppendStr
import Derived.ArgAppend
import Derived.Laws.IdiomCopy
import Derived.OrdersHeld
import Derived.Laws.BitsLemmas
import Derived.RowKit
import Derived.Test.YtgbehcahdgamoaaDoorZRuleTells1
import Derived.Shelf.GgClosure.StringsIndexFunc
import Derived.Ground.GgwProg
import Derived.Shelf.GgClosure.StringsIndexFuncTop
import Derived.Shelf.Strings.FuncGrows
import Derived.Laws.RangeAny
import Derived.Laws.RangeString
namespace Go.Proofs.YtgbehcahdgamoaaDoor.Open
open Go.ChangeShapes Go.WideShapes Go.ChangeAt Go.RowKit
section
variable {H : Type} {enc : TypeId × Value → H} {w : World} {base : Nat} {spare : Nat → Bool} {held : Bool}
theorem c_int : Tryd.prog.cellsOf 3 = 1 := by kernel_rfl
theorem c_bool : Tryd.prog.cellsOf 4 = 1 := by kernel_rfl
theorem c_string : Tryd.prog.cellsOf 9 = 1 := by kernel_rfl
theorem c_kind : Tryd.prog.cellsOf 23 = 3 := by kernel_rfl
theorem c_change : Tryd.prog.cellsOf 25 = 5 := by kernel_rfl
theorem c_rule : Tryd.prog.cellsOf 27 = 17 := by kernel_rfl
def WfI (n : Int) : Prop := (Lit.int .i64 n).wf = true
theorem kind_of {fuel : Nat} {c0 c1 c2 : Value} {x : DataW H × List MemPlace} (h : DataW.trod enc Tryd.prog w base spare held fuel 23 [c0, c1, c2] = some x) :
    ∃ (o : Int) (d : Bool) (s : ByteArray), c0 = .int .i64 o ∧ c1 = .bool d ∧ c2 = .string s ∧ WfI o ∧ s.size ≤ maxLen := by
  obtain ⟨xs, n, _, hx, _, hlen, hg⟩ := DataW.trod_struct Tryd.underlying23 h
  match xs, hlen with
  | [y0, y1, y2], _ =>
    have h0 : DataW.trod enc Tryd.prog w base spare held n 3 [c0] = some y0 := by simpa [c_int] using hg 0 _ rfl
    have h1 : DataW.trod enc Tryd.prog w base spare held n 4 [c1] = some y1 := by simpa [c_bool] using hg 1 _ rfl
    have h2 : DataW.trod enc Tryd.prog w base spare held n 9 [c2] = some y2 := by simpa [c_string] using hg 2 _ rfl
    obtain ⟨o, e0, _, wo⟩ := DataW.trod_int Tryd.underlying3 h0
    obtain ⟨d, e1, _⟩ := DataW.trod_bool Tryd.underlying4 h1
    obtain ⟨s, e2, _, ws⟩ := DataW.trod_string Tryd.underlying9 h2
    simp at e0 e1 e2
    exact ⟨o, d, s, e0, e1, e2, wo, ws⟩
theorem change_of {fuel : Nat} {c0 c1 c2 c3 c4 : Value} {x : DataW H × List MemPlace} (h : DataW.trod enc Tryd.prog w base spare held fuel 25 [c0, c1, c2, c3, c4] = some x) :
    ∃ (n0 n1 n2 n3 n4 : Int), c0 = .int .i64 n0 ∧ c1 = .int .i64 n1 ∧ c2 = .int .i64 n2 ∧ c3 = .int .i64 n3 ∧ c4 = .int .i64 n4 ∧ WfI n0 ∧ WfI n1 ∧ WfI n2 ∧ WfI n3 ∧ WfI n4 := by
  obtain ⟨xs, n, _, hx, _, hlen, hg⟩ := DataW.trod_struct Tryd.underlying25 h
  match xs, hlen with
  | [y0, y1, y2, y3, y4], _ =>
    have h0 : DataW.trod enc Tryd.prog w base spare held n 3 [c0] = some y0 := by simpa [c_int] using hg 0 _ rfl
    have h1 : DataW.trod enc Tryd.prog w base spare held n 3 [c1] = some y1 := by simpa [c_int] using hg 1 _ rfl
    have h2 : DataW.trod enc Tryd.prog w base spare held n 3 [c2] = some y2 := by simpa [c_int] using hg 2 _ rfl
    have h3 : DataW.trod enc Tryd.prog w base spare held n 3 [c3] = some y3 := by simpa [c_int] using hg 3 _ rfl
    have h4 : DataW.trod enc Tryd.prog w base spare held n 3 [c4] = some y4 := by simpa [c_int] using hg 4 _ rfl
    obtain ⟨n0, e0, _, w0⟩ := DataW.trod_int Tryd.underlying3 h0
    obtain ⟨n1, e1, _, w1⟩ := DataW.trod_int Tryd.underlying3 h1
    obtain ⟨n2, e2, _, w2⟩ := DataW.trod_int Tryd.underlying3 h2
    obtain ⟨n3, e3, _, w3⟩ := DataW.trod_int Tryd.underlying3 h3
    obtain ⟨n4, e4, _, w4⟩ := DataW.trod_int Tryd.underlying3 h4
    simp at e0 e1 e2 e3 e4
    exact ⟨n0, n1, n2, n3, n4, e0, e1, e2, e3, e4, w0, w1, w2, w3, w4⟩
theorem open_change {r : Reach} {b0 : Nat} {v : Value} {d : DataW H} {p : List MemPlace} (hv : Value.okWide Tryd.prog w r b0 25 v) (h : DataW.Trod enc Tryd.prog w base spare held 25 v d p) :
    ∃ (c0 : Int) (c1 : Int) (c2 : Int) (c3 : Int) (c4 : Int), v = .agg #[.int .i64 c0, .int .i64 c1, .int .i64 c2, .int .i64 c3, .int .i64 c4] ∧ WfI c0 ∧ WfI c1 ∧ WfI c2 ∧ WfI c3 ∧ WfI c4 := by
  obtain ⟨cs, rfl, hsz⟩ := okWide_struct Tryd.underlying25 hv
  obtain ⟨l⟩ := cs
  match l, hsz.trans c_change with
  | [c0, c1, c2, c3, c4], _ =>
    obtain ⟨fuel, hf⟩ := h
    obtain ⟨n0, n1, n2, n3, n4, rfl, rfl, rfl, rfl, rfl, w0, w1, w2, w3, w4⟩ := change_of (c0 := c0) (c1 := c1) (c2 := c2) (c3 := c3) (c4 := c4) (by simpa [Value.cells] using hf)
    exact ⟨n0, n1, n2, n3, n4, rfl, w0, w1, w2, w3, w4⟩
theorem open_rule {r : Reach} {b0 : Nat} {v : Value} {d : DataW H} {p : List MemPlace} (hv : Value.okWide Tryd.prog w r b0 27 v) (h : DataW.Trod enc Tryd.prog w base spare held 27 v d p) :
    ∃ (s0 : Int) (s1 : Bool) (s2 : ByteArray) (d0 : Int) (d1 : Bool) (d2 : ByteArray) (bo : Bool) (a0 : Int) (a1 : Int) (a2 : Int) (a3 : Int) (a4 : Int) (e0 : Int) (e1 : Int) (e2 : Int) (e3 : Int) (e4 : Int), v = .agg #[.int .i64 s0, .bool s1, .string s2, .int .i64 d0, .bool d1, .string d2, .bool bo, .int .i64 a0, .int .i64 a1, .int .i64 a2, .int .i64 a3, .int .i64 a4, .int .i64 e0, .int .i64 e1, .int .i64 e2, .int .i64 e3, .int .i64 e4] ∧ (WfI s0 ∧ s2.size ≤ maxLen ∧ WfI d0 ∧ d2.size ≤ maxLen) ∧ (WfI a0 ∧ WfI a1 ∧ WfI a2 ∧ WfI a3 ∧ WfI a4) ∧ (WfI e0 ∧ WfI e1 ∧ WfI e2 ∧ WfI e3 ∧ WfI e4) := by
  obtain ⟨cs, rfl, hsz⟩ := okWide_struct Tryd.underlying27 hv
  obtain ⟨l⟩ := cs
  match l, hsz.trans c_rule with
  | [b0, b1, b2, b3, b4, b5, b6, b7, b8, b9, b10, b11, b12, b13, b14, b15, b16], _ =>
    obtain ⟨fuel, hf⟩ := h
    obtain ⟨xs, n, _, hx, _, hlen, hg⟩ := DataW.trod_struct Tryd.underlying27 hf
    match xs, hlen with
    | [y0, y1, y2, y3, y4], _ =>
      have h0 : DataW.trod enc Tryd.prog w base spare held n 23 [b0, b1, b2] = some y0 := by simpa [c_kind, Value.cells] using hg 0 _ rfl
      have h1 : DataW.trod enc Tryd.prog w base spare held n 23 [b3, b4, b5] = some y1 := by simpa [c_kind, Value.cells] using hg 1 _ rfl
      have h2 : DataW.trod enc Tryd.prog w base spare held n 4 [b6] = some y2 := by simpa [c_bool, Value.cells] using hg 2 _ rfl
      have h3 : DataW.trod enc Tryd.prog w base spare held n 25 [b7, b8, b9, b10, b11] = some y3 := by simpa [c_change, Value.cells] using hg 3 _ rfl
      have h4 : DataW.trod enc Tryd.prog w base spare held n 25 [b12, b13, b14, b15, b16] = some y4 := by simpa [c_change, Value.cells] using hg 4 _ rfl
      obtain ⟨s0, s1, s2, rfl, rfl, rfl, ws0, ws2⟩ := kind_of h0
      obtain ⟨d0, d1, d2, rfl, rfl, rfl, wd0, wd2⟩ := kind_of h1
      obtain ⟨bo, e2, _⟩ := DataW.trod_bool Tryd.underlying4 h2
      simp at e2
      subst e2
      obtain ⟨a0, a1, a2, a3, a4, rfl, rfl, rfl, rfl, rfl, wa⟩ := change_of h3
      obtain ⟨e0, e1, e2, e3, e4, rfl, rfl, rfl, rfl, rfl, we⟩ := change_of h4
      exact ⟨s0, s1, s2, d0, d1, d2, bo, a0, a1, a2, a3, a4, e0, e1, e2, e3, e4, rfl, ⟨ws0, ws2, wd0, wd2⟩, wa, we⟩
end
end Go.Proofs.YtgbehcahdgamoaaDoor.Open

namespace Go.Proofs.YtgbehcahdgamoaaDoor.Fn
open Go.RowKit Go.Proofs.YtgbehcahdgamoaaDoorW.PrintWords Go.Proofs.YtgbehcahdgamoaaDoorW.PrintLast Go.Proofs.YtgbehcahdgamoaaDoorW.PrintMore
set_option linter.unusedVariables false
set_option linter.unusedSimpArgs false
def errW : Option Int → Value
  | none => .nilIface
  | some c => .iface 0 (.int .i64 c)
theorem errW_none : errW none = .nilIface := rfl
theorem errW_some (c : Int) : errW (some c) = .iface 0 (.int .i64 c) := rfl
end Go.Proofs.YtgbehcahdgamoaaDoor.Fn

namespace Go.Proofs.YtgbehcahdgamoaaDoor.Fn
open Go.RowKit Go.Proofs.YtgbehcahdgamoaaDoorW.PrintWords
def lens : List Int := [31, 28, 31, 30, 31, 30, 31, 31, 30, 31, 30, 31]
def GL (w : World) : Prop := ∀ i, i < 12 → w.cell? ⟨0, i, none⟩ = some (.int .i64 (lens.getD i 0))
theorem GL.below {w w' : World} (h : GL w) (hb : Below w.heap.size w w') : GL w' := fun i hi => (hb.cell (p := ⟨0, i, none⟩) (World.block_lt_of_cell? _ _ (h i hi))).trans (h i hi)
end Go.Proofs.YtgbehcahdgamoaaDoor.Fn

namespace Go.Proofs.YtgbehcahdgamoaaDoor.Fn
open Go.RowKit Go.Proofs.YtgbehcahdgamoaaDoorW.PrintWords Go.Proofs.YtgbehcahdgamoaaDoorW.PrintLast Go.Proofs.YtgbehcahdgamoaaDoorW.PrintMore
set_option linter.unusedVariables false
set_option linter.unusedSimpArgs false
/-! ### civil_Leap: function 28 -/
def civil_Leap.f (a0 : Int) : Option (Bool) := if (Int.tmod a0 4) = 0 then (if (Int.tmod a0 100) = 0 then (some ((Int.tmod a0 400) == 0)) else (some true)) else (some false)
set_option maxHeartbeats 8000000 in
set_option maxRecDepth 100000 in
theorem civil_Leap.calls (a0 : Int) (r : Bool) (w : World) (h : civil_Leap.f a0 = some r) :
    Calls Tryd.prog 28 #[.int .i64 a0] w fun e w' => e = .returned (.bool r) ∧ Drawn0 w w' := by
  have H : (if (Int.tmod a0 4) = 0 then (if (Int.tmod a0 100) = 0 then (some ((Int.tmod a0 400) == 0)) else (some true)) else (some false)) = some r := h
  clear h
  by_cases c2 : (Int.tmod a0 4) = 0
  · rw [if_pos c2] at H
    have c2b0 : ((Int.tmod a0 4) == 0) = true := beq_iff_eq.mpr c2
    have c2b1 : ((Int.tmod a0 4) != 0) = false := bne_eq_false_iff_eq.mpr c2
    clear c2
    by_cases c3 : (Int.tmod a0 100) = 0
    · rw [if_pos c3] at H
      have c3b0 : ((Int.tmod a0 100) == 0) = true := beq_iff_eq.mpr c3
      have c3b1 : ((Int.tmod a0 100) != 0) = false := bne_eq_false_iff_eq.mpr c3
      clear c3
      obtain rfl := Option.some.inj H
      go_enter Tryd.func28, Tryd.ntmps28
      go_wp2
      go_ret
      exact ⟨by first | rfl | (simp; done) | (simp [*]; done), by repeat (first | exact Drawn0.refl _ | apply Drawn0.step)⟩
    · rw [if_neg c3] at H
      have c3b0 : ((Int.tmod a0 100) == 0) = false := beq_eq_false_iff_ne.mpr c3
      have c3b1 : ((Int.tmod a0 100) != 0) = true := bne_iff_ne.mpr c3
      obtain rfl := Option.some.inj H
      go_enter Tryd.func28, Tryd.ntmps28
      go_wp2
      go_ret
      exact ⟨by first | rfl | (simp; done) | (simp [*]; done), by repeat (first | exact Drawn0.refl _ | apply Drawn0.step)⟩
  · rw [if_neg c2] at H
    have c2b0 : ((Int.tmod a0 4) == 0) = false := beq_eq_false_iff_ne.mpr c2
    have c2b1 : ((Int.tmod a0 4) != 0) = true := bne_iff_ne.mpr c2
    obtain rfl := Option.some.inj H
    go_enter Tryd.func28, Tryd.ntmps28
    go_wp2
    go_ret
    exact ⟨by first | rfl | (simp; done) | (simp [*]; done), by repeat (first | exact Drawn0.refl _ | apply Drawn0.step)⟩
end Go.Proofs.YtgbehcahdgamoaaDoor.Fn

namespace Go.Proofs.YtgbehcahdgamoaaDoor.Fn
open Go.RowKit Go.Proofs.YtgbehcahdgamoaaDoorW.PrintWords Go.Proofs.YtgbehcahdgamoaaDoorW.PrintLast
def civil_Length.f (y m : Int) : Option Int := if m < 1 then some 0 else if 12 < m then some 0 else if m = 2 then (civil_Leap.f y).bind fun b => some (if b = true then 29 else 28) else some (lens.getD (m - 1).toNat 0)
theorem civil_Length.calls (a0 a1 r : Int) (w : World) (hG : GL w) (h : civil_Length.f a0 a1 = some r) :
    Calls Tryd.prog 22 #[.int .i64 a0, .int .i64 a1] w fun e w' => e = .returned (.int .i64 r) ∧ Below w.heap.size w w' := by
  have HG := Aside0.mk hG
  clear hG
  unfold civil_Length.f at h
  by_cases h1 : a1 < 1
  · rw [if_pos h1] at h
    obtain rfl := Option.some.inj h
    go_enter Tryd.func22, Tryd.ntmps22
    have hd : decide (a1 < 1) = true := by simpa using h1
    go_wp2
    go_ret
    exact ⟨rfl, Below.refl _ _⟩
  · rw [if_neg h1] at h
    have hd : decide (a1 < 1) = false := by simpa using h1
    by_cases h2 : 12 < a1
    · rw [if_pos h2] at h
      obtain rfl := Option.some.inj h
      go_enter Tryd.func22, Tryd.ntmps22
      have hd2 : decide (12 < a1) = true := by simpa using h2
      go_wp2
      go_ret
      exact ⟨rfl, Below.refl _ _⟩
    · rw [if_neg h2] at h
      have hd2 : decide (12 < a1) = false := by simpa using h2
      by_cases h3 : a1 = 2
      · subst h3
        rw [if_pos rfl] at h
        obtain ⟨b, hb, h⟩ := Option.bind_eq_some_iff.mp h
        have HBf := Aside0.mk hb
        clear hb
        cases b
        · obtain rfl : 28 = r := by simpa using h
          clear h
          have hc := HG.out 1 (by omega)
          go_enter Tryd.func22, Tryd.ntmps22
          go_wp2_with (go_at_call 28; refine (civil_Leap.calls a0 false _ HBf.out).mono ?_; rintro e w' ⟨rfl, ⟨nd, rfl⟩⟩)
          go_ret
          exact ⟨rfl, pw_below_drewN (Below.refl _ _) _⟩
        · obtain rfl : 29 = r := by simpa using h
          clear h
          go_enter Tryd.func22, Tryd.ntmps22
          go_wp2_with (go_at_call 28; refine (civil_Leap.calls a0 true _ HBf.out).mono ?_; rintro e w' ⟨rfl, ⟨nd, rfl⟩⟩)
          go_ret
          exact ⟨rfl, pw_below_drewN (Below.refl _ _) _⟩
      · rw [if_neg h3] at h
        obtain rfl := Option.some.inj h
        clear h
        have h4 : (a1 == 2) = false := by simpa using h3
        have hc := HG.out (a1.toNat - 1) (by omega)
        rw [show (a1 - 1).toNat = a1.toNat - 1 from by omega]
        have j0 : 1 ≤ a1 := by omega
        have j1 : a1 ≤ 12 := by omega
        clear h3 h1 h2
        go_enter Tryd.func22, Tryd.ntmps22
        go_wp2
        go_ret
        exact ⟨rfl, Below.refl _ _⟩
end Go.Proofs.YtgbehcahdgamoaaDoor.Fn

namespace Go.Proofs.YtgbehcahdgamoaaDoor.Fn
open Go.RowKit Go.Proofs.YtgbehcahdgamoaaDoorW.PrintWords Go.Proofs.YtgbehcahdgamoaaDoorW.PrintLast Go.Proofs.YtgbehcahdgamoaaDoorW.PrintMore
set_option linter.unusedVariables false
set_option linter.unusedSimpArgs false
/-! ### civil_may: function 43 -/
def civil_may.f (a0 : Int) : Option (Bool) := if a0 ≥ (-2147483648) then (some (decide (a0 ≤ 2147483647))) else (some false)
set_option maxHeartbeats 8000000 in
set_option maxRecDepth 100000 in
theorem civil_may.calls (a0 : Int) (r : Bool) (w : World) (h : civil_may.f a0 = some r) :
    Calls Tryd.prog 43 #[.int .i64 a0] w fun e w' => e = .returned (.bool r) ∧ Drawn0 w w' := by
  have H : (if a0 ≥ (-2147483648) then (some (decide (a0 ≤ 2147483647))) else (some false)) = some r := h
  clear h
  by_cases c2 : a0 ≥ (-2147483648)
  · rw [if_pos c2] at H
    have c2b0 : decide ((-2147483648) ≤ a0) = true := decide_eq_true c2
    clear c2
    obtain rfl := Option.some.inj H
    go_enter Tryd.func43, Tryd.ntmps43
    go_wp2
    go_ret
    exact ⟨by first | rfl | (simp; done) | (simp [*]; done), by repeat (first | exact Drawn0.refl _ | apply Drawn0.step)⟩
  · rw [if_neg c2] at H
    have c2b0 : decide ((-2147483648) ≤ a0) = false := decide_eq_false c2
    clear c2
    obtain rfl := Option.some.inj H
    go_enter Tryd.func43, Tryd.ntmps43
    go_wp2
    go_ret
    exact ⟨by first | rfl | (simp; done) | (simp [*]; done), by repeat (first | exact Drawn0.refl _ | apply Drawn0.step)⟩
end Go.Proofs.YtgbehcahdgamoaaDoor.Fn

namespace Go.Proofs.YtgbehcahdgamoaaDoor.Fn
open Go.RowKit Go.Proofs.YtgbehcahdgamoaaDoorW.PrintWords Go.Proofs.YtgbehcahdgamoaaDoorW.PrintLast Go.Proofs.YtgbehcahdgamoaaDoorW.PrintMore
set_option linter.unusedVariables false
set_option linter.unusedSimpArgs false
/-! ### civil_Right: function 44 -/
def civil_Right.f (a0 : Int) (a1 : Int) (a2 : Int) : Option (Bool) := (civil_may.f a0).bind fun t104 => (if t104 = true then (if a2 ≥ 1 then ((civil_Length.f a0 a1).bind fun t105 => (some (decide (a2 ≤ t105)))) else (some false)) else (some false))
set_option maxHeartbeats 8000000 in
set_option maxRecDepth 100000 in
theorem civil_Right.calls (a0 : Int) (a1 : Int) (a2 : Int) (r : Bool) (w : World) (hG : GL w) (h : civil_Right.f a0 a1 a2 = some r) :
    Calls Tryd.prog 44 #[.int .i64 a0, .int .i64 a1, .int .i64 a2] w fun e w' => e = .returned (.bool r) ∧ Below w.heap.size w w' := by
  have HG := Aside0.mk hG
  clear hG
  have HB := Aside0.mk (Below.refl w.heap.size w)
  have H : ((civil_may.f a0).bind fun t104 => (if t104 = true then (if a2 ≥ 1 then ((civil_Length.f a0 a1).bind fun t105 => (some (decide (a2 ≤ t105)))) else (some false)) else (some false))) = some r := h
  clear h
  replace H := Option.bind_eq_some_iff.mp H
  obtain ⟨t104, A40, H⟩ := H
  replace H : (if t104 = true then (if a2 ≥ 1 then ((civil_Length.f a0 a1).bind fun t105 => (some (decide (a2 ≤ t105)))) else (some false)) else (some false)) = some r := H
  have A4 := Aside0.mk A40
  clear A40
  by_cases c5 : t104 = true
  · subst c5
    have H1 : (if a2 ≥ 1 then ((civil_Length.f a0 a1).bind fun t105 => (some (decide (a2 ≤ t105)))) else (some false)) = some r := by rw [if_pos rfl] at H; exact H
    clear H
    have H := H1
    clear H1
    by_cases c6 : a2 ≥ 1
    · rw [if_pos c6] at H
      have c6b0 : decide (1 ≤ a2) = true := decide_eq_true c6
      clear c6
      replace H := Option.bind_eq_some_iff.mp H
      obtain ⟨t105, A70, H⟩ := H
      replace H : (some (decide (a2 ≤ t105))) = some r := H
      have A7 := Aside0.mk A70
      clear A70
      obtain rfl := Option.some.inj H
      go_enter Tryd.func44, Tryd.ntmps44
      go_wp2_with (first | ((with_reducible refine gate_callee (f := 43) rfl ?_); refine goesL_ (some 8) rfl rfl Tryd.func43 (by kernel_rfl) rfl #[.int .i64 a0] rfl (by (try simp only [List.map_toArray, List.map_cons, List.map_nil]); first | done | rfl | (simp only [List.length_drop, List.length_take]; rfl)) ?_; (with_reducible refine (civil_may.calls a0 true _ A4.out).mono ?_); rintro e w' ⟨rfl, ⟨nd, rfl⟩⟩; refine ⟨_, rfl, ?_⟩) | (go_at_call 22; (with_reducible refine (civil_Length.calls a0 a1 t105 _ ?side1 A7.out).mono ?_); (case side1 => exact GL.below HG.out (by repeat (first | (with_reducible first | exact HB.out | apply below_alloc | apply pw_below_drewN | apply below_drew1) | exact HB.out))); rintro e w8 ⟨rfl, hb⟩; have n0_ := Aside0.mk (below_step (by repeat (first | (with_reducible first | exact HB.out | apply below_alloc | apply pw_below_drewN | apply below_drew1) | exact HB.out)) hb); clear HB; have HB := n0_; clear n0_; (try clear hb); (try clear hb2); (try clear hk); (try clear hi)))
      go_ret
      exact ⟨by first | rfl | (simp [errW_none, errW_some] <;> rfl) | (simp [*, errW_none, errW_some] <;> rfl), by repeat (first | (with_reducible first | exact HB.out | apply below_alloc | apply pw_below_drewN | apply below_drew1) | exact HB.out)⟩
    · rw [if_neg c6] at H
      have c6b0 : decide (1 ≤ a2) = false := decide_eq_false c6
      clear c6
      obtain rfl := Option.some.inj H
      go_enter Tryd.func44, Tryd.ntmps44
      go_wp2_with (first | ((with_reducible refine gate_callee (f := 43) rfl ?_); refine goesL_ (some 8) rfl rfl Tryd.func43 (by kernel_rfl) rfl #[.int .i64 a0] rfl (by (try simp only [List.map_toArray, List.map_cons, List.map_nil]); first | done | rfl | (simp only [List.length_drop, List.length_take]; rfl)) ?_; (with_reducible refine (civil_may.calls a0 true _ A4.out).mono ?_); rintro e w' ⟨rfl, ⟨nd, rfl⟩⟩; refine ⟨_, rfl, ?_⟩))
      go_ret
      exact ⟨by first | rfl | (simp [errW_none, errW_some] <;> rfl) | (simp [*, errW_none, errW_some] <;> rfl), by repeat (first | (with_reducible first | exact HB.out | apply below_alloc | apply pw_below_drewN | apply below_drew1) | exact HB.out)⟩
  · replace c5 := Bool.eq_false_iff.mpr c5
    subst c5
    have H1 : (some false) = some r := by rw [if_neg (show ¬ (false = true) by decide)] at H; exact H
    clear H
    have H := H1
    clear H1
    obtain rfl := Option.some.inj H
    go_enter Tryd.func44, Tryd.ntmps44
    go_wp2_with (first | ((with_reducible refine gate_callee (f := 43) rfl ?_); refine goesL_ (some 8) rfl rfl Tryd.func43 (by kernel_rfl) rfl #[.int .i64 a0] rfl (by (try simp only [List.map_toArray, List.map_cons, List.map_nil]); first | done | rfl | (simp only [List.length_drop, List.length_take]; rfl)) ?_; (with_reducible refine (civil_may.calls a0 false _ A4.out).mono ?_); rintro e w' ⟨rfl, ⟨nd, rfl⟩⟩; refine ⟨_, rfl, ?_⟩))
    go_ret
    exact ⟨by first | rfl | (simp [errW_none, errW_some] <;> rfl) | (simp [*, errW_none, errW_some] <;> rfl), by repeat (first | (with_reducible first | exact HB.out | apply below_alloc | apply pw_below_drewN | apply below_drew1) | exact HB.out)⟩
end Go.Proofs.YtgbehcahdgamoaaDoor.Fn

namespace Go.Proofs.YtgbehcahdgamoaaDoor.Fn
open Go.RowKit Go.Proofs.YtgbehcahdgamoaaDoorW.PrintWords Go.Proofs.YtgbehcahdgamoaaDoorW.PrintLast Go.Proofs.YtgbehcahdgamoaaDoorW.PrintMore
set_option linter.unusedVariables false
set_option linter.unusedSimpArgs false
/-! ### number_Div: function 34 -/
def number_Div.f (a0 : Int) (a1 : Int) : Option (Int × Int × Bool) := if a1 < 1 then (some (0, 0, false)) else (if a1 = 0 then (none) else (if (Int.tmod a0 a1) < 0 then (some (wrap64 ((wrap64 (Int.tdiv a0 a1)) - 1), wrap64 ((Int.tmod a0 a1) + a1), true)) else (some (wrap64 (Int.tdiv a0 a1), Int.tmod a0 a1, true))))
set_option maxHeartbeats 8000000 in
set_option maxRecDepth 100000 in
theorem number_Div.calls (a0 : Int) (a1 : Int) (r1 : Int) (r2 : Int) (r3 : Bool) (w : World) (h : number_Div.f a0 a1 = some (r1, r2, r3)) :
    Calls Tryd.prog 34 #[.int .i64 a0, .int .i64 a1] w fun e w' => e = .returned (.tuple #[.int .i64 r1, .int .i64 r2, .bool r3]) ∧ Drawn0 w w' := by
  have H : (if a1 < 1 then (some (0, 0, false)) else (if a1 = 0 then (none) else (if (Int.tmod a0 a1) < 0 then (some (wrap64 ((wrap64 (Int.tdiv a0 a1)) - 1), wrap64 ((Int.tmod a0 a1) + a1), true)) else (some (wrap64 (Int.tdiv a0 a1), Int.tmod a0 a1, true))))) = some (r1, r2, r3) := h
  clear h
  by_cases c3 : a1 < 1
  · rw [if_pos c3] at H
    have c3b0 : decide (a1 < 1) = true := decide_eq_true c3
    clear c3
    simp only [Option.some.injEq, Prod.mk.injEq] at H
    obtain ⟨rfl, rfl, rfl⟩ := H
    go_enter Tryd.func34, Tryd.ntmps34
    go_wp2
    repeat (go_quiet (fail); try go_wp2)
    go_ret3
    exact ⟨by first | rfl | (simp; done) | (simp [*]; done), by repeat (first | exact Drawn0.refl _ | apply Drawn0.step)⟩
  · rw [if_neg c3] at H
    have c3b0 : decide (a1 < 1) = false := decide_eq_false c3
    clear c3
    by_cases c4 : a1 = 0
    · rw [if_pos c4] at H
      exact absurd H (by simp)
    · rw [if_neg c4] at H
      have c4b0 : (a1 == 0) = false := beq_eq_false_iff_ne.mpr c4
      have c4b1 : (a1 != 0) = true := bne_iff_ne.mpr c4
      by_cases c5 : (Int.tmod a0 a1) < 0
      · rw [if_pos c5] at H
        have c5b0 : decide ((Int.tmod a0 a1) < 0) = true := decide_eq_true c5
        clear c5
        simp only [Option.some.injEq, Prod.mk.injEq] at H
        obtain ⟨rfl, rfl, rfl⟩ := H
        go_enter Tryd.func34, Tryd.ntmps34
        go_wp2
        repeat (go_quiet (fail); try go_wp2)
        go_ret3
        exact ⟨by first | rfl | (simp; done) | (simp [*]; done), by repeat (first | exact Drawn0.refl _ | apply Drawn0.step)⟩
      · rw [if_neg c5] at H
        have c5b0 : decide ((Int.tmod a0 a1) < 0) = false := decide_eq_false c5
        clear c5
        simp only [Option.some.injEq, Prod.mk.injEq] at H
        obtain ⟨rfl, rfl, rfl⟩ := H
        go_enter Tryd.func34, Tryd.ntmps34
        go_wp2
        repeat (go_quiet (fail); try go_wp2)
        go_ret3
        exact ⟨by first | rfl | (simp; done) | (simp [*]; done), by repeat (first | exact Drawn0.refl _ | apply Drawn0.step)⟩
end Go.Proofs.YtgbehcahdgamoaaDoor.Fn

namespace Go.Proofs.YtgbehcahdgamoaaDoor.Fn
open Go.RowKit Go.Proofs.YtgbehcahdgamoaaDoorW.PrintWords Go.Proofs.YtgbehcahdgamoaaDoorW.PrintLast Go.Proofs.YtgbehcahdgamoaaDoorW.PrintMore
set_option linter.unusedVariables false
set_option linter.unusedSimpArgs false
/-! ### civil_Days: function 24 -/
def civil_Days.f (a0 : Int) (a1 : Int) (a2 : Int) : Option (Int × Int) := (civil_Right.f a0 a1 a2).bind fun t106 => (if t106 = true then (if (wrap64 (a1 - 3)) < 0 then ((number_Div.f (wrap64 (a0 - 1)) 400).bind fun bt107 => (some (wrap64 ((wrap64 ((wrap64 ((wrap64 ((wrap64 ((wrap64 ((wrap64 ((wrap64 (bt107.1 * 146097)) + (wrap64 (bt107.2.1 * 365)))) + (wrap64 (Int.tdiv bt107.2.1 4)))) - (wrap64 (Int.tdiv bt107.2.1 100)))) + (wrap64 (Int.tdiv (wrap64 ((wrap64 (153 * (wrap64 ((wrap64 (a1 - 3)) + 12)))) + 2)) 5)))) + a2)) - 1)) - 719468), 0))) else ((number_Div.f a0 400).bind fun bt110 => (some (wrap64 ((wrap64 ((wrap64 ((wrap64 ((wrap64 ((wrap64 ((wrap64 ((wrap64 (bt110.1 * 146097)) + (wrap64 (bt110.2.1 * 365)))) + (wrap64 (Int.tdiv bt110.2.1 4)))) - (wrap64 (Int.tdiv bt110.2.1 100)))) + (wrap64 (Int.tdiv (wrap64 ((wrap64 (153 * (wrap64 (a1 - 3)))) + 2)) 5)))) + a2)) - 1)) - 719468), 0)))) else (some (0, 1)))
set_option maxHeartbeats 8000000 in
set_option maxRecDepth 100000 in
theorem civil_Days.calls (a0 : Int) (a1 : Int) (a2 : Int) (r1 : Int) (r2 : Int) (w : World) (hG : GL w) (h : civil_Days.f a0 a1 a2 = some (r1, r2)) :
    Calls Tryd.prog 24 #[.int .i64 a0, .int .i64 a1, .int .i64 a2] w fun e w' => e = .returned (.tuple #[.int .i64 r1, .int .i64 r2]) ∧ Below w.heap.size w w' := by
  have HG := Aside0.mk hG
  clear hG
  have HB := Aside0.mk (Below.refl w.heap.size w)
  have H : ((civil_Right.f a0 a1 a2).bind fun t106 => (if t106 = true then (if (wrap64 (a1 - 3)) < 0 then ((number_Div.f (wrap64 (a0 - 1)) 400).bind fun bt107 => (some (wrap64 ((wrap64 ((wrap64 ((wrap64 ((wrap64 ((wrap64 ((wrap64 ((wrap64 (bt107.1 * 146097)) + (wrap64 (bt107.2.1 * 365)))) + (wrap64 (Int.tdiv bt107.2.1 4)))) - (wrap64 (Int.tdiv bt107.2.1 100)))) + (wrap64 (Int.tdiv (wrap64 ((wrap64 (153 * (wrap64 ((wrap64 (a1 - 3)) + 12)))) + 2)) 5)))) + a2)) - 1)) - 719468), 0))) else ((number_Div.f a0 400).bind fun bt110 => (some (wrap64 ((wrap64 ((wrap64 ((wrap64 ((wrap64 ((wrap64 ((wrap64 ((wrap64 (bt110.1 * 146097)) + (wrap64 (bt110.2.1 * 365)))) + (wrap64 (Int.tdiv bt110.2.1 4)))) - (wrap64 (Int.tdiv bt110.2.1 100)))) + (wrap64 (Int.tdiv (wrap64 ((wrap64 (153 * (wrap64 (a1 - 3)))) + 2)) 5)))) + a2)) - 1)) - 719468), 0)))) else (some (0, 1)))) = some (r1, r2) := h
  clear h
  replace H := Option.bind_eq_some_iff.mp H
  obtain ⟨t106, A40, H⟩ := H
  replace H : (if t106 = true then (if (wrap64 (a1 - 3)) < 0 then ((number_Div.f (wrap64 (a0 - 1)) 400).bind fun bt107 => (some (wrap64 ((wrap64 ((wrap64 ((wrap64 ((wrap64 ((wrap64 ((wrap64 ((wrap64 (bt107.1 * 146097)) + (wrap64 (bt107.2.1 * 365)))) + (wrap64 (Int.tdiv bt107.2.1 4)))) - (wrap64 (Int.tdiv bt107.2.1 100)))) + (wrap64 (Int.tdiv (wrap64 ((wrap64 (153 * (wrap64 ((wrap64 (a1 - 3)) + 12)))) + 2)) 5)))) + a2)) - 1)) - 719468), 0))) else ((number_Div.f a0 400).bind fun bt110 => (some (wrap64 ((wrap64 ((wrap64 ((wrap64 ((wrap64 ((wrap64 ((wrap64 ((wrap64 (bt110.1 * 146097)) + (wrap64 (bt110.2.1 * 365)))) + (wrap64 (Int.tdiv bt110.2.1 4)))) - (wrap64 (Int.tdiv bt110.2.1 100)))) + (wrap64 (Int.tdiv (wrap64 ((wrap64 (153 * (wrap64 (a1 - 3)))) + 2)) 5)))) + a2)) - 1)) - 719468), 0)))) else (some (0, 1))) = some (r1, r2) := H
  have A4 := Aside0.mk A40
  clear A40
  by_cases c5 : t106 = true
  · subst c5
    have H1 : (if (wrap64 (a1 - 3)) < 0 then ((number_Div.f (wrap64 (a0 - 1)) 400).bind fun bt107 => (some (wrap64 ((wrap64 ((wrap64 ((wrap64 ((wrap64 ((wrap64 ((wrap64 ((wrap64 (bt107.1 * 146097)) + (wrap64 (bt107.2.1 * 365)))) + (wrap64 (Int.tdiv bt107.2.1 4)))) - (wrap64 (Int.tdiv bt107.2.1 100)))) + (wrap64 (Int.tdiv (wrap64 ((wrap64 (153 * (wrap64 ((wrap64 (a1 - 3)) + 12)))) + 2)) 5)))) + a2)) - 1)) - 719468), 0))) else ((number_Div.f a0 400).bind fun bt110 => (some (wrap64 ((wrap64 ((wrap64 ((wrap64 ((wrap64 ((wrap64 ((wrap64 ((wrap64 (bt110.1 * 146097)) + (wrap64 (bt110.2.1 * 365)))) + (wrap64 (Int.tdiv bt110.2.1 4)))) - (wrap64 (Int.tdiv bt110.2.1 100)))) + (wrap64 (Int.tdiv (wrap64 ((wrap64 (153 * (wrap64 (a1 - 3)))) + 2)) 5)))) + a2)) - 1)) - 719468), 0)))) = some (r1, r2) := by rw [if_pos rfl] at H; exact H
    clear H
    have H := H1
    clear H1
    by_cases c6 : (wrap64 (a1 - 3)) < 0
    · rw [if_pos c6] at H
      have c6b0 : decide ((wrap64 (a1 - 3)) < 0) = true := decide_eq_true c6
      clear c6
      replace H := Option.bind_eq_some_iff.mp H
      obtain ⟨⟨t107, t108, t109⟩, A70, H⟩ := H
      replace H : (some (wrap64 ((wrap64 ((wrap64 ((wrap64 ((wrap64 ((wrap64 ((wrap64 ((wrap64 (t107 * 146097)) + (wrap64 (t108 * 365)))) + (wrap64 (Int.tdiv t108 4)))) - (wrap64 (Int.tdiv t108 100)))) + (wrap64 (Int.tdiv (wrap64 ((wrap64 (153 * (wrap64 ((wrap64 (a1 - 3)) + 12)))) + 2)) 5)))) + a2)) - 1)) - 719468), 0)) = some (r1, r2) := H
      have A7 := Aside0.mk A70
      clear A70
      simp only [Option.some.injEq, Prod.mk.injEq] at H
      obtain ⟨rfl, rfl⟩ := H
      go_enter Tryd.func24, Tryd.ntmps24
      go_wp2_with (first | ((with_reducible refine gate_callee (f := 44) rfl ?_); refine goesL_ (some 16) rfl rfl Tryd.func44 (by kernel_rfl) rfl #[.int .i64 a0, .int .i64 a1, .int .i64 a2] rfl (by (try simp only [List.map_toArray, List.map_cons, List.map_nil]); first | done | rfl | (simp only [List.length_drop, List.length_take]; rfl)) ?_; (with_reducible refine (civil_Right.calls a0 a1 a2 true _ ?side1 A4.out).mono ?_); (case side1 => exact GL.below HG.out (by repeat (first | (with_reducible first | exact HB.out | apply below_alloc | apply pw_below_drewN | apply below_drew1) | exact HB.out))); rintro e w8 ⟨rfl, hb⟩; refine ⟨_, rfl, ?_⟩; have n0_ := Aside0.mk (below_step (by repeat (first | (with_reducible first | exact HB.out | apply below_alloc | apply pw_below_drewN | apply below_drew1) | exact HB.out)) hb); clear HB; have HB := n0_; clear n0_; (try clear hb); (try clear hb2); (try clear hk); (try clear hi)) | ((with_reducible refine gate_callee (f := 34) rfl ?_); refine goesL_ (some 29) rfl rfl Tryd.func34 (by kernel_rfl) rfl #[.int .i64 (wrap64 (a0 - 1)), .int .i64 400] rfl (by (try simp only [List.map_toArray, List.map_cons, List.map_nil]); first | done | rfl | (simp only [List.length_drop, List.length_take]; rfl)) ?_; (with_reducible refine (number_Div.calls (wrap64 (a0 - 1)) 400 t107 t108 t109 _ A7.out).mono ?_); rintro e w' ⟨rfl, ⟨nd, rfl⟩⟩; refine ⟨_, rfl, ?_⟩))
      go_ret2
      exact ⟨by first | rfl | (simp [errW_none, errW_some] <;> rfl) | (simp [*, errW_none, errW_some] <;> rfl), by repeat (first | (with_reducible first | exact HB.out | apply below_alloc | apply pw_below_drewN | apply below_drew1) | exact HB.out)⟩
    · rw [if_neg c6] at H
      have c6b0 : decide ((wrap64 (a1 - 3)) < 0) = false := decide_eq_false c6
      clear c6
      replace H := Option.bind_eq_some_iff.mp H
      obtain ⟨⟨t110, t111, t112⟩, A90, H⟩ := H
      replace H : (some (wrap64 ((wrap64 ((wrap64 ((wrap64 ((wrap64 ((wrap64 ((wrap64 ((wrap64 (t110 * 146097)) + (wrap64 (t111 * 365)))) + (wrap64 (Int.tdiv t111 4)))) - (wrap64 (Int.tdiv t111 100)))) + (wrap64 (Int.tdiv (wrap64 ((wrap64 (153 * (wrap64 (a1 - 3)))) + 2)) 5)))) + a2)) - 1)) - 719468), 0)) = some (r1, r2) := H
      have A9 := Aside0.mk A90
      clear A90
      simp only [Option.some.injEq, Prod.mk.injEq] at H
      obtain ⟨rfl, rfl⟩ := H
      go_enter Tryd.func24, Tryd.ntmps24
      go_wp2_with (first | ((with_reducible refine gate_callee (f := 44) rfl ?_); refine goesL_ (some 16) rfl rfl Tryd.func44 (by kernel_rfl) rfl #[.int .i64 a0, .int .i64 a1, .int .i64 a2] rfl (by (try simp only [List.map_toArray, List.map_cons, List.map_nil]); first | done | rfl | (simp only [List.length_drop, List.length_take]; rfl)) ?_; (with_reducible refine (civil_Right.calls a0 a1 a2 true _ ?side1 A4.out).mono ?_); (case side1 => exact GL.below HG.out (by repeat (first | (with_reducible first | exact HB.out | apply below_alloc | apply pw_below_drewN | apply below_drew1) | exact HB.out))); rintro e w10 ⟨rfl, hb⟩; refine ⟨_, rfl, ?_⟩; have n0_ := Aside0.mk (below_step (by repeat (first | (with_reducible first | exact HB.out | apply below_alloc | apply pw_below_drewN | apply below_drew1) | exact HB.out)) hb); clear HB; have HB := n0_; clear n0_; (try clear hb); (try clear hb2); (try clear hk); (try clear hi)) | ((with_reducible refine gate_callee (f := 34) rfl ?_); refine goesL_ (some 29) rfl rfl Tryd.func34 (by kernel_rfl) rfl #[.int .i64 a0, .int .i64 400] rfl (by (try simp only [List.map_toArray, List.map_cons, List.map_nil]); first | done | rfl | (simp only [List.length_drop, List.length_take]; rfl)) ?_; (with_reducible refine (number_Div.calls a0 400 t110 t111 t112 _ A9.out).mono ?_); rintro e w' ⟨rfl, ⟨nd, rfl⟩⟩; refine ⟨_, rfl, ?_⟩))
      go_ret2
      exact ⟨by first | rfl | (simp [errW_none, errW_some] <;> rfl) | (simp [*, errW_none, errW_some] <;> rfl), by repeat (first | (with_reducible first | exact HB.out | apply below_alloc | apply pw_below_drewN | apply below_drew1) | exact HB.out)⟩
  · replace c5 := Bool.eq_false_iff.mpr c5
    subst c5
    have H1 : (some (0, 1)) = some (r1, r2) := by rw [if_neg (show ¬ (false = true) by decide)] at H; exact H
    clear H
    have H := H1
    clear H1
    simp only [Option.some.injEq, Prod.mk.injEq] at H
    obtain ⟨rfl, rfl⟩ := H
    go_enter Tryd.func24, Tryd.ntmps24
    go_wp2_with (first | ((with_reducible refine gate_callee (f := 44) rfl ?_); refine goesL_ (some 16) rfl rfl Tryd.func44 (by kernel_rfl) rfl #[.int .i64 a0, .int .i64 a1, .int .i64 a2] rfl (by (try simp only [List.map_toArray, List.map_cons, List.map_nil]); first | done | rfl | (simp only [List.length_drop, List.length_take]; rfl)) ?_; (with_reducible refine (civil_Right.calls a0 a1 a2 false _ ?side1 A4.out).mono ?_); (case side1 => exact GL.below HG.out (by repeat (first | (with_reducible first | exact HB.out | apply below_alloc | apply pw_below_drewN | apply below_drew1) | exact HB.out))); rintro e w11 ⟨rfl, hb⟩; refine ⟨_, rfl, ?_⟩; have n0_ := Aside0.mk (below_step (by repeat (first | (with_reducible first | exact HB.out | apply below_alloc | apply pw_below_drewN | apply below_drew1) | exact HB.out)) hb); clear HB; have HB := n0_; clear n0_; (try clear hb); (try clear hb2); (try clear hk); (try clear hi)))
    go_ret2
    exact ⟨by first | rfl | (simp [errW_none, errW_some] <;> rfl) | (simp [*, errW_none, errW_some] <;> rfl), by repeat (first | (with_reducible first | exact HB.out | apply below_alloc | apply pw_below_drewN | apply below_drew1) | exact HB.out)⟩
end Go.Proofs.YtgbehcahdgamoaaDoor.Fn

namespace Go.Proofs.YtgbehcahdgamoaaDoor.Fn
open Go.RowKit Go.Proofs.YtgbehcahdgamoaaDoorW.PrintWords Go.Proofs.YtgbehcahdgamoaaDoorW.PrintLast Go.Proofs.YtgbehcahdgamoaaDoorW.PrintMore
set_option linter.unusedVariables false
set_option linter.unusedSimpArgs false
/-! ### civil_Weekday: function 23 -/
def civil_Weekday.f (a0 : Int) : Option (Int) := (number_Div.f a0 7).bind fun bt101 => (some (Int.tmod (wrap64 (bt101.2.1 + 4)) 7))
set_option maxHeartbeats 8000000 in
set_option maxRecDepth 100000 in
theorem civil_Weekday.calls (a0 : Int) (r : Int) (w : World) (h : civil_Weekday.f a0 = some r) :
    Calls Tryd.prog 23 #[.int .i64 a0] w fun e w' => e = .returned (.int .i64 r) ∧ Drawn0 w w' := by
  have H : ((number_Div.f a0 7).bind fun bt101 => (some (Int.tmod (wrap64 (bt101.2.1 + 4)) 7))) = some r := h
  clear h
  replace H := Option.bind_eq_some_iff.mp H
  obtain ⟨⟨t101, t102, t103⟩, A20, H⟩ := H
  replace H : (some (Int.tmod (wrap64 (t102 + 4)) 7)) = some r := H
  have A2 := Aside0.mk A20
  clear A20
  obtain rfl := Option.some.inj H
  go_enter Tryd.func23, Tryd.ntmps23
  go_wp2_with (first | ((with_reducible refine gate_callee (f := 34) rfl ?_); refine goesL_ (some 8) rfl rfl Tryd.func34 (by kernel_rfl) rfl #[.int .i64 a0, .int .i64 7] rfl (by (try simp only [List.map_toArray, List.map_cons, List.map_nil]); first | done | rfl | (simp only [List.length_drop, List.length_take]; rfl)) ?_; (with_reducible refine (number_Div.calls a0 7 t101 t102 t103 _ A2.out).mono ?_); rintro e w' ⟨rfl, ⟨nd, rfl⟩⟩; refine ⟨_, rfl, ?_⟩))
  go_ret
  exact ⟨by first | rfl | (simp; done) | (simp [*]; done), by repeat (first | exact Drawn0.refl _ | apply Drawn0.step)⟩
end Go.Proofs.YtgbehcahdgamoaaDoor.Fn

namespace Go.Proofs.YtgbehcahdgamoaaDoor.Fn
open Go.RowKit Go.Proofs.YtgbehcahdgamoaaDoorW.PrintWords Go.Proofs.YtgbehcahdgamoaaDoorW.PrintLast Go.Proofs.YtgbehcahdgamoaaDoorW.PrintMore
def IsI64 (a : Int) : Prop := -9223372036854775808 ≤ a ∧ a ≤ 9223372036854775807
theorem w64 {a : Int} (h : IsI64 a) : wrap64 a = a := by unfold IsI64 at h; unfold wrap64; omega
theorem div_eq (a b : Int) (hb : 1 ≤ b) (hb2 : b ≤ 4294967296) (ha : IsI64 a) : number_Div.f a b = some (a / b, a % b, true) := by
  have ha' := ha
  unfold IsI64 at ha'
  unfold number_Div.f
  rw [if_neg (by omega), if_neg (by omega)]
  have h1 := Int.tdiv_eq_ediv (a := a) (b := b)
  have h2 := Int.tmod_eq_emod (a := a) (b := b)
  have h3 := Int.emod_nonneg a (show b ≠ 0 by omega)
  have h4 := Int.emod_lt_of_pos a (show 0 < b by omega)
  have h5 := Int.mul_ediv_add_emod a b
  have h6 : a / b ≤ 9223372036854775807 := by
    rcases Int.le_total 0 a with h | h
    · exact Int.le_trans (Int.ediv_le_self b h) ha'.2
    · have := Int.ediv_le_ediv (show (0 : Int) < b by omega) h
      simp at this
      omega
  have h7 : -9223372036854775808 ≤ a / b := by
    apply Int.le_ediv_of_mul_le (by omega)
    omega
  have hs : b.sign = 1 := Int.sign_eq_one_of_pos (by omega)
  have hn : (b.natAbs : Int) = b := Int.natAbs_of_nonneg (by omega)
  by_cases hd : 0 ≤ a ∨ b ∣ a
  · rw [if_pos hd] at h1 h2
    rw [if_neg (by omega), show Int.tmod a b = a % b from by omega, show Int.tdiv a b = a / b from by omega]
    try rw [w64 ⟨h7, h6⟩]
  · rw [if_neg hd, hs] at h1
    rw [if_neg hd, hn] at h2
    have hne : a % b ≠ 0 := fun e => hd (.inr (Int.dvd_of_emod_eq_zero e))
    have h8 : a / b < 0 := by
      apply Int.ediv_neg_of_neg_of_pos <;> omega
    rw [if_pos (by omega)]
    rw [h1, h2]
    have e1 : wrap64 (a / b + 1) = a / b + 1 := w64 ⟨by omega, by omega⟩
    have e2 : wrap64 (a / b + 1 - 1) = a / b := by rw [Int.add_sub_cancel]; exact w64 ⟨h7, h6⟩
    have e3 : wrap64 (a % b - b + b) = a % b := by rw [Int.sub_add_cancel]; exact w64 ⟨by omega, by omega⟩
    simp only [e1, e2, e3]
theorem tmod_zero (a b : Int) (_hb : 0 < b) : Int.tmod a b = 0 ↔ a % b = 0 := by
  rw [← Int.dvd_iff_emod_eq_zero, Int.dvd_iff_tmod_eq_zero]
def leapB (y : Int) : Bool := decide (y % 4 = 0) && (decide (y % 100 ≠ 0) || decide (y % 400 = 0))
theorem leap_eq (y : Int) : civil_Leap.f y = some (leapB y) := by
  unfold civil_Leap.f leapB
  have h1 := tmod_zero y 4 (by omega)
  have h2 := tmod_zero y 100 (by omega)
  have h3 := tmod_zero y 400 (by omega)
  by_cases a : y % 4 = 0
  · rw [if_pos (h1.2 a)]
    by_cases b : y % 100 = 0
    · rw [if_pos (h2.2 b)]
      by_cases c : y % 400 = 0
      · simp [a, b, c, h3.2 c]
      · have : ¬ Int.tmod y 400 = 0 := fun e => c (h3.1 e)
        simp [a, b, c, this]
    · rw [if_neg (fun e => b (h2.1 e))]
      simp [a, b]
  · rw [if_neg (fun e => a (h1.1 e))]
    simp [a]
def weekN (n : Int) : Int := (n % 7 + 4) % 7
theorem weekday_eq (n : Int) (h : IsI64 n) : civil_Weekday.f n = some (weekN n) := by
  unfold civil_Weekday.f
  rw [div_eq n 7 (by omega) (by omega) h]
  simp only [Option.bind_some]
  have : IsI64 (n % 7 + 4) := ⟨by omega, by omega⟩
  rw [w64 this, Int.tmod_eq_emod_of_nonneg (by omega)]
  rfl
def lenN (y m : Int) : Int := if m < 1 then 0 else if 12 < m then 0 else if m = 2 ∧ leapB y = true then 29 else lens.getD (m - 1).toNat 0
theorem length_eq (y m : Int) : civil_Length.f y m = some (lenN y m) := by
  unfold civil_Length.f lenN
  split
  · rfl
  · split
    · rfl
    · by_cases h : m = 2
      · subst h
        rw [if_pos rfl, leap_eq]
        cases leapB y <;> simp <;> rfl
      · rw [if_neg h, if_neg (by simp [h])]
def mayB (y : Int) : Bool := decide (-2147483648 ≤ y) && decide (y ≤ 2147483647)
theorem may_eq (y : Int) : civil_may.f y = some (mayB y) := by
  unfold civil_may.f mayB
  by_cases h : y ≥ -2147483648
  · rw [if_pos h]; simp; omega
  · rw [if_neg h]; simp; omega
def rightN (y m d : Int) : Bool := mayB y && (decide (1 ≤ d) && decide (d ≤ lenN y m))
theorem right_eq (y m d : Int) : civil_Right.f y m d = some (rightN y m d) := by
  unfold civil_Right.f rightN
  rw [may_eq]
  simp only [Option.bind_some]
  cases mayB y
  · simp
  · rw [if_pos rfl]
    by_cases h : d ≥ 1
    · rw [if_pos h, length_eq]; simp; omega
    · rw [if_neg h]; simp; omega
theorem lenN_le (y m : Int) : 0 ≤ lenN y m ∧ lenN y m ≤ 31 := by
  unfold lenN
  split
  · omega
  · split
    · omega
    · split
      · omega
      · have h : ∀ i : Nat, 0 ≤ lens.getD i 0 ∧ lens.getD i 0 ≤ 31 := by
          intro i
          match i with
          | 0 | 1 | 2 | 3 | 4 | 5 | 6 | 7 | 8 | 9 | 10 | 11 => decide
          | i + 12 => simp [lens]
        exact h _
theorem lenN_pos (y m : Int) (h1 : 1 ≤ m) (h2 : m ≤ 12) : 28 ≤ lenN y m := by
  unfold lenN
  rw [if_neg (by omega), if_neg (by omega)]
  split
  · omega
  · obtain ⟨i, hi, rfl⟩ : ∃ i : Nat, i < 12 ∧ m = i + 1 := ⟨(m - 1).toNat, by omega, by omega⟩
    rw [show ((i : Int) + 1 - 1).toNat = i from by omega]
    have h : ∀ i : Nat, i < 12 → 28 ≤ lens.getD i 0 := by decide
    exact h i hi
def yM (y m : Int) : Int := if m < 3 then y - 1 else y
def mM (m : Int) : Int := if m < 3 then m + 9 else m - 3
def daysN (y m d : Int) : Int := (yM y m / 400) * 146097 + (yM y m % 400) * 365 + (yM y m % 400) / 4 - (yM y m % 400) / 100 + (153 * mM m + 2) / 5 + d - 1 - 719468
theorem days_eq (y m d : Int) : civil_Days.f y m d = some (if rightN y m d = true then (daysN y m d, 0) else (0, 1)) := by
  unfold civil_Days.f
  rw [right_eq]
  simp only [Option.bind_some]
  by_cases hr : rightN y m d = true
  · rw [if_pos hr, if_pos hr]
    have h := hr
    unfold rightN mayB at h
    simp only [Bool.and_eq_true, decide_eq_true_eq] at h
    have hl := lenN_le y m
    have hm : 1 ≤ m ∧ m ≤ 12 := by
      unfold lenN at h
      by_cases a : m < 1
      · rw [if_pos a] at h; omega
      · rw [if_neg a] at h
        by_cases b : 12 < m
        · rw [if_pos b] at h; omega
        · omega
    by_cases h3 : m < 3
    · rw [w64 (a := m - 3) ⟨by omega, by omega⟩, if_pos (by omega), w64 (a := y - 1) ⟨by omega, by omega⟩, div_eq _ _ (by omega) (by omega) ⟨by omega, by omega⟩]
      simp only [Option.bind_some]
      unfold daysN yM mM
      rw [if_pos h3, if_pos h3]
      rw [Int.tdiv_eq_ediv_of_nonneg (show 0 ≤ (y - 1) % 400 by omega), Int.tdiv_eq_ediv_of_nonneg (show 0 ≤ (y - 1) % 400 by omega)]
      rw [w64 (a := (y - 1) / 400 * 146097) ⟨by omega, by omega⟩, w64 (a := (y - 1) % 400 * 365) ⟨by omega, by omega⟩]
      rw [w64 (a := m - 3 + 12) ⟨by omega, by omega⟩, w64 (a := 153 * (m - 3 + 12)) ⟨by omega, by omega⟩, w64 (a := 153 * (m - 3 + 12) + 2) ⟨by omega, by omega⟩]
      rw [Int.tdiv_eq_ediv_of_nonneg (show 0 ≤ 153 * (m - 3 + 12) + 2 by omega), show m - 3 + 12 = m + 9 by omega]
      simp only [wrap64]
      congr 2
      omega
    · rw [w64 (a := m - 3) ⟨by omega, by omega⟩, if_neg (by omega), div_eq _ _ (by omega) (by omega) ⟨by omega, by omega⟩]
      simp only [Option.bind_some]
      unfold daysN yM mM
      rw [if_neg h3, if_neg h3]
      rw [Int.tdiv_eq_ediv_of_nonneg (show 0 ≤ y % 400 by omega), Int.tdiv_eq_ediv_of_nonneg (show 0 ≤ y % 400 by omega)]
      rw [w64 (a := y / 400 * 146097) ⟨by omega, by omega⟩, w64 (a := y % 400 * 365) ⟨by omega, by omega⟩]
      rw [w64 (a := 153 * (m - 3)) ⟨by omega, by omega⟩, w64 (a := 153 * (m - 3) + 2) ⟨by omega, by omega⟩]
      rw [Int.tdiv_eq_ediv_of_nonneg (show 0 ≤ 153 * (m - 3) + 2 by omega)]
      simp only [wrap64]
      congr 2
      omega
  · rw [if_neg hr, if_neg hr]
end Go.Proofs.YtgbehcahdgamoaaDoor.Fn

namespace Go.Proofs.YtgbehcahdgamoaaDoor.Fn
open Go.RowKit Go.Proofs.YtgbehcahdgamoaaDoorW.PrintWords Go.Proofs.YtgbehcahdgamoaaDoorW.PrintLast Go.Proofs.YtgbehcahdgamoaaDoorW.PrintMore
set_option linter.unusedVariables false
set_option linter.unusedSimpArgs false
/-! ### number_Add: function 42 -/
def number_Add.f (a0 : Int) (a1 : Int) : Option (Int × Bool) := if ((decide (a0 < 0)) == (decide (a1 < 0))) = true then (if ((decide ((wrap64 (a0 + a1)) < 0)) != (decide (a0 < 0))) = true then (some (0, false)) else (some (wrap64 (a0 + a1), true))) else (some (wrap64 (a0 + a1), true))
set_option maxHeartbeats 8000000 in
set_option maxRecDepth 100000 in
theorem number_Add.calls (a0 : Int) (a1 : Int) (r1 : Int) (r2 : Bool) (w : World) (h : number_Add.f a0 a1 = some (r1, r2)) :
    Calls Tryd.prog 42 #[.int .i64 a0, .int .i64 a1] w fun e w' => e = .returned (.tuple #[.int .i64 r1, .bool r2]) ∧ Drawn0 w w' := by
  have H : (if ((decide (a0 < 0)) == (decide (a1 < 0))) = true then (if ((decide ((wrap64 (a0 + a1)) < 0)) != (decide (a0 < 0))) = true then (some (0, false)) else (some (wrap64 (a0 + a1), true))) else (some (wrap64 (a0 + a1), true))) = some (r1, r2) := h
  clear h
  by_cases c3 : ((decide (a0 < 0)) == (decide (a1 < 0))) = true
  · rw [if_pos c3] at H
    have c3b0 : ((decide (a0 < 0)) == (decide (a1 < 0))) = true := c3
    (try (have c3b1 : decide ((decide (a0 < 0)) = (decide (a1 < 0))) = true := by simpa using c3))
    (try (have c3b2 : ((decide (a0 < 0)) == (decide (a1 < 0))) = true := by simpa using c3))
    clear c3
    by_cases c4 : ((decide ((wrap64 (a0 + a1)) < 0)) != (decide (a0 < 0))) = true
    · rw [if_pos c4] at H
      have c4b0 : ((decide ((wrap64 (a0 + a1)) < 0)) != (decide (a0 < 0))) = true := c4
      (try (have c4b1 : decide ((decide ((wrap64 (a0 + a1)) < 0)) = (decide (a0 < 0))) = false := by simpa using c4))
      (try (have c4b2 : ((decide ((wrap64 (a0 + a1)) < 0)) == (decide (a0 < 0))) = false := by simpa using c4))
      (try (have c4b3 : ¬ ((decide ((wrap64 (a0 + a1)) < 0)) = (decide (a0 < 0))) := by simpa using c4))
      clear c4
      simp only [Option.some.injEq, Prod.mk.injEq] at H
      obtain ⟨rfl, rfl⟩ := H
      go_enter Tryd.func42, Tryd.ntmps42
      go_wp2
      go_ret2
      exact ⟨by first | rfl | (simp; done) | (simp [*]; done), by repeat (first | exact Drawn0.refl _ | apply Drawn0.step)⟩
    · rw [if_neg c4] at H
      have c4b0 : ((decide ((wrap64 (a0 + a1)) < 0)) != (decide (a0 < 0))) = false := by simpa using c4
      (try (have c4b1 : decide ((decide ((wrap64 (a0 + a1)) < 0)) = (decide (a0 < 0))) = true := by simpa using c4))
      (try (have c4b2 : ((decide ((wrap64 (a0 + a1)) < 0)) == (decide (a0 < 0))) = true := by simpa using c4))
      clear c4
      simp only [Option.some.injEq, Prod.mk.injEq] at H
      obtain ⟨rfl, rfl⟩ := H
      go_enter Tryd.func42, Tryd.ntmps42
      go_wp2
      go_ret2
      exact ⟨by first | rfl | (simp; done) | (simp [*]; done), by repeat (first | exact Drawn0.refl _ | apply Drawn0.step)⟩
  · rw [if_neg c3] at H
    have c3b0 : ((decide (a0 < 0)) == (decide (a1 < 0))) = false := by simpa using c3
    (try (have c3b1 : decide ((decide (a0 < 0)) = (decide (a1 < 0))) = false := by simpa using c3))
    (try (have c3b2 : ((decide (a0 < 0)) == (decide (a1 < 0))) = false := by simpa using c3))
    (try (have c3b3 : ¬ ((decide (a0 < 0)) = (decide (a1 < 0))) := by simpa using c3))
    clear c3
    simp only [Option.some.injEq, Prod.mk.injEq] at H
    obtain ⟨rfl, rfl⟩ := H
    go_enter Tryd.func42, Tryd.ntmps42
    go_wp2
    go_ret2
    exact ⟨by first | rfl | (simp; done) | (simp [*]; done), by repeat (first | exact Drawn0.refl _ | apply Drawn0.step)⟩
end Go.Proofs.YtgbehcahdgamoaaDoor.Fn

namespace Go.Proofs.YtgbehcahdgamoaaDoor.Fn
open Go.RowKit Go.Proofs.YtgbehcahdgamoaaDoorW.PrintWords Go.Proofs.YtgbehcahdgamoaaDoorW.PrintLast Go.Proofs.YtgbehcahdgamoaaDoorW.PrintMore
set_option linter.unusedVariables false
set_option linter.unusedSimpArgs false
/-! ### civil_Date: function 21 -/
def civil_Date.f (a0 : Int) : Option (Int × Int × Int × Int) := (number_Add.f a0 719468).bind fun bt242 => (if bt242.2 = true then ((number_Div.f bt242.1 146097).bind fun bt244 => (if (wrap64 ((wrap64 (Int.tdiv (wrap64 ((wrap64 (5 * (wrap64 (bt244.2.1 - (wrap64 ((wrap64 ((wrap64 (365 * (wrap64 (Int.tdiv (wrap64 ((wrap64 ((wrap64 (bt244.2.1 - (wrap64 (Int.tdiv bt244.2.1 1460)))) + (wrap64 (Int.tdiv bt244.2.1 36524)))) - (wrap64 (Int.tdiv bt244.2.1 146096)))) 365)))) + (wrap64 (Int.tdiv (wrap64 (Int.tdiv (wrap64 ((wrap64 ((wrap64 (bt244.2.1 - (wrap64 (Int.tdiv bt244.2.1 1460)))) + (wrap64 (Int.tdiv bt244.2.1 36524)))) - (wrap64 (Int.tdiv bt244.2.1 146096)))) 365)) 4)))) - (wrap64 (Int.tdiv (wrap64 (Int.tdiv (wrap64 ((wrap64 ((wrap64 (bt244.2.1 - (wrap64 (Int.tdiv bt244.2.1 1460)))) + (wrap64 (Int.tdiv bt244.2.1 36524)))) - (wrap64 (Int.tdiv bt244.2.1 146096)))) 365)) 100)))))))) + 2)) 153)) + 3)) > 12 then ((civil_may.f (wrap64 ((wrap64 ((wrap64 (Int.tdiv (wrap64 ((wrap64 ((wrap64 (bt244.2.1 - (wrap64 (Int.tdiv bt244.2.1 1460)))) + (wrap64 (Int.tdiv bt244.2.1 36524)))) - (wrap64 (Int.tdiv bt244.2.1 146096)))) 365)) + (wrap64 (400 * bt244.1)))) + 1))).bind fun t247 => (if t247 = true then (some (wrap64 ((wrap64 ((wrap64 (Int.tdiv (wrap64 ((wrap64 ((wrap64 (bt244.2.1 - (wrap64 (Int.tdiv bt244.2.1 1460)))) + (wrap64 (Int.tdiv bt244.2.1 36524)))) - (wrap64 (Int.tdiv bt244.2.1 146096)))) 365)) + (wrap64 (400 * bt244.1)))) + 1), wrap64 ((wrap64 ((wrap64 (Int.tdiv (wrap64 ((wrap64 (5 * (wrap64 (bt244.2.1 - (wrap64 ((wrap64 ((wrap64 (365 * (wrap64 (Int.tdiv (wrap64 ((wrap64 ((wrap64 (bt244.2.1 - (wrap64 (Int.tdiv bt244.2.1 1460)))) + (wrap64 (Int.tdiv bt244.2.1 36524)))) - (wrap64 (Int.tdiv bt244.2.1 146096)))) 365)))) + (wrap64 (Int.tdiv (wrap64 (Int.tdiv (wrap64 ((wrap64 ((wrap64 (bt244.2.1 - (wrap64 (Int.tdiv bt244.2.1 1460)))) + (wrap64 (Int.tdiv bt244.2.1 36524)))) - (wrap64 (Int.tdiv bt244.2.1 146096)))) 365)) 4)))) - (wrap64 (Int.tdiv (wrap64 (Int.tdiv (wrap64 ((wrap64 ((wrap64 (bt244.2.1 - (wrap64 (Int.tdiv bt244.2.1 1460)))) + (wrap64 (Int.tdiv bt244.2.1 36524)))) - (wrap64 (Int.tdiv bt244.2.1 146096)))) 365)) 100)))))))) + 2)) 153)) + 3)) - 12), wrap64 ((wrap64 ((wrap64 (bt244.2.1 - (wrap64 ((wrap64 ((wrap64 (365 * (wrap64 (Int.tdiv (wrap64 ((wrap64 ((wrap64 (bt244.2.1 - (wrap64 (Int.tdiv bt244.2.1 1460)))) + (wrap64 (Int.tdiv bt244.2.1 36524)))) - (wrap64 (Int.tdiv bt244.2.1 146096)))) 365)))) + (wrap64 (Int.tdiv (wrap64 (Int.tdiv (wrap64 ((wrap64 ((wrap64 (bt244.2.1 - (wrap64 (Int.tdiv bt244.2.1 1460)))) + (wrap64 (Int.tdiv bt244.2.1 36524)))) - (wrap64 (Int.tdiv bt244.2.1 146096)))) 365)) 4)))) - (wrap64 (Int.tdiv (wrap64 (Int.tdiv (wrap64 ((wrap64 ((wrap64 (bt244.2.1 - (wrap64 (Int.tdiv bt244.2.1 1460)))) + (wrap64 (Int.tdiv bt244.2.1 36524)))) - (wrap64 (Int.tdiv bt244.2.1 146096)))) 365)) 100)))))) - (wrap64 (Int.tdiv (wrap64 ((wrap64 (153 * (wrap64 (Int.tdiv (wrap64 ((wrap64 (5 * (wrap64 (bt244.2.1 - (wrap64 ((wrap64 ((wrap64 (365 * (wrap64 (Int.tdiv (wrap64 ((wrap64 ((wrap64 (bt244.2.1 - (wrap64 (Int.tdiv bt244.2.1 1460)))) + (wrap64 (Int.tdiv bt244.2.1 36524)))) - (wrap64 (Int.tdiv bt244.2.1 146096)))) 365)))) + (wrap64 (Int.tdiv (wrap64 (Int.tdiv (wrap64 ((wrap64 ((wrap64 (bt244.2.1 - (wrap64 (Int.tdiv bt244.2.1 1460)))) + (wrap64 (Int.tdiv bt244.2.1 36524)))) - (wrap64 (Int.tdiv bt244.2.1 146096)))) 365)) 4)))) - (wrap64 (Int.tdiv (wrap64 (Int.tdiv (wrap64 ((wrap64 ((wrap64 (bt244.2.1 - (wrap64 (Int.tdiv bt244.2.1 1460)))) + (wrap64 (Int.tdiv bt244.2.1 36524)))) - (wrap64 (Int.tdiv bt244.2.1 146096)))) 365)) 100)))))))) + 2)) 153)))) + 2)) 5)))) + 1), 0)) else (some (0, 0, 0, 2)))) else ((civil_may.f (wrap64 ((wrap64 (Int.tdiv (wrap64 ((wrap64 ((wrap64 (bt244.2.1 - (wrap64 (Int.tdiv bt244.2.1 1460)))) + (wrap64 (Int.tdiv bt244.2.1 36524)))) - (wrap64 (Int.tdiv bt244.2.1 146096)))) 365)) + (wrap64 (400 * bt244.1))))).bind fun t248 => (if t248 = true then (some (wrap64 ((wrap64 (Int.tdiv (wrap64 ((wrap64 ((wrap64 (bt244.2.1 - (wrap64 (Int.tdiv bt244.2.1 1460)))) + (wrap64 (Int.tdiv bt244.2.1 36524)))) - (wrap64 (Int.tdiv bt244.2.1 146096)))) 365)) + (wrap64 (400 * bt244.1))), wrap64 ((wrap64 (Int.tdiv (wrap64 ((wrap64 (5 * (wrap64 (bt244.2.1 - (wrap64 ((wrap64 ((wrap64 (365 * (wrap64 (Int.tdiv (wrap64 ((wrap64 ((wrap64 (bt244.2.1 - (wrap64 (Int.tdiv bt244.2.1 1460)))) + (wrap64 (Int.tdiv bt244.2.1 36524)))) - (wrap64 (Int.tdiv bt244.2.1 146096)))) 365)))) + (wrap64 (Int.tdiv (wrap64 (Int.tdiv (wrap64 ((wrap64 ((wrap64 (bt244.2.1 - (wrap64 (Int.tdiv bt244.2.1 1460)))) + (wrap64 (Int.tdiv bt244.2.1 36524)))) - (wrap64 (Int.tdiv bt244.2.1 146096)))) 365)) 4)))) - (wrap64 (Int.tdiv (wrap64 (Int.tdiv (wrap64 ((wrap64 ((wrap64 (bt244.2.1 - (wrap64 (Int.tdiv bt244.2.1 1460)))) + (wrap64 (Int.tdiv bt244.2.1 36524)))) - (wrap64 (Int.tdiv bt244.2.1 146096)))) 365)) 100)))))))) + 2)) 153)) + 3), wrap64 ((wrap64 ((wrap64 (bt244.2.1 - (wrap64 ((wrap64 ((wrap64 (365 * (wrap64 (Int.tdiv (wrap64 ((wrap64 ((wrap64 (bt244.2.1 - (wrap64 (Int.tdiv bt244.2.1 1460)))) + (wrap64 (Int.tdiv bt244.2.1 36524)))) - (wrap64 (Int.tdiv bt244.2.1 146096)))) 365)))) + (wrap64 (Int.tdiv (wrap64 (Int.tdiv (wrap64 ((wrap64 ((wrap64 (bt244.2.1 - (wrap64 (Int.tdiv bt244.2.1 1460)))) + (wrap64 (Int.tdiv bt244.2.1 36524)))) - (wrap64 (Int.tdiv bt244.2.1 146096)))) 365)) 4)))) - (wrap64 (Int.tdiv (wrap64 (Int.tdiv (wrap64 ((wrap64 ((wrap64 (bt244.2.1 - (wrap64 (Int.tdiv bt244.2.1 1460)))) + (wrap64 (Int.tdiv bt244.2.1 36524)))) - (wrap64 (Int.tdiv bt244.2.1 146096)))) 365)) 100)))))) - (wrap64 (Int.tdiv (wrap64 ((wrap64 (153 * (wrap64 (Int.tdiv (wrap64 ((wrap64 (5 * (wrap64 (bt244.2.1 - (wrap64 ((wrap64 ((wrap64 (365 * (wrap64 (Int.tdiv (wrap64 ((wrap64 ((wrap64 (bt244.2.1 - (wrap64 (Int.tdiv bt244.2.1 1460)))) + (wrap64 (Int.tdiv bt244.2.1 36524)))) - (wrap64 (Int.tdiv bt244.2.1 146096)))) 365)))) + (wrap64 (Int.tdiv (wrap64 (Int.tdiv (wrap64 ((wrap64 ((wrap64 (bt244.2.1 - (wrap64 (Int.tdiv bt244.2.1 1460)))) + (wrap64 (Int.tdiv bt244.2.1 36524)))) - (wrap64 (Int.tdiv bt244.2.1 146096)))) 365)) 4)))) - (wrap64 (Int.tdiv (wrap64 (Int.tdiv (wrap64 ((wrap64 ((wrap64 (bt244.2.1 - (wrap64 (Int.tdiv bt244.2.1 1460)))) + (wrap64 (Int.tdiv bt244.2.1 36524)))) - (wrap64 (Int.tdiv bt244.2.1 146096)))) 365)) 100)))))))) + 2)) 153)))) + 2)) 5)))) + 1), 0)) else (some (0, 0, 0, 2)))))) else (some (0, 0, 0, 2)))
set_option maxHeartbeats 8000000 in
set_option maxRecDepth 100000 in
theorem civil_Date.calls (a0 : Int) (r1 : Int) (r2 : Int) (r3 : Int) (r4 : Int) (w : World) (h : civil_Date.f a0 = some (r1, r2, r3, r4)) :
    Calls Tryd.prog 21 #[.int .i64 a0] w fun e w' => e = .returned (.tuple #[.int .i64 r1, .int .i64 r2, .int .i64 r3, .int .i64 r4]) ∧ Drawn0 w w' := by
  have H : ((number_Add.f a0 719468).bind fun bt242 => (if bt242.2 = true then ((number_Div.f bt242.1 146097).bind fun bt244 => (if (wrap64 ((wrap64 (Int.tdiv (wrap64 ((wrap64 (5 * (wrap64 (bt244.2.1 - (wrap64 ((wrap64 ((wrap64 (365 * (wrap64 (Int.tdiv (wrap64 ((wrap64 ((wrap64 (bt244.2.1 - (wrap64 (Int.tdiv bt244.2.1 1460)))) + (wrap64 (Int.tdiv bt244.2.1 36524)))) - (wrap64 (Int.tdiv bt244.2.1 146096)))) 365)))) + (wrap64 (Int.tdiv (wrap64 (Int.tdiv (wrap64 ((wrap64 ((wrap64 (bt244.2.1 - (wrap64 (Int.tdiv bt244.2.1 1460)))) + (wrap64 (Int.tdiv bt244.2.1 36524)))) - (wrap64 (Int.tdiv bt244.2.1 146096)))) 365)) 4)))) - (wrap64 (Int.tdiv (wrap64 (Int.tdiv (wrap64 ((wrap64 ((wrap64 (bt244.2.1 - (wrap64 (Int.tdiv bt244.2.1 1460)))) + (wrap64 (Int.tdiv bt244.2.1 36524)))) - (wrap64 (Int.tdiv bt244.2.1 146096)))) 365)) 100)))))))) + 2)) 153)) + 3)) > 12 then ((civil_may.f (wrap64 ((wrap64 ((wrap64 (Int.tdiv (wrap64 ((wrap64 ((wrap64 (bt244.2.1 - (wrap64 (Int.tdiv bt244.2.1 1460)))) + (wrap64 (Int.tdiv bt244.2.1 36524)))) - (wrap64 (Int.tdiv bt244.2.1 146096)))) 365)) + (wrap64 (400 * bt244.1)))) + 1))).bind fun t247 => (if t247 = true then (some (wrap64 ((wrap64 ((wrap64 (Int.tdiv (wrap64 ((wrap64 ((wrap64 (bt244.2.1 - (wrap64 (Int.tdiv bt244.2.1 1460)))) + (wrap64 (Int.tdiv bt244.2.1 36524)))) - (wrap64 (Int.tdiv bt244.2.1 146096)))) 365)) + (wrap64 (400 * bt244.1)))) + 1), wrap64 ((wrap64 ((wrap64 (Int.tdiv (wrap64 ((wrap64 (5 * (wrap64 (bt244.2.1 - (wrap64 ((wrap64 ((wrap64 (365 * (wrap64 (Int.tdiv (wrap64 ((wrap64 ((wrap64 (bt244.2.1 - (wrap64 (Int.tdiv bt244.2.1 1460)))) + (wrap64 (Int.tdiv bt244.2.1 36524)))) - (wrap64 (Int.tdiv bt244.2.1 146096)))) 365)))) + (wrap64 (Int.tdiv (wrap64 (Int.tdiv (wrap64 ((wrap64 ((wrap64 (bt244.2.1 - (wrap64 (Int.tdiv bt244.2.1 1460)))) + (wrap64 (Int.tdiv bt244.2.1 36524)))) - (wrap64 (Int.tdiv bt244.2.1 146096)))) 365)) 4)))) - (wrap64 (Int.tdiv (wrap64 (Int.tdiv (wrap64 ((wrap64 ((wrap64 (bt244.2.1 - (wrap64 (Int.tdiv bt244.2.1 1460)))) + (wrap64 (Int.tdiv bt244.2.1 36524)))) - (wrap64 (Int.tdiv bt244.2.1 146096)))) 365)) 100)))))))) + 2)) 153)) + 3)) - 12), wrap64 ((wrap64 ((wrap64 (bt244.2.1 - (wrap64 ((wrap64 ((wrap64 (365 * (wrap64 (Int.tdiv (wrap64 ((wrap64 ((wrap64 (bt244.2.1 - (wrap64 (Int.tdiv bt244.2.1 1460)))) + (wrap64 (Int.tdiv bt244.2.1 36524)))) - (wrap64 (Int.tdiv bt244.2.1 146096)))) 365)))) + (wrap64 (Int.tdiv (wrap64 (Int.tdiv (wrap64 ((wrap64 ((wrap64 (bt244.2.1 - (wrap64 (Int.tdiv bt244.2.1 1460)))) + (wrap64 (Int.tdiv bt244.2.1 36524)))) - (wrap64 (Int.tdiv bt244.2.1 146096)))) 365)) 4)))) - (wrap64 (Int.tdiv (wrap64 (Int.tdiv (wrap64 ((wrap64 ((wrap64 (bt244.2.1 - (wrap64 (Int.tdiv bt244.2.1 1460)))) + (wrap64 (Int.tdiv bt244.2.1 36524)))) - (wrap64 (Int.tdiv bt244.2.1 146096)))) 365)) 100)))))) - (wrap64 (Int.tdiv (wrap64 ((wrap64 (153 * (wrap64 (Int.tdiv (wrap64 ((wrap64 (5 * (wrap64 (bt244.2.1 - (wrap64 ((wrap64 ((wrap64 (365 * (wrap64 (Int.tdiv (wrap64 ((wrap64 ((wrap64 (bt244.2.1 - (wrap64 (Int.tdiv bt244.2.1 1460)))) + (wrap64 (Int.tdiv bt244.2.1 36524)))) - (wrap64 (Int.tdiv bt244.2.1 146096)))) 365)))) + (wrap64 (Int.tdiv (wrap64 (Int.tdiv (wrap64 ((wrap64 ((wrap64 (bt244.2.1 - (wrap64 (Int.tdiv bt244.2.1 1460)))) + (wrap64 (Int.tdiv bt244.2.1 36524)))) - (wrap64 (Int.tdiv bt244.2.1 146096)))) 365)) 4)))) - (wrap64 (Int.tdiv (wrap64 (Int.tdiv (wrap64 ((wrap64 ((wrap64 (bt244.2.1 - (wrap64 (Int.tdiv bt244.2.1 1460)))) + (wrap64 (Int.tdiv bt244.2.1 36524)))) - (wrap64 (Int.tdiv bt244.2.1 146096)))) 365)) 100)))))))) + 2)) 153)))) + 2)) 5)))) + 1), 0)) else (some (0, 0, 0, 2)))) else ((civil_may.f (wrap64 ((wrap64 (Int.tdiv (wrap64 ((wrap64 ((wrap64 (bt244.2.1 - (wrap64 (Int.tdiv bt244.2.1 1460)))) + (wrap64 (Int.tdiv bt244.2.1 36524)))) - (wrap64 (Int.tdiv bt244.2.1 146096)))) 365)) + (wrap64 (400 * bt244.1))))).bind fun t248 => (if t248 = true then (some (wrap64 ((wrap64 (Int.tdiv (wrap64 ((wrap64 ((wrap64 (bt244.2.1 - (wrap64 (Int.tdiv bt244.2.1 1460)))) + (wrap64 (Int.tdiv bt244.2.1 36524)))) - (wrap64 (Int.tdiv bt244.2.1 146096)))) 365)) + (wrap64 (400 * bt244.1))), wrap64 ((wrap64 (Int.tdiv (wrap64 ((wrap64 (5 * (wrap64 (bt244.2.1 - (wrap64 ((wrap64 ((wrap64 (365 * (wrap64 (Int.tdiv (wrap64 ((wrap64 ((wrap64 (bt244.2.1 - (wrap64 (Int.tdiv bt244.2.1 1460)))) + (wrap64 (Int.tdiv bt244.2.1 36524)))) - (wrap64 (Int.tdiv bt244.2.1 146096)))) 365)))) + (wrap64 (Int.tdiv (wrap64 (Int.tdiv (wrap64 ((wrap64 ((wrap64 (bt244.2.1 - (wrap64 (Int.tdiv bt244.2.1 1460)))) + (wrap64 (Int.tdiv bt244.2.1 36524)))) - (wrap64 (Int.tdiv bt244.2.1 146096)))) 365)) 4)))) - (wrap64 (Int.tdiv (wrap64 (Int.tdiv (wrap64 ((wrap64 ((wrap64 (bt244.2.1 - (wrap64 (Int.tdiv bt244.2.1 1460)))) + (wrap64 (Int.tdiv bt244.2.1 36524)))) - (wrap64 (Int.tdiv bt244.2.1 146096)))) 365)) 100)))))))) + 2)) 153)) + 3), wrap64 ((wrap64 ((wrap64 (bt244.2.1 - (wrap64 ((wrap64 ((wrap64 (365 * (wrap64 (Int.tdiv (wrap64 ((wrap64 ((wrap64 (bt244.2.1 - (wrap64 (Int.tdiv bt244.2.1 1460)))) + (wrap64 (Int.tdiv bt244.2.1 36524)))) - (wrap64 (Int.tdiv bt244.2.1 146096)))) 365)))) + (wrap64 (Int.tdiv (wrap64 (Int.tdiv (wrap64 ((wrap64 ((wrap64 (bt244.2.1 - (wrap64 (Int.tdiv bt244.2.1 1460)))) + (wrap64 (Int.tdiv bt244.2.1 36524)))) - (wrap64 (Int.tdiv bt244.2.1 146096)))) 365)) 4)))) - (wrap64 (Int.tdiv (wrap64 (Int.tdiv (wrap64 ((wrap64 ((wrap64 (bt244.2.1 - (wrap64 (Int.tdiv bt244.2.1 1460)))) + (wrap64 (Int.tdiv bt244.2.1 36524)))) - (wrap64 (Int.tdiv bt244.2.1 146096)))) 365)) 100)))))) - (wrap64 (Int.tdiv (wrap64 ((wrap64 (153 * (wrap64 (Int.tdiv (wrap64 ((wrap64 (5 * (wrap64 (bt244.2.1 - (wrap64 ((wrap64 ((wrap64 (365 * (wrap64 (Int.tdiv (wrap64 ((wrap64 ((wrap64 (bt244.2.1 - (wrap64 (Int.tdiv bt244.2.1 1460)))) + (wrap64 (Int.tdiv bt244.2.1 36524)))) - (wrap64 (Int.tdiv bt244.2.1 146096)))) 365)))) + (wrap64 (Int.tdiv (wrap64 (Int.tdiv (wrap64 ((wrap64 ((wrap64 (bt244.2.1 - (wrap64 (Int.tdiv bt244.2.1 1460)))) + (wrap64 (Int.tdiv bt244.2.1 36524)))) - (wrap64 (Int.tdiv bt244.2.1 146096)))) 365)) 4)))) - (wrap64 (Int.tdiv (wrap64 (Int.tdiv (wrap64 ((wrap64 ((wrap64 (bt244.2.1 - (wrap64 (Int.tdiv bt244.2.1 1460)))) + (wrap64 (Int.tdiv bt244.2.1 36524)))) - (wrap64 (Int.tdiv bt244.2.1 146096)))) 365)) 100)))))))) + 2)) 153)))) + 2)) 5)))) + 1), 0)) else (some (0, 0, 0, 2)))))) else (some (0, 0, 0, 2)))) = some (r1, r2, r3, r4) := h
  clear h
  replace H := Option.bind_eq_some_iff.mp H
  obtain ⟨⟨t242, t243⟩, A20, H⟩ := H
  replace H : (if t243 = true then ((number_Div.f t242 146097).bind fun bt244 => (if (wrap64 ((wrap64 (Int.tdiv (wrap64 ((wrap64 (5 * (wrap64 (bt244.2.1 - (wrap64 ((wrap64 ((wrap64 (365 * (wrap64 (Int.tdiv (wrap64 ((wrap64 ((wrap64 (bt244.2.1 - (wrap64 (Int.tdiv bt244.2.1 1460)))) + (wrap64 (Int.tdiv bt244.2.1 36524)))) - (wrap64 (Int.tdiv bt244.2.1 146096)))) 365)))) + (wrap64 (Int.tdiv (wrap64 (Int.tdiv (wrap64 ((wrap64 ((wrap64 (bt244.2.1 - (wrap64 (Int.tdiv bt244.2.1 1460)))) + (wrap64 (Int.tdiv bt244.2.1 36524)))) - (wrap64 (Int.tdiv bt244.2.1 146096)))) 365)) 4)))) - (wrap64 (Int.tdiv (wrap64 (Int.tdiv (wrap64 ((wrap64 ((wrap64 (bt244.2.1 - (wrap64 (Int.tdiv bt244.2.1 1460)))) + (wrap64 (Int.tdiv bt244.2.1 36524)))) - (wrap64 (Int.tdiv bt244.2.1 146096)))) 365)) 100)))))))) + 2)) 153)) + 3)) > 12 then ((civil_may.f (wrap64 ((wrap64 ((wrap64 (Int.tdiv (wrap64 ((wrap64 ((wrap64 (bt244.2.1 - (wrap64 (Int.tdiv bt244.2.1 1460)))) + (wrap64 (Int.tdiv bt244.2.1 36524)))) - (wrap64 (Int.tdiv bt244.2.1 146096)))) 365)) + (wrap64 (400 * bt244.1)))) + 1))).bind fun t247 => (if t247 = true then (some (wrap64 ((wrap64 ((wrap64 (Int.tdiv (wrap64 ((wrap64 ((wrap64 (bt244.2.1 - (wrap64 (Int.tdiv bt244.2.1 1460)))) + (wrap64 (Int.tdiv bt244.2.1 36524)))) - (wrap64 (Int.tdiv bt244.2.1 146096)))) 365)) + (wrap64 (400 * bt244.1)))) + 1), wrap64 ((wrap64 ((wrap64 (Int.tdiv (wrap64 ((wrap64 (5 * (wrap64 (bt244.2.1 - (wrap64 ((wrap64 ((wrap64 (365 * (wrap64 (Int.tdiv (wrap64 ((wrap64 ((wrap64 (bt244.2.1 - (wrap64 (Int.tdiv bt244.2.1 1460)))) + (wrap64 (Int.tdiv bt244.2.1 36524)))) - (wrap64 (Int.tdiv bt244.2.1 146096)))) 365)))) + (wrap64 (Int.tdiv (wrap64 (Int.tdiv (wrap64 ((wrap64 ((wrap64 (bt244.2.1 - (wrap64 (Int.tdiv bt244.2.1 1460)))) + (wrap64 (Int.tdiv bt244.2.1 36524)))) - (wrap64 (Int.tdiv bt244.2.1 146096)))) 365)) 4)))) - (wrap64 (Int.tdiv (wrap64 (Int.tdiv (wrap64 ((wrap64 ((wrap64 (bt244.2.1 - (wrap64 (Int.tdiv bt244.2.1 1460)))) + (wrap64 (Int.tdiv bt244.2.1 36524)))) - (wrap64 (Int.tdiv bt244.2.1 146096)))) 365)) 100)))))))) + 2)) 153)) + 3)) - 12), wrap64 ((wrap64 ((wrap64 (bt244.2.1 - (wrap64 ((wrap64 ((wrap64 (365 * (wrap64 (Int.tdiv (wrap64 ((wrap64 ((wrap64 (bt244.2.1 - (wrap64 (Int.tdiv bt244.2.1 1460)))) + (wrap64 (Int.tdiv bt244.2.1 36524)))) - (wrap64 (Int.tdiv bt244.2.1 146096)))) 365)))) + (wrap64 (Int.tdiv (wrap64 (Int.tdiv (wrap64 ((wrap64 ((wrap64 (bt244.2.1 - (wrap64 (Int.tdiv bt244.2.1 1460)))) + (wrap64 (Int.tdiv bt244.2.1 36524)))) - (wrap64 (Int.tdiv bt244.2.1 146096)))) 365)) 4)))) - (wrap64 (Int.tdiv (wrap64 (Int.tdiv (wrap64 ((wrap64 ((wrap64 (bt244.2.1 - (wrap64 (Int.tdiv bt244.2.1 1460)))) + (wrap64 (Int.tdiv bt244.2.1 36524)))) - (wrap64 (Int.tdiv bt244.2.1 146096)))) 365)) 100)))))) - (wrap64 (Int.tdiv (wrap64 ((wrap64 (153 * (wrap64 (Int.tdiv (wrap64 ((wrap64 (5 * (wrap64 (bt244.2.1 - (wrap64 ((wrap64 ((wrap64 (365 * (wrap64 (Int.tdiv (wrap64 ((wrap64 ((wrap64 (bt244.2.1 - (wrap64 (Int.tdiv bt244.2.1 1460)))) + (wrap64 (Int.tdiv bt244.2.1 36524)))) - (wrap64 (Int.tdiv bt244.2.1 146096)))) 365)))) + (wrap64 (Int.tdiv (wrap64 (Int.tdiv (wrap64 ((wrap64 ((wrap64 (bt244.2.1 - (wrap64 (Int.tdiv bt244.2.1 1460)))) + (wrap64 (Int.tdiv bt244.2.1 36524)))) - (wrap64 (Int.tdiv bt244.2.1 146096)))) 365)) 4)))) - (wrap64 (Int.tdiv (wrap64 (Int.tdiv (wrap64 ((wrap64 ((wrap64 (bt244.2.1 - (wrap64 (Int.tdiv bt244.2.1 1460)))) + (wrap64 (Int.tdiv bt244.2.1 36524)))) - (wrap64 (Int.tdiv bt244.2.1 146096)))) 365)) 100)))))))) + 2)) 153)))) + 2)) 5)))) + 1), 0)) else (some (0, 0, 0, 2)))) else ((civil_may.f (wrap64 ((wrap64 (Int.tdiv (wrap64 ((wrap64 ((wrap64 (bt244.2.1 - (wrap64 (Int.tdiv bt244.2.1 1460)))) + (wrap64 (Int.tdiv bt244.2.1 36524)))) - (wrap64 (Int.tdiv bt244.2.1 146096)))) 365)) + (wrap64 (400 * bt244.1))))).bind fun t248 => (if t248 = true then (some (wrap64 ((wrap64 (Int.tdiv (wrap64 ((wrap64 ((wrap64 (bt244.2.1 - (wrap64 (Int.tdiv bt244.2.1 1460)))) + (wrap64 (Int.tdiv bt244.2.1 36524)))) - (wrap64 (Int.tdiv bt244.2.1 146096)))) 365)) + (wrap64 (400 * bt244.1))), wrap64 ((wrap64 (Int.tdiv (wrap64 ((wrap64 (5 * (wrap64 (bt244.2.1 - (wrap64 ((wrap64 ((wrap64 (365 * (wrap64 (Int.tdiv (wrap64 ((wrap64 ((wrap64 (bt244.2.1 - (wrap64 (Int.tdiv bt244.2.1 1460)))) + (wrap64 (Int.tdiv bt244.2.1 36524)))) - (wrap64 (Int.tdiv bt244.2.1 146096)))) 365)))) + (wrap64 (Int.tdiv (wrap64 (Int.tdiv (wrap64 ((wrap64 ((wrap64 (bt244.2.1 - (wrap64 (Int.tdiv bt244.2.1 1460)))) + (wrap64 (Int.tdiv bt244.2.1 36524)))) - (wrap64 (Int.tdiv bt244.2.1 146096)))) 365)) 4)))) - (wrap64 (Int.tdiv (wrap64 (Int.tdiv (wrap64 ((wrap64 ((wrap64 (bt244.2.1 - (wrap64 (Int.tdiv bt244.2.1 1460)))) + (wrap64 (Int.tdiv bt244.2.1 36524)))) - (wrap64 (Int.tdiv bt244.2.1 146096)))) 365)) 100)))))))) + 2)) 153)) + 3), wrap64 ((wrap64 ((wrap64 (bt244.2.1 - (wrap64 ((wrap64 ((wrap64 (365 * (wrap64 (Int.tdiv (wrap64 ((wrap64 ((wrap64 (bt244.2.1 - (wrap64 (Int.tdiv bt244.2.1 1460)))) + (wrap64 (Int.tdiv bt244.2.1 36524)))) - (wrap64 (Int.tdiv bt244.2.1 146096)))) 365)))) + (wrap64 (Int.tdiv (wrap64 (Int.tdiv (wrap64 ((wrap64 ((wrap64 (bt244.2.1 - (wrap64 (Int.tdiv bt244.2.1 1460)))) + (wrap64 (Int.tdiv bt244.2.1 36524)))) - (wrap64 (Int.tdiv bt244.2.1 146096)))) 365)) 4)))) - (wrap64 (Int.tdiv (wrap64 (Int.tdiv (wrap64 ((wrap64 ((wrap64 (bt244.2.1 - (wrap64 (Int.tdiv bt244.2.1 1460)))) + (wrap64 (Int.tdiv bt244.2.1 36524)))) - (wrap64 (Int.tdiv bt244.2.1 146096)))) 365)) 100)))))) - (wrap64 (Int.tdiv (wrap64 ((wrap64 (153 * (wrap64 (Int.tdiv (wrap64 ((wrap64 (5 * (wrap64 (bt244.2.1 - (wrap64 ((wrap64 ((wrap64 (365 * (wrap64 (Int.tdiv (wrap64 ((wrap64 ((wrap64 (bt244.2.1 - (wrap64 (Int.tdiv bt244.2.1 1460)))) + (wrap64 (Int.tdiv bt244.2.1 36524)))) - (wrap64 (Int.tdiv bt244.2.1 146096)))) 365)))) + (wrap64 (Int.tdiv (wrap64 (Int.tdiv (wrap64 ((wrap64 ((wrap64 (bt244.2.1 - (wrap64 (Int.tdiv bt244.2.1 1460)))) + (wrap64 (Int.tdiv bt244.2.1 36524)))) - (wrap64 (Int.tdiv bt244.2.1 146096)))) 365)) 4)))) - (wrap64 (Int.tdiv (wrap64 (Int.tdiv (wrap64 ((wrap64 ((wrap64 (bt244.2.1 - (wrap64 (Int.tdiv bt244.2.1 1460)))) + (wrap64 (Int.tdiv bt244.2.1 36524)))) - (wrap64 (Int.tdiv bt244.2.1 146096)))) 365)) 100)))))))) + 2)) 153)))) + 2)) 5)))) + 1), 0)) else (some (0, 0, 0, 2)))))) else (some (0, 0, 0, 2))) = some (r1, r2, r3, r4) := H
  have A2 := Aside0.mk A20
  clear A20
  by_cases c3 : t243 = true
  · subst c3
    have H1 : ((number_Div.f t242 146097).bind fun bt244 => (if (wrap64 ((wrap64 (Int.tdiv (wrap64 ((wrap64 (5 * (wrap64 (bt244.2.1 - (wrap64 ((wrap64 ((wrap64 (365 * (wrap64 (Int.tdiv (wrap64 ((wrap64 ((wrap64 (bt244.2.1 - (wrap64 (Int.tdiv bt244.2.1 1460)))) + (wrap64 (Int.tdiv bt244.2.1 36524)))) - (wrap64 (Int.tdiv bt244.2.1 146096)))) 365)))) + (wrap64 (Int.tdiv (wrap64 (Int.tdiv (wrap64 ((wrap64 ((wrap64 (bt244.2.1 - (wrap64 (Int.tdiv bt244.2.1 1460)))) + (wrap64 (Int.tdiv bt244.2.1 36524)))) - (wrap64 (Int.tdiv bt244.2.1 146096)))) 365)) 4)))) - (wrap64 (Int.tdiv (wrap64 (Int.tdiv (wrap64 ((wrap64 ((wrap64 (bt244.2.1 - (wrap64 (Int.tdiv bt244.2.1 1460)))) + (wrap64 (Int.tdiv bt244.2.1 36524)))) - (wrap64 (Int.tdiv bt244.2.1 146096)))) 365)) 100)))))))) + 2)) 153)) + 3)) > 12 then ((civil_may.f (wrap64 ((wrap64 ((wrap64 (Int.tdiv (wrap64 ((wrap64 ((wrap64 (bt244.2.1 - (wrap64 (Int.tdiv bt244.2.1 1460)))) + (wrap64 (Int.tdiv bt244.2.1 36524)))) - (wrap64 (Int.tdiv bt244.2.1 146096)))) 365)) + (wrap64 (400 * bt244.1)))) + 1))).bind fun t247 => (if t247 = true then (some (wrap64 ((wrap64 ((wrap64 (Int.tdiv (wrap64 ((wrap64 ((wrap64 (bt244.2.1 - (wrap64 (Int.tdiv bt244.2.1 1460)))) + (wrap64 (Int.tdiv bt244.2.1 36524)))) - (wrap64 (Int.tdiv bt244.2.1 146096)))) 365)) + (wrap64 (400 * bt244.1)))) + 1), wrap64 ((wrap64 ((wrap64 (Int.tdiv (wrap64 ((wrap64 (5 * (wrap64 (bt244.2.1 - (wrap64 ((wrap64 ((wrap64 (365 * (wrap64 (Int.tdiv (wrap64 ((wrap64 ((wrap64 (bt244.2.1 - (wrap64 (Int.tdiv bt244.2.1 1460)))) + (wrap64 (Int.tdiv bt244.2.1 36524)))) - (wrap64 (Int.tdiv bt244.2.1 146096)))) 365)))) + (wrap64 (Int.tdiv (wrap64 (Int.tdiv (wrap64 ((wrap64 ((wrap64 (bt244.2.1 - (wrap64 (Int.tdiv bt244.2.1 1460)))) + (wrap64 (Int.tdiv bt244.2.1 36524)))) - (wrap64 (Int.tdiv bt244.2.1 146096)))) 365)) 4)))) - (wrap64 (Int.tdiv (wrap64 (Int.tdiv (wrap64 ((wrap64 ((wrap64 (bt244.2.1 - (wrap64 (Int.tdiv bt244.2.1 1460)))) + (wrap64 (Int.tdiv bt244.2.1 36524)))) - (wrap64 (Int.tdiv bt244.2.1 146096)))) 365)) 100)))))))) + 2)) 153)) + 3)) - 12), wrap64 ((wrap64 ((wrap64 (bt244.2.1 - (wrap64 ((wrap64 ((wrap64 (365 * (wrap64 (Int.tdiv (wrap64 ((wrap64 ((wrap64 (bt244.2.1 - (wrap64 (Int.tdiv bt244.2.1 1460)))) + (wrap64 (Int.tdiv bt244.2.1 36524)))) - (wrap64 (Int.tdiv bt244.2.1 146096)))) 365)))) + (wrap64 (Int.tdiv (wrap64 (Int.tdiv (wrap64 ((wrap64 ((wrap64 (bt244.2.1 - (wrap64 (Int.tdiv bt244.2.1 1460)))) + (wrap64 (Int.tdiv bt244.2.1 36524)))) - (wrap64 (Int.tdiv bt244.2.1 146096)))) 365)) 4)))) - (wrap64 (Int.tdiv (wrap64 (Int.tdiv (wrap64 ((wrap64 ((wrap64 (bt244.2.1 - (wrap64 (Int.tdiv bt244.2.1 1460)))) + (wrap64 (Int.tdiv bt244.2.1 36524)))) - (wrap64 (Int.tdiv bt244.2.1 146096)))) 365)) 100)))))) - (wrap64 (Int.tdiv (wrap64 ((wrap64 (153 * (wrap64 (Int.tdiv (wrap64 ((wrap64 (5 * (wrap64 (bt244.2.1 - (wrap64 ((wrap64 ((wrap64 (365 * (wrap64 (Int.tdiv (wrap64 ((wrap64 ((wrap64 (bt244.2.1 - (wrap64 (Int.tdiv bt244.2.1 1460)))) + (wrap64 (Int.tdiv bt244.2.1 36524)))) - (wrap64 (Int.tdiv bt244.2.1 146096)))) 365)))) + (wrap64 (Int.tdiv (wrap64 (Int.tdiv (wrap64 ((wrap64 ((wrap64 (bt244.2.1 - (wrap64 (Int.tdiv bt244.2.1 1460)))) + (wrap64 (Int.tdiv bt244.2.1 36524)))) - (wrap64 (Int.tdiv bt244.2.1 146096)))) 365)) 4)))) - (wrap64 (Int.tdiv (wrap64 (Int.tdiv (wrap64 ((wrap64 ((wrap64 (bt244.2.1 - (wrap64 (Int.tdiv bt244.2.1 1460)))) + (wrap64 (Int.tdiv bt244.2.1 36524)))) - (wrap64 (Int.tdiv bt244.2.1 146096)))) 365)) 100)))))))) + 2)) 153)))) + 2)) 5)))) + 1), 0)) else (some (0, 0, 0, 2)))) else ((civil_may.f (wrap64 ((wrap64 (Int.tdiv (wrap64 ((wrap64 ((wrap64 (bt244.2.1 - (wrap64 (Int.tdiv bt244.2.1 1460)))) + (wrap64 (Int.tdiv bt244.2.1 36524)))) - (wrap64 (Int.tdiv bt244.2.1 146096)))) 365)) + (wrap64 (400 * bt244.1))))).bind fun t248 => (if t248 = true then (some (wrap64 ((wrap64 (Int.tdiv (wrap64 ((wrap64 ((wrap64 (bt244.2.1 - (wrap64 (Int.tdiv bt244.2.1 1460)))) + (wrap64 (Int.tdiv bt244.2.1 36524)))) - (wrap64 (Int.tdiv bt244.2.1 146096)))) 365)) + (wrap64 (400 * bt244.1))), wrap64 ((wrap64 (Int.tdiv (wrap64 ((wrap64 (5 * (wrap64 (bt244.2.1 - (wrap64 ((wrap64 ((wrap64 (365 * (wrap64 (Int.tdiv (wrap64 ((wrap64 ((wrap64 (bt244.2.1 - (wrap64 (Int.tdiv bt244.2.1 1460)))) + (wrap64 (Int.tdiv bt244.2.1 36524)))) - (wrap64 (Int.tdiv bt244.2.1 146096)))) 365)))) + (wrap64 (Int.tdiv (wrap64 (Int.tdiv (wrap64 ((wrap64 ((wrap64 (bt244.2.1 - (wrap64 (Int.tdiv bt244.2.1 1460)))) + (wrap64 (Int.tdiv bt244.2.1 36524)))) - (wrap64 (Int.tdiv bt244.2.1 146096)))) 365)) 4)))) - (wrap64 (Int.tdiv (wrap64 (Int.tdiv (wrap64 ((wrap64 ((wrap64 (bt244.2.1 - (wrap64 (Int.tdiv bt244.2.1 1460)))) + (wrap64 (Int.tdiv bt244.2.1 36524)))) - (wrap64 (Int.tdiv bt244.2.1 146096)))) 365)) 100)))))))) + 2)) 153)) + 3), wrap64 ((wrap64 ((wrap64 (bt244.2.1 - (wrap64 ((wrap64 ((wrap64 (365 * (wrap64 (Int.tdiv (wrap64 ((wrap64 ((wrap64 (bt244.2.1 - (wrap64 (Int.tdiv bt244.2.1 1460)))) + (wrap64 (Int.tdiv bt244.2.1 36524)))) - (wrap64 (Int.tdiv bt244.2.1 146096)))) 365)))) + (wrap64 (Int.tdiv (wrap64 (Int.tdiv (wrap64 ((wrap64 ((wrap64 (bt244.2.1 - (wrap64 (Int.tdiv bt244.2.1 1460)))) + (wrap64 (Int.tdiv bt244.2.1 36524)))) - (wrap64 (Int.tdiv bt244.2.1 146096)))) 365)) 4)))) - (wrap64 (Int.tdiv (wrap64 (Int.tdiv (wrap64 ((wrap64 ((wrap64 (bt244.2.1 - (wrap64 (Int.tdiv bt244.2.1 1460)))) + (wrap64 (Int.tdiv bt244.2.1 36524)))) - (wrap64 (Int.tdiv bt244.2.1 146096)))) 365)) 100)))))) - (wrap64 (Int.tdiv (wrap64 ((wrap64 (153 * (wrap64 (Int.tdiv (wrap64 ((wrap64 (5 * (wrap64 (bt244.2.1 - (wrap64 ((wrap64 ((wrap64 (365 * (wrap64 (Int.tdiv (wrap64 ((wrap64 ((wrap64 (bt244.2.1 - (wrap64 (Int.tdiv bt244.2.1 1460)))) + (wrap64 (Int.tdiv bt244.2.1 36524)))) - (wrap64 (Int.tdiv bt244.2.1 146096)))) 365)))) + (wrap64 (Int.tdiv (wrap64 (Int.tdiv (wrap64 ((wrap64 ((wrap64 (bt244.2.1 - (wrap64 (Int.tdiv bt244.2.1 1460)))) + (wrap64 (Int.tdiv bt244.2.1 36524)))) - (wrap64 (Int.tdiv bt244.2.1 146096)))) 365)) 4)))) - (wrap64 (Int.tdiv (wrap64 (Int.tdiv (wrap64 ((wrap64 ((wrap64 (bt244.2.1 - (wrap64 (Int.tdiv bt244.2.1 1460)))) + (wrap64 (Int.tdiv bt244.2.1 36524)))) - (wrap64 (Int.tdiv bt244.2.1 146096)))) 365)) 100)))))))) + 2)) 153)))) + 2)) 5)))) + 1), 0)) else (some (0, 0, 0, 2)))))) = some (r1, r2, r3, r4) := by rw [if_pos rfl] at H; exact H
    clear H
    have H := H1
    clear H1
    replace H := Option.bind_eq_some_iff.mp H
    obtain ⟨⟨t244, t245, t246⟩, A40, H⟩ := H
    replace H : (if (wrap64 ((wrap64 (Int.tdiv (wrap64 ((wrap64 (5 * (wrap64 (t245 - (wrap64 ((wrap64 ((wrap64 (365 * (wrap64 (Int.tdiv (wrap64 ((wrap64 ((wrap64 (t245 - (wrap64 (Int.tdiv t245 1460)))) + (wrap64 (Int.tdiv t245 36524)))) - (wrap64 (Int.tdiv t245 146096)))) 365)))) + (wrap64 (Int.tdiv (wrap64 (Int.tdiv (wrap64 ((wrap64 ((wrap64 (t245 - (wrap64 (Int.tdiv t245 1460)))) + (wrap64 (Int.tdiv t245 36524)))) - (wrap64 (Int.tdiv t245 146096)))) 365)) 4)))) - (wrap64 (Int.tdiv (wrap64 (Int.tdiv (wrap64 ((wrap64 ((wrap64 (t245 - (wrap64 (Int.tdiv t245 1460)))) + (wrap64 (Int.tdiv t245 36524)))) - (wrap64 (Int.tdiv t245 146096)))) 365)) 100)))))))) + 2)) 153)) + 3)) > 12 then ((civil_may.f (wrap64 ((wrap64 ((wrap64 (Int.tdiv (wrap64 ((wrap64 ((wrap64 (t245 - (wrap64 (Int.tdiv t245 1460)))) + (wrap64 (Int.tdiv t245 36524)))) - (wrap64 (Int.tdiv t245 146096)))) 365)) + (wrap64 (400 * t244)))) + 1))).bind fun t247 => (if t247 = true then (some (wrap64 ((wrap64 ((wrap64 (Int.tdiv (wrap64 ((wrap64 ((wrap64 (t245 - (wrap64 (Int.tdiv t245 1460)))) + (wrap64 (Int.tdiv t245 36524)))) - (wrap64 (Int.tdiv t245 146096)))) 365)) + (wrap64 (400 * t244)))) + 1), wrap64 ((wrap64 ((wrap64 (Int.tdiv (wrap64 ((wrap64 (5 * (wrap64 (t245 - (wrap64 ((wrap64 ((wrap64 (365 * (wrap64 (Int.tdiv (wrap64 ((wrap64 ((wrap64 (t245 - (wrap64 (Int.tdiv t245 1460)))) + (wrap64 (Int.tdiv t245 36524)))) - (wrap64 (Int.tdiv t245 146096)))) 365)))) + (wrap64 (Int.tdiv (wrap64 (Int.tdiv (wrap64 ((wrap64 ((wrap64 (t245 - (wrap64 (Int.tdiv t245 1460)))) + (wrap64 (Int.tdiv t245 36524)))) - (wrap64 (Int.tdiv t245 146096)))) 365)) 4)))) - (wrap64 (Int.tdiv (wrap64 (Int.tdiv (wrap64 ((wrap64 ((wrap64 (t245 - (wrap64 (Int.tdiv t245 1460)))) + (wrap64 (Int.tdiv t245 36524)))) - (wrap64 (Int.tdiv t245 146096)))) 365)) 100)))))))) + 2)) 153)) + 3)) - 12), wrap64 ((wrap64 ((wrap64 (t245 - (wrap64 ((wrap64 ((wrap64 (365 * (wrap64 (Int.tdiv (wrap64 ((wrap64 ((wrap64 (t245 - (wrap64 (Int.tdiv t245 1460)))) + (wrap64 (Int.tdiv t245 36524)))) - (wrap64 (Int.tdiv t245 146096)))) 365)))) + (wrap64 (Int.tdiv (wrap64 (Int.tdiv (wrap64 ((wrap64 ((wrap64 (t245 - (wrap64 (Int.tdiv t245 1460)))) + (wrap64 (Int.tdiv t245 36524)))) - (wrap64 (Int.tdiv t245 146096)))) 365)) 4)))) - (wrap64 (Int.tdiv (wrap64 (Int.tdiv (wrap64 ((wrap64 ((wrap64 (t245 - (wrap64 (Int.tdiv t245 1460)))) + (wrap64 (Int.tdiv t245 36524)))) - (wrap64 (Int.tdiv t245 146096)))) 365)) 100)))))) - (wrap64 (Int.tdiv (wrap64 ((wrap64 (153 * (wrap64 (Int.tdiv (wrap64 ((wrap64 (5 * (wrap64 (t245 - (wrap64 ((wrap64 ((wrap64 (365 * (wrap64 (Int.tdiv (wrap64 ((wrap64 ((wrap64 (t245 - (wrap64 (Int.tdiv t245 1460)))) + (wrap64 (Int.tdiv t245 36524)))) - (wrap64 (Int.tdiv t245 146096)))) 365)))) + (wrap64 (Int.tdiv (wrap64 (Int.tdiv (wrap64 ((wrap64 ((wrap64 (t245 - (wrap64 (Int.tdiv t245 1460)))) + (wrap64 (Int.tdiv t245 36524)))) - (wrap64 (Int.tdiv t245 146096)))) 365)) 4)))) - (wrap64 (Int.tdiv (wrap64 (Int.tdiv (wrap64 ((wrap64 ((wrap64 (t245 - (wrap64 (Int.tdiv t245 1460)))) + (wrap64 (Int.tdiv t245 36524)))) - (wrap64 (Int.tdiv t245 146096)))) 365)) 100)))))))) + 2)) 153)))) + 2)) 5)))) + 1), 0)) else (some (0, 0, 0, 2)))) else ((civil_may.f (wrap64 ((wrap64 (Int.tdiv (wrap64 ((wrap64 ((wrap64 (t245 - (wrap64 (Int.tdiv t245 1460)))) + (wrap64 (Int.tdiv t245 36524)))) - (wrap64 (Int.tdiv t245 146096)))) 365)) + (wrap64 (400 * t244))))).bind fun t248 => (if t248 = true then (some (wrap64 ((wrap64 (Int.tdiv (wrap64 ((wrap64 ((wrap64 (t245 - (wrap64 (Int.tdiv t245 1460)))) + (wrap64 (Int.tdiv t245 36524)))) - (wrap64 (Int.tdiv t245 146096)))) 365)) + (wrap64 (400 * t244))), wrap64 ((wrap64 (Int.tdiv (wrap64 ((wrap64 (5 * (wrap64 (t245 - (wrap64 ((wrap64 ((wrap64 (365 * (wrap64 (Int.tdiv (wrap64 ((wrap64 ((wrap64 (t245 - (wrap64 (Int.tdiv t245 1460)))) + (wrap64 (Int.tdiv t245 36524)))) - (wrap64 (Int.tdiv t245 146096)))) 365)))) + (wrap64 (Int.tdiv (wrap64 (Int.tdiv (wrap64 ((wrap64 ((wrap64 (t245 - (wrap64 (Int.tdiv t245 1460)))) + (wrap64 (Int.tdiv t245 36524)))) - (wrap64 (Int.tdiv t245 146096)))) 365)) 4)))) - (wrap64 (Int.tdiv (wrap64 (Int.tdiv (wrap64 ((wrap64 ((wrap64 (t245 - (wrap64 (Int.tdiv t245 1460)))) + (wrap64 (Int.tdiv t245 36524)))) - (wrap64 (Int.tdiv t245 146096)))) 365)) 100)))))))) + 2)) 153)) + 3), wrap64 ((wrap64 ((wrap64 (t245 - (wrap64 ((wrap64 ((wrap64 (365 * (wrap64 (Int.tdiv (wrap64 ((wrap64 ((wrap64 (t245 - (wrap64 (Int.tdiv t245 1460)))) + (wrap64 (Int.tdiv t245 36524)))) - (wrap64 (Int.tdiv t245 146096)))) 365)))) + (wrap64 (Int.tdiv (wrap64 (Int.tdiv (wrap64 ((wrap64 ((wrap64 (t245 - (wrap64 (Int.tdiv t245 1460)))) + (wrap64 (Int.tdiv t245 36524)))) - (wrap64 (Int.tdiv t245 146096)))) 365)) 4)))) - (wrap64 (Int.tdiv (wrap64 (Int.tdiv (wrap64 ((wrap64 ((wrap64 (t245 - (wrap64 (Int.tdiv t245 1460)))) + (wrap64 (Int.tdiv t245 36524)))) - (wrap64 (Int.tdiv t245 146096)))) 365)) 100)))))) - (wrap64 (Int.tdiv (wrap64 ((wrap64 (153 * (wrap64 (Int.tdiv (wrap64 ((wrap64 (5 * (wrap64 (t245 - (wrap64 ((wrap64 ((wrap64 (365 * (wrap64 (Int.tdiv (wrap64 ((wrap64 ((wrap64 (t245 - (wrap64 (Int.tdiv t245 1460)))) + (wrap64 (Int.tdiv t245 36524)))) - (wrap64 (Int.tdiv t245 146096)))) 365)))) + (wrap64 (Int.tdiv (wrap64 (Int.tdiv (wrap64 ((wrap64 ((wrap64 (t245 - (wrap64 (Int.tdiv t245 1460)))) + (wrap64 (Int.tdiv t245 36524)))) - (wrap64 (Int.tdiv t245 146096)))) 365)) 4)))) - (wrap64 (Int.tdiv (wrap64 (Int.tdiv (wrap64 ((wrap64 ((wrap64 (t245 - (wrap64 (Int.tdiv t245 1460)))) + (wrap64 (Int.tdiv t245 36524)))) - (wrap64 (Int.tdiv t245 146096)))) 365)) 100)))))))) + 2)) 153)))) + 2)) 5)))) + 1), 0)) else (some (0, 0, 0, 2))))) = some (r1, r2, r3, r4) := H
    have A4 := Aside0.mk A40
    clear A40
    by_cases c5 : (wrap64 ((wrap64 (Int.tdiv (wrap64 ((wrap64 (5 * (wrap64 (t245 - (wrap64 ((wrap64 ((wrap64 (365 * (wrap64 (Int.tdiv (wrap64 ((wrap64 ((wrap64 (t245 - (wrap64 (Int.tdiv t245 1460)))) + (wrap64 (Int.tdiv t245 36524)))) - (wrap64 (Int.tdiv t245 146096)))) 365)))) + (wrap64 (Int.tdiv (wrap64 (Int.tdiv (wrap64 ((wrap64 ((wrap64 (t245 - (wrap64 (Int.tdiv t245 1460)))) + (wrap64 (Int.tdiv t245 36524)))) - (wrap64 (Int.tdiv t245 146096)))) 365)) 4)))) - (wrap64 (Int.tdiv (wrap64 (Int.tdiv (wrap64 ((wrap64 ((wrap64 (t245 - (wrap64 (Int.tdiv t245 1460)))) + (wrap64 (Int.tdiv t245 36524)))) - (wrap64 (Int.tdiv t245 146096)))) 365)) 100)))))))) + 2)) 153)) + 3)) > 12
    · rw [if_pos c5] at H
      have c5b0 : decide (12 < (wrap64 ((wrap64 (Int.tdiv (wrap64 ((wrap64 (5 * (wrap64 (t245 - (wrap64 ((wrap64 ((wrap64 (365 * (wrap64 (Int.tdiv (wrap64 ((wrap64 ((wrap64 (t245 - (wrap64 (Int.tdiv t245 1460)))) + (wrap64 (Int.tdiv t245 36524)))) - (wrap64 (Int.tdiv t245 146096)))) 365)))) + (wrap64 (Int.tdiv (wrap64 (Int.tdiv (wrap64 ((wrap64 ((wrap64 (t245 - (wrap64 (Int.tdiv t245 1460)))) + (wrap64 (Int.tdiv t245 36524)))) - (wrap64 (Int.tdiv t245 146096)))) 365)) 4)))) - (wrap64 (Int.tdiv (wrap64 (Int.tdiv (wrap64 ((wrap64 ((wrap64 (t245 - (wrap64 (Int.tdiv t245 1460)))) + (wrap64 (Int.tdiv t245 36524)))) - (wrap64 (Int.tdiv t245 146096)))) 365)) 100)))))))) + 2)) 153)) + 3))) = true := decide_eq_true c5
      clear c5
      replace H := Option.bind_eq_some_iff.mp H
      obtain ⟨t247, A60, H⟩ := H
      replace H : (if t247 = true then (some (wrap64 ((wrap64 ((wrap64 (Int.tdiv (wrap64 ((wrap64 ((wrap64 (t245 - (wrap64 (Int.tdiv t245 1460)))) + (wrap64 (Int.tdiv t245 36524)))) - (wrap64 (Int.tdiv t245 146096)))) 365)) + (wrap64 (400 * t244)))) + 1), wrap64 ((wrap64 ((wrap64 (Int.tdiv (wrap64 ((wrap64 (5 * (wrap64 (t245 - (wrap64 ((wrap64 ((wrap64 (365 * (wrap64 (Int.tdiv (wrap64 ((wrap64 ((wrap64 (t245 - (wrap64 (Int.tdiv t245 1460)))) + (wrap64 (Int.tdiv t245 36524)))) - (wrap64 (Int.tdiv t245 146096)))) 365)))) + (wrap64 (Int.tdiv (wrap64 (Int.tdiv (wrap64 ((wrap64 ((wrap64 (t245 - (wrap64 (Int.tdiv t245 1460)))) + (wrap64 (Int.tdiv t245 36524)))) - (wrap64 (Int.tdiv t245 146096)))) 365)) 4)))) - (wrap64 (Int.tdiv (wrap64 (Int.tdiv (wrap64 ((wrap64 ((wrap64 (t245 - (wrap64 (Int.tdiv t245 1460)))) + (wrap64 (Int.tdiv t245 36524)))) - (wrap64 (Int.tdiv t245 146096)))) 365)) 100)))))))) + 2)) 153)) + 3)) - 12), wrap64 ((wrap64 ((wrap64 (t245 - (wrap64 ((wrap64 ((wrap64 (365 * (wrap64 (Int.tdiv (wrap64 ((wrap64 ((wrap64 (t245 - (wrap64 (Int.tdiv t245 1460)))) + (wrap64 (Int.tdiv t245 36524)))) - (wrap64 (Int.tdiv t245 146096)))) 365)))) + (wrap64 (Int.tdiv (wrap64 (Int.tdiv (wrap64 ((wrap64 ((wrap64 (t245 - (wrap64 (Int.tdiv t245 1460)))) + (wrap64 (Int.tdiv t245 36524)))) - (wrap64 (Int.tdiv t245 146096)))) 365)) 4)))) - (wrap64 (Int.tdiv (wrap64 (Int.tdiv (wrap64 ((wrap64 ((wrap64 (t245 - (wrap64 (Int.tdiv t245 1460)))) + (wrap64 (Int.tdiv t245 36524)))) - (wrap64 (Int.tdiv t245 146096)))) 365)) 100)))))) - (wrap64 (Int.tdiv (wrap64 ((wrap64 (153 * (wrap64 (Int.tdiv (wrap64 ((wrap64 (5 * (wrap64 (t245 - (wrap64 ((wrap64 ((wrap64 (365 * (wrap64 (Int.tdiv (wrap64 ((wrap64 ((wrap64 (t245 - (wrap64 (Int.tdiv t245 1460)))) + (wrap64 (Int.tdiv t245 36524)))) - (wrap64 (Int.tdiv t245 146096)))) 365)))) + (wrap64 (Int.tdiv (wrap64 (Int.tdiv (wrap64 ((wrap64 ((wrap64 (t245 - (wrap64 (Int.tdiv t245 1460)))) + (wrap64 (Int.tdiv t245 36524)))) - (wrap64 (Int.tdiv t245 146096)))) 365)) 4)))) - (wrap64 (Int.tdiv (wrap64 (Int.tdiv (wrap64 ((wrap64 ((wrap64 (t245 - (wrap64 (Int.tdiv t245 1460)))) + (wrap64 (Int.tdiv t245 36524)))) - (wrap64 (Int.tdiv t245 146096)))) 365)) 100)))))))) + 2)) 153)))) + 2)) 5)))) + 1), 0)) else (some (0, 0, 0, 2))) = some (r1, r2, r3, r4) := H
      have A6 := Aside0.mk A60
      clear A60
      by_cases c7 : t247 = true
      · subst c7
        have H1 : (some (wrap64 ((wrap64 ((wrap64 (Int.tdiv (wrap64 ((wrap64 ((wrap64 (t245 - (wrap64 (Int.tdiv t245 1460)))) + (wrap64 (Int.tdiv t245 36524)))) - (wrap64 (Int.tdiv t245 146096)))) 365)) + (wrap64 (400 * t244)))) + 1), wrap64 ((wrap64 ((wrap64 (Int.tdiv (wrap64 ((wrap64 (5 * (wrap64 (t245 - (wrap64 ((wrap64 ((wrap64 (365 * (wrap64 (Int.tdiv (wrap64 ((wrap64 ((wrap64 (t245 - (wrap64 (Int.tdiv t245 1460)))) + (wrap64 (Int.tdiv t245 36524)))) - (wrap64 (Int.tdiv t245 146096)))) 365)))) + (wrap64 (Int.tdiv (wrap64 (Int.tdiv (wrap64 ((wrap64 ((wrap64 (t245 - (wrap64 (Int.tdiv t245 1460)))) + (wrap64 (Int.tdiv t245 36524)))) - (wrap64 (Int.tdiv t245 146096)))) 365)) 4)))) - (wrap64 (Int.tdiv (wrap64 (Int.tdiv (wrap64 ((wrap64 ((wrap64 (t245 - (wrap64 (Int.tdiv t245 1460)))) + (wrap64 (Int.tdiv t245 36524)))) - (wrap64 (Int.tdiv t245 146096)))) 365)) 100)))))))) + 2)) 153)) + 3)) - 12), wrap64 ((wrap64 ((wrap64 (t245 - (wrap64 ((wrap64 ((wrap64 (365 * (wrap64 (Int.tdiv (wrap64 ((wrap64 ((wrap64 (t245 - (wrap64 (Int.tdiv t245 1460)))) + (wrap64 (Int.tdiv t245 36524)))) - (wrap64 (Int.tdiv t245 146096)))) 365)))) + (wrap64 (Int.tdiv (wrap64 (Int.tdiv (wrap64 ((wrap64 ((wrap64 (t245 - (wrap64 (Int.tdiv t245 1460)))) + (wrap64 (Int.tdiv t245 36524)))) - (wrap64 (Int.tdiv t245 146096)))) 365)) 4)))) - (wrap64 (Int.tdiv (wrap64 (Int.tdiv (wrap64 ((wrap64 ((wrap64 (t245 - (wrap64 (Int.tdiv t245 1460)))) + (wrap64 (Int.tdiv t245 36524)))) - (wrap64 (Int.tdiv t245 146096)))) 365)) 100)))))) - (wrap64 (Int.tdiv (wrap64 ((wrap64 (153 * (wrap64 (Int.tdiv (wrap64 ((wrap64 (5 * (wrap64 (t245 - (wrap64 ((wrap64 ((wrap64 (365 * (wrap64 (Int.tdiv (wrap64 ((wrap64 ((wrap64 (t245 - (wrap64 (Int.tdiv t245 1460)))) + (wrap64 (Int.tdiv t245 36524)))) - (wrap64 (Int.tdiv t245 146096)))) 365)))) + (wrap64 (Int.tdiv (wrap64 (Int.tdiv (wrap64 ((wrap64 ((wrap64 (t245 - (wrap64 (Int.tdiv t245 1460)))) + (wrap64 (Int.tdiv t245 36524)))) - (wrap64 (Int.tdiv t245 146096)))) 365)) 4)))) - (wrap64 (Int.tdiv (wrap64 (Int.tdiv (wrap64 ((wrap64 ((wrap64 (t245 - (wrap64 (Int.tdiv t245 1460)))) + (wrap64 (Int.tdiv t245 36524)))) - (wrap64 (Int.tdiv t245 146096)))) 365)) 100)))))))) + 2)) 153)))) + 2)) 5)))) + 1), 0)) = some (r1, r2, r3, r4) := by rw [if_pos rfl] at H; exact H
        clear H
        have H := H1
        clear H1
        simp only [Option.some.injEq, Prod.mk.injEq] at H
        obtain ⟨rfl, rfl, rfl, rfl⟩ := H
        go_enter Tryd.func21, Tryd.ntmps21
        go_wp2_with (first | ((with_reducible refine gate_callee (f := 42) rfl ?_); refine goesL_ (some 15) rfl rfl Tryd.func42 (by kernel_rfl) rfl #[.int .i64 a0, .int .i64 719468] rfl (by (try simp only [List.map_toArray, List.map_cons, List.map_nil]); first | done | rfl | (simp only [List.length_drop, List.length_take]; rfl)) ?_; (with_reducible refine (number_Add.calls a0 719468 t242 true _ A2.out).mono ?_); rintro e w' ⟨rfl, ⟨nd, rfl⟩⟩; refine ⟨_, rfl, ?_⟩) | ((with_reducible refine gate_callee (f := 34) rfl ?_); refine goesL_ (some 22) rfl rfl Tryd.func34 (by kernel_rfl) rfl #[.int .i64 t242, .int .i64 146097] rfl (by (try simp only [List.map_toArray, List.map_cons, List.map_nil]); first | done | rfl | (simp only [List.length_drop, List.length_take]; rfl)) ?_; (with_reducible refine (number_Div.calls t242 146097 t244 t245 t246 _ A4.out).mono ?_); rintro e w' ⟨rfl, ⟨nd, rfl⟩⟩; refine ⟨_, rfl, ?_⟩) | ((with_reducible refine gate_callee (f := 43) rfl ?_); refine goesL_ (some 71) rfl rfl Tryd.func43 (by kernel_rfl) rfl #[.int .i64 (wrap64 ((wrap64 ((wrap64 (Int.tdiv (wrap64 ((wrap64 ((wrap64 (t245 - (wrap64 (Int.tdiv t245 1460)))) + (wrap64 (Int.tdiv t245 36524)))) - (wrap64 (Int.tdiv t245 146096)))) 365)) + (wrap64 (400 * t244)))) + 1))] rfl (by (try simp only [List.map_toArray, List.map_cons, List.map_nil]); first | done | rfl | (simp only [List.length_drop, List.length_take]; rfl)) ?_; (with_reducible refine (civil_may.calls (wrap64 ((wrap64 ((wrap64 (Int.tdiv (wrap64 ((wrap64 ((wrap64 (t245 - (wrap64 (Int.tdiv t245 1460)))) + (wrap64 (Int.tdiv t245 36524)))) - (wrap64 (Int.tdiv t245 146096)))) 365)) + (wrap64 (400 * t244)))) + 1)) true _ A6.out).mono ?_); rintro e w' ⟨rfl, ⟨nd, rfl⟩⟩; refine ⟨_, rfl, ?_⟩))
        refine bodyPost_ret (results_list (rs := [.tmp 2, .tmp 3, .tmp 4, .tmp 5]) rfl (by simp) (.tmp (.tmp (.tmp (.tmp .nil))))) rfl ?_
        exact ⟨by first | rfl | (simp; done) | (simp [*]; done), by repeat (first | exact Drawn0.refl _ | apply Drawn0.step)⟩
      · replace c7 := Bool.eq_false_iff.mpr c7
        subst c7
        have H1 : (some (0, 0, 0, 2)) = some (r1, r2, r3, r4) := by rw [if_neg (show ¬ (false = true) by decide)] at H; exact H
        clear H
        have H := H1
        clear H1
        simp only [Option.some.injEq, Prod.mk.injEq] at H
        obtain ⟨rfl, rfl, rfl, rfl⟩ := H
        go_enter Tryd.func21, Tryd.ntmps21
        go_wp2_with (first | ((with_reducible refine gate_callee (f := 42) rfl ?_); refine goesL_ (some 15) rfl rfl Tryd.func42 (by kernel_rfl) rfl #[.int .i64 a0, .int .i64 719468] rfl (by (try simp only [List.map_toArray, List.map_cons, List.map_nil]); first | done | rfl | (simp only [List.length_drop, List.length_take]; rfl)) ?_; (with_reducible refine (number_Add.calls a0 719468 t242 true _ A2.out).mono ?_); rintro e w' ⟨rfl, ⟨nd, rfl⟩⟩; refine ⟨_, rfl, ?_⟩) | ((with_reducible refine gate_callee (f := 34) rfl ?_); refine goesL_ (some 22) rfl rfl Tryd.func34 (by kernel_rfl) rfl #[.int .i64 t242, .int .i64 146097] rfl (by (try simp only [List.map_toArray, List.map_cons, List.map_nil]); first | done | rfl | (simp only [List.length_drop, List.length_take]; rfl)) ?_; (with_reducible refine (number_Div.calls t242 146097 t244 t245 t246 _ A4.out).mono ?_); rintro e w' ⟨rfl, ⟨nd, rfl⟩⟩; refine ⟨_, rfl, ?_⟩) | ((with_reducible refine gate_callee (f := 43) rfl ?_); refine goesL_ (some 71) rfl rfl Tryd.func43 (by kernel_rfl) rfl #[.int .i64 (wrap64 ((wrap64 ((wrap64 (Int.tdiv (wrap64 ((wrap64 ((wrap64 (t245 - (wrap64 (Int.tdiv t245 1460)))) + (wrap64 (Int.tdiv t245 36524)))) - (wrap64 (Int.tdiv t245 146096)))) 365)) + (wrap64 (400 * t244)))) + 1))] rfl (by (try simp only [List.map_toArray, List.map_cons, List.map_nil]); first | done | rfl | (simp only [List.length_drop, List.length_take]; rfl)) ?_; (with_reducible refine (civil_may.calls (wrap64 ((wrap64 ((wrap64 (Int.tdiv (wrap64 ((wrap64 ((wrap64 (t245 - (wrap64 (Int.tdiv t245 1460)))) + (wrap64 (Int.tdiv t245 36524)))) - (wrap64 (Int.tdiv t245 146096)))) 365)) + (wrap64 (400 * t244)))) + 1)) false _ A6.out).mono ?_); rintro e w' ⟨rfl, ⟨nd, rfl⟩⟩; refine ⟨_, rfl, ?_⟩))
        refine bodyPost_ret (results_list (rs := [.tmp 2, .tmp 3, .tmp 4, .tmp 5]) rfl (by simp) (.tmp (.tmp (.tmp (.tmp .nil))))) rfl ?_
        exact ⟨by first | rfl | (simp; done) | (simp [*]; done), by repeat (first | exact Drawn0.refl _ | apply Drawn0.step)⟩
    · rw [if_neg c5] at H
      have c5b0 : decide (12 < (wrap64 ((wrap64 (Int.tdiv (wrap64 ((wrap64 (5 * (wrap64 (t245 - (wrap64 ((wrap64 ((wrap64 (365 * (wrap64 (Int.tdiv (wrap64 ((wrap64 ((wrap64 (t245 - (wrap64 (Int.tdiv t245 1460)))) + (wrap64 (Int.tdiv t245 36524)))) - (wrap64 (Int.tdiv t245 146096)))) 365)))) + (wrap64 (Int.tdiv (wrap64 (Int.tdiv (wrap64 ((wrap64 ((wrap64 (t245 - (wrap64 (Int.tdiv t245 1460)))) + (wrap64 (Int.tdiv t245 36524)))) - (wrap64 (Int.tdiv t245 146096)))) 365)) 4)))) - (wrap64 (Int.tdiv (wrap64 (Int.tdiv (wrap64 ((wrap64 ((wrap64 (t245 - (wrap64 (Int.tdiv t245 1460)))) + (wrap64 (Int.tdiv t245 36524)))) - (wrap64 (Int.tdiv t245 146096)))) 365)) 100)))))))) + 2)) 153)) + 3))) = false := decide_eq_false c5
      clear c5
      replace H := Option.bind_eq_some_iff.mp H
      obtain ⟨t248, A80, H⟩ := H
      replace H : (if t248 = true then (some (wrap64 ((wrap64 (Int.tdiv (wrap64 ((wrap64 ((wrap64 (t245 - (wrap64 (Int.tdiv t245 1460)))) + (wrap64 (Int.tdiv t245 36524)))) - (wrap64 (Int.tdiv t245 146096)))) 365)) + (wrap64 (400 * t244))), wrap64 ((wrap64 (Int.tdiv (wrap64 ((wrap64 (5 * (wrap64 (t245 - (wrap64 ((wrap64 ((wrap64 (365 * (wrap64 (Int.tdiv (wrap64 ((wrap64 ((wrap64 (t245 - (wrap64 (Int.tdiv t245 1460)))) + (wrap64 (Int.tdiv t245 36524)))) - (wrap64 (Int.tdiv t245 146096)))) 365)))) + (wrap64 (Int.tdiv (wrap64 (Int.tdiv (wrap64 ((wrap64 ((wrap64 (t245 - (wrap64 (Int.tdiv t245 1460)))) + (wrap64 (Int.tdiv t245 36524)))) - (wrap64 (Int.tdiv t245 146096)))) 365)) 4)))) - (wrap64 (Int.tdiv (wrap64 (Int.tdiv (wrap64 ((wrap64 ((wrap64 (t245 - (wrap64 (Int.tdiv t245 1460)))) + (wrap64 (Int.tdiv t245 36524)))) - (wrap64 (Int.tdiv t245 146096)))) 365)) 100)))))))) + 2)) 153)) + 3), wrap64 ((wrap64 ((wrap64 (t245 - (wrap64 ((wrap64 ((wrap64 (365 * (wrap64 (Int.tdiv (wrap64 ((wrap64 ((wrap64 (t245 - (wrap64 (Int.tdiv t245 1460)))) + (wrap64 (Int.tdiv t245 36524)))) - (wrap64 (Int.tdiv t245 146096)))) 365)))) + (wrap64 (Int.tdiv (wrap64 (Int.tdiv (wrap64 ((wrap64 ((wrap64 (t245 - (wrap64 (Int.tdiv t245 1460)))) + (wrap64 (Int.tdiv t245 36524)))) - (wrap64 (Int.tdiv t245 146096)))) 365)) 4)))) - (wrap64 (Int.tdiv (wrap64 (Int.tdiv (wrap64 ((wrap64 ((wrap64 (t245 - (wrap64 (Int.tdiv t245 1460)))) + (wrap64 (Int.tdiv t245 36524)))) - (wrap64 (Int.tdiv t245 146096)))) 365)) 100)))))) - (wrap64 (Int.tdiv (wrap64 ((wrap64 (153 * (wrap64 (Int.tdiv (wrap64 ((wrap64 (5 * (wrap64 (t245 - (wrap64 ((wrap64 ((wrap64 (365 * (wrap64 (Int.tdiv (wrap64 ((wrap64 ((wrap64 (t245 - (wrap64 (Int.tdiv t245 1460)))) + (wrap64 (Int.tdiv t245 36524)))) - (wrap64 (Int.tdiv t245 146096)))) 365)))) + (wrap64 (Int.tdiv (wrap64 (Int.tdiv (wrap64 ((wrap64 ((wrap64 (t245 - (wrap64 (Int.tdiv t245 1460)))) + (wrap64 (Int.tdiv t245 36524)))) - (wrap64 (Int.tdiv t245 146096)))) 365)) 4)))) - (wrap64 (Int.tdiv (wrap64 (Int.tdiv (wrap64 ((wrap64 ((wrap64 (t245 - (wrap64 (Int.tdiv t245 1460)))) + (wrap64 (Int.tdiv t245 36524)))) - (wrap64 (Int.tdiv t245 146096)))) 365)) 100)))))))) + 2)) 153)))) + 2)) 5)))) + 1), 0)) else (some (0, 0, 0, 2))) = some (r1, r2, r3, r4) := H
      have A8 := Aside0.mk A80
      clear A80
      by_cases c9 : t248 = true
      · subst c9
        have H1 : (some (wrap64 ((wrap64 (Int.tdiv (wrap64 ((wrap64 ((wrap64 (t245 - (wrap64 (Int.tdiv t245 1460)))) + (wrap64 (Int.tdiv t245 36524)))) - (wrap64 (Int.tdiv t245 146096)))) 365)) + (wrap64 (400 * t244))), wrap64 ((wrap64 (Int.tdiv (wrap64 ((wrap64 (5 * (wrap64 (t245 - (wrap64 ((wrap64 ((wrap64 (365 * (wrap64 (Int.tdiv (wrap64 ((wrap64 ((wrap64 (t245 - (wrap64 (Int.tdiv t245 1460)))) + (wrap64 (Int.tdiv t245 36524)))) - (wrap64 (Int.tdiv t245 146096)))) 365)))) + (wrap64 (Int.tdiv (wrap64 (Int.tdiv (wrap64 ((wrap64 ((wrap64 (t245 - (wrap64 (Int.tdiv t245 1460)))) + (wrap64 (Int.tdiv t245 36524)))) - (wrap64 (Int.tdiv t245 146096)))) 365)) 4)))) - (wrap64 (Int.tdiv (wrap64 (Int.tdiv (wrap64 ((wrap64 ((wrap64 (t245 - (wrap64 (Int.tdiv t245 1460)))) + (wrap64 (Int.tdiv t245 36524)))) - (wrap64 (Int.tdiv t245 146096)))) 365)) 100)))))))) + 2)) 153)) + 3), wrap64 ((wrap64 ((wrap64 (t245 - (wrap64 ((wrap64 ((wrap64 (365 * (wrap64 (Int.tdiv (wrap64 ((wrap64 ((wrap64 (t245 - (wrap64 (Int.tdiv t245 1460)))) + (wrap64 (Int.tdiv t245 36524)))) - (wrap64 (Int.tdiv t245 146096)))) 365)))) + (wrap64 (Int.tdiv (wrap64 (Int.tdiv (wrap64 ((wrap64 ((wrap64 (t245 - (wrap64 (Int.tdiv t245 1460)))) + (wrap64 (Int.tdiv t245 36524)))) - (wrap64 (Int.tdiv t245 146096)))) 365)) 4)))) - (wrap64 (Int.tdiv (wrap64 (Int.tdiv (wrap64 ((wrap64 ((wrap64 (t245 - (wrap64 (Int.tdiv t245 1460)))) + (wrap64 (Int.tdiv t245 36524)))) - (wrap64 (Int.tdiv t245 146096)))) 365)) 100)))))) - (wrap64 (Int.tdiv (wrap64 ((wrap64 (153 * (wrap64 (Int.tdiv (wrap64 ((wrap64 (5 * (wrap64 (t245 - (wrap64 ((wrap64 ((wrap64 (365 * (wrap64 (Int.tdiv (wrap64 ((wrap64 ((wrap64 (t245 - (wrap64 (Int.tdiv t245 1460)))) + (wrap64 (Int.tdiv t245 36524)))) - (wrap64 (Int.tdiv t245 146096)))) 365)))) + (wrap64 (Int.tdiv (wrap64 (Int.tdiv (wrap64 ((wrap64 ((wrap64 (t245 - (wrap64 (Int.tdiv t245 1460)))) + (wrap64 (Int.tdiv t245 36524)))) - (wrap64 (Int.tdiv t245 146096)))) 365)) 4)))) - (wrap64 (Int.tdiv (wrap64 (Int.tdiv (wrap64 ((wrap64 ((wrap64 (t245 - (wrap64 (Int.tdiv t245 1460)))) + (wrap64 (Int.tdiv t245 36524)))) - (wrap64 (Int.tdiv t245 146096)))) 365)) 100)))))))) + 2)) 153)))) + 2)) 5)))) + 1), 0)) = some (r1, r2, r3, r4) := by rw [if_pos rfl] at H; exact H
        clear H
        have H := H1
        clear H1
        simp only [Option.some.injEq, Prod.mk.injEq] at H
        obtain ⟨rfl, rfl, rfl, rfl⟩ := H
        go_enter Tryd.func21, Tryd.ntmps21
        go_wp2_with (first | ((with_reducible refine gate_callee (f := 42) rfl ?_); refine goesL_ (some 15) rfl rfl Tryd.func42 (by kernel_rfl) rfl #[.int .i64 a0, .int .i64 719468] rfl (by (try simp only [List.map_toArray, List.map_cons, List.map_nil]); first | done | rfl | (simp only [List.length_drop, List.length_take]; rfl)) ?_; (with_reducible refine (number_Add.calls a0 719468 t242 true _ A2.out).mono ?_); rintro e w' ⟨rfl, ⟨nd, rfl⟩⟩; refine ⟨_, rfl, ?_⟩) | ((with_reducible refine gate_callee (f := 34) rfl ?_); refine goesL_ (some 22) rfl rfl Tryd.func34 (by kernel_rfl) rfl #[.int .i64 t242, .int .i64 146097] rfl (by (try simp only [List.map_toArray, List.map_cons, List.map_nil]); first | done | rfl | (simp only [List.length_drop, List.length_take]; rfl)) ?_; (with_reducible refine (number_Div.calls t242 146097 t244 t245 t246 _ A4.out).mono ?_); rintro e w' ⟨rfl, ⟨nd, rfl⟩⟩; refine ⟨_, rfl, ?_⟩) | ((with_reducible refine gate_callee (f := 43) rfl ?_); refine goesL_ (some 71) rfl rfl Tryd.func43 (by kernel_rfl) rfl #[.int .i64 (wrap64 ((wrap64 (Int.tdiv (wrap64 ((wrap64 ((wrap64 (t245 - (wrap64 (Int.tdiv t245 1460)))) + (wrap64 (Int.tdiv t245 36524)))) - (wrap64 (Int.tdiv t245 146096)))) 365)) + (wrap64 (400 * t244))))] rfl (by (try simp only [List.map_toArray, List.map_cons, List.map_nil]); first | done | rfl | (simp only [List.length_drop, List.length_take]; rfl)) ?_; (with_reducible refine (civil_may.calls (wrap64 ((wrap64 (Int.tdiv (wrap64 ((wrap64 ((wrap64 (t245 - (wrap64 (Int.tdiv t245 1460)))) + (wrap64 (Int.tdiv t245 36524)))) - (wrap64 (Int.tdiv t245 146096)))) 365)) + (wrap64 (400 * t244)))) true _ A8.out).mono ?_); rintro e w' ⟨rfl, ⟨nd, rfl⟩⟩; refine ⟨_, rfl, ?_⟩))
        refine bodyPost_ret (results_list (rs := [.tmp 2, .tmp 3, .tmp 4, .tmp 5]) rfl (by simp) (.tmp (.tmp (.tmp (.tmp .nil))))) rfl ?_
        exact ⟨by first | rfl | (simp; done) | (simp [*]; done), by repeat (first | exact Drawn0.refl _ | apply Drawn0.step)⟩
      · replace c9 := Bool.eq_false_iff.mpr c9
        subst c9
        have H1 : (some (0, 0, 0, 2)) = some (r1, r2, r3, r4) := by rw [if_neg (show ¬ (false = true) by decide)] at H; exact H
        clear H
        have H := H1
        clear H1
        simp only [Option.some.injEq, Prod.mk.injEq] at H
        obtain ⟨rfl, rfl, rfl, rfl⟩ := H
        go_enter Tryd.func21, Tryd.ntmps21
        go_wp2_with (first | ((with_reducible refine gate_callee (f := 42) rfl ?_); refine goesL_ (some 15) rfl rfl Tryd.func42 (by kernel_rfl) rfl #[.int .i64 a0, .int .i64 719468] rfl (by (try simp only [List.map_toArray, List.map_cons, List.map_nil]); first | done | rfl | (simp only [List.length_drop, List.length_take]; rfl)) ?_; (with_reducible refine (number_Add.calls a0 719468 t242 true _ A2.out).mono ?_); rintro e w' ⟨rfl, ⟨nd, rfl⟩⟩; refine ⟨_, rfl, ?_⟩) | ((with_reducible refine gate_callee (f := 34) rfl ?_); refine goesL_ (some 22) rfl rfl Tryd.func34 (by kernel_rfl) rfl #[.int .i64 t242, .int .i64 146097] rfl (by (try simp only [List.map_toArray, List.map_cons, List.map_nil]); first | done | rfl | (simp only [List.length_drop, List.length_take]; rfl)) ?_; (with_reducible refine (number_Div.calls t242 146097 t244 t245 t246 _ A4.out).mono ?_); rintro e w' ⟨rfl, ⟨nd, rfl⟩⟩; refine ⟨_, rfl, ?_⟩) | ((with_reducible refine gate_callee (f := 43) rfl ?_); refine goesL_ (some 71) rfl rfl Tryd.func43 (by kernel_rfl) rfl #[.int .i64 (wrap64 ((wrap64 (Int.tdiv (wrap64 ((wrap64 ((wrap64 (t245 - (wrap64 (Int.tdiv t245 1460)))) + (wrap64 (Int.tdiv t245 36524)))) - (wrap64 (Int.tdiv t245 146096)))) 365)) + (wrap64 (400 * t244))))] rfl (by (try simp only [List.map_toArray, List.map_cons, List.map_nil]); first | done | rfl | (simp only [List.length_drop, List.length_take]; rfl)) ?_; (with_reducible refine (civil_may.calls (wrap64 ((wrap64 (Int.tdiv (wrap64 ((wrap64 ((wrap64 (t245 - (wrap64 (Int.tdiv t245 1460)))) + (wrap64 (Int.tdiv t245 36524)))) - (wrap64 (Int.tdiv t245 146096)))) 365)) + (wrap64 (400 * t244)))) false _ A8.out).mono ?_); rintro e w' ⟨rfl, ⟨nd, rfl⟩⟩; refine ⟨_, rfl, ?_⟩))
        refine bodyPost_ret (results_list (rs := [.tmp 2, .tmp 3, .tmp 4, .tmp 5]) rfl (by simp) (.tmp (.tmp (.tmp (.tmp .nil))))) rfl ?_
        exact ⟨by first | rfl | (simp; done) | (simp [*]; done), by repeat (first | exact Drawn0.refl _ | apply Drawn0.step)⟩
  · replace c3 := Bool.eq_false_iff.mpr c3
    subst c3
    have H1 : (some (0, 0, 0, 2)) = some (r1, r2, r3, r4) := by rw [if_neg (show ¬ (false = true) by decide)] at H; exact H
    clear H
    have H := H1
    clear H1
    simp only [Option.some.injEq, Prod.mk.injEq] at H
    obtain ⟨rfl, rfl, rfl, rfl⟩ := H
    go_enter Tryd.func21, Tryd.ntmps21
    go_wp2_with (first | ((with_reducible refine gate_callee (f := 42) rfl ?_); refine goesL_ (some 15) rfl rfl Tryd.func42 (by kernel_rfl) rfl #[.int .i64 a0, .int .i64 719468] rfl (by (try simp only [List.map_toArray, List.map_cons, List.map_nil]); first | done | rfl | (simp only [List.length_drop, List.length_take]; rfl)) ?_; (with_reducible refine (number_Add.calls a0 719468 t242 false _ A2.out).mono ?_); rintro e w' ⟨rfl, ⟨nd, rfl⟩⟩; refine ⟨_, rfl, ?_⟩))
    refine bodyPost_ret (results_list (rs := [.tmp 2, .tmp 3, .tmp 4, .tmp 5]) rfl (by simp) (.tmp (.tmp (.tmp (.tmp .nil))))) rfl ?_
    exact ⟨by first | rfl | (simp; done) | (simp [*]; done), by repeat (first | exact Drawn0.refl _ | apply Drawn0.step)⟩
end Go.Proofs.YtgbehcahdgamoaaDoor.Fn

namespace Go.Proofs.YtgbehcahdgamoaaDoor.Fn
open Go.RowKit Go.Proofs.YtgbehcahdgamoaaDoorW.PrintWords Go.Proofs.YtgbehcahdgamoaaDoorW.PrintLast Go.Proofs.YtgbehcahdgamoaaDoorW.PrintMore
theorem add_eq (a b : Int) (ha : IsI64 a) (hb : 0 ≤ b ∧ b ≤ 9223372036854775807) : number_Add.f a b = some (if a + b ≤ 9223372036854775807 then (a + b, true) else (0, false)) := by
  unfold IsI64 at ha
  unfold number_Add.f
  have d2 : decide (b < 0) = false := by simp; omega
  rw [d2]
  by_cases h0 : a < 0
  · have d1 : decide (a < 0) = true := by simpa using h0
    rw [d1, if_neg (by decide), if_pos (by omega), w64 ⟨by omega, by omega⟩]
  · have d1 : decide (a < 0) = false := by simpa using h0
    rw [d1, if_pos (by decide)]
    by_cases h1 : a + b ≤ 9223372036854775807
    · rw [w64 ⟨by omega, by omega⟩, if_pos h1]
      have d3 : decide (a + b < 0) = false := by simp; omega
      rw [d3]
      rfl
    · rw [if_neg h1]
      have d3 : decide (wrap64 (a + b) < 0) = true := by unfold wrap64; simp; omega
      rw [d3]
      rfl
def yoe (r : Int) : Int := (r - r / 1460 + r / 36524 - r / 146096) / 365
def doy (r : Int) : Int := r - (365 * yoe r + yoe r / 4 - yoe r / 100)
def mp (r : Int) : Int := (5 * doy r + 2) / 153
theorem yoe_range (r : Int) (h : 0 ≤ r ∧ r ≤ 146096) : 0 ≤ yoe r ∧ yoe r ≤ 399 := by unfold yoe; omega
def eraOk (r : Nat) : Bool :=
  let Y := (r - r / 1460 + r / 36524 - r / 146096) / 365
  Nat.ble (365 * Y + Y / 4) (r + Y / 100) && (Nat.ble (r + Y / 100) (365 * Y + Y / 4 + 364) || (Nat.beq (r + Y / 100) (365 * Y + Y / 4 + 365) && (Nat.beq ((Y + 1) % 4) 0 && (!(Nat.beq ((Y + 1) % 100) 0) || Nat.beq ((Y + 1) % 400) 0))))
def allOk (p : Nat → Bool) : Nat → Bool
  | 0 => true
  | n + 1 => p n && allOk p n
theorem allOk_of (p : Nat → Bool) : ∀ n, allOk p n = true → ∀ i, i < n → p i = true
  | 0, _, i, h => by omega
  | n + 1, h, i, hi => by
    unfold allOk at h
    simp only [Bool.and_eq_true] at h
    by_cases e : i = n
    · subst e; exact h.1
    · exact allOk_of p n h.2 i (by omega)
theorem era_ok : allOk eraOk 146097 = true := by decide +kernel
theorem doy_range (r : Int) (h : 0 ≤ r ∧ r ≤ 146096) : 0 ≤ doy r ∧ (doy r ≤ 364 ∨ (doy r = 365 ∧ leapB (yoe r + 1) = true)) := by
  obtain ⟨n, rfl⟩ := Int.eq_ofNat_of_zero_le h.1
  have hn := allOk_of eraOk 146097 era_ok n (by omega)
  have hY : yoe (n : Int) = (((n - n / 1460 + n / 36524 - n / 146096) / 365 : Nat) : Int) := by unfold yoe; omega
  unfold eraOk at hn
  simp only [Bool.and_eq_true, Bool.or_eq_true, Nat.ble_eq, Bool.not_eq_true', ← Bool.not_eq_true, Nat.beq_eq] at hn
  unfold doy leapB
  rw [hY]
  generalize (n - n / 1460 + n / 36524 - n / 146096) / 365 = Y at hn
  simp only [Bool.and_eq_true, Bool.or_eq_true, decide_eq_true_eq]
  omega
theorem doy_365 (r : Int) (h : 0 ≤ r ∧ r ≤ 146096) : 0 ≤ doy r ∧ doy r ≤ 365 := by have := doy_range r h; omega
def dY (n : Int) : Int := yoe ((n + 719468) % 146097) + 400 * ((n + 719468) / 146097) + (if mp ((n + 719468) % 146097) + 3 > 12 then 1 else 0)
def dM (n : Int) : Int := if mp ((n + 719468) % 146097) + 3 > 12 then mp ((n + 719468) % 146097) + 3 - 12 else mp ((n + 719468) % 146097) + 3
def dD (n : Int) : Int := doy ((n + 719468) % 146097) - (153 * mp ((n + 719468) % 146097) + 2) / 5 + 1
theorem mp_range (r : Int) (h : 0 ≤ r ∧ r ≤ 146096) : 0 ≤ mp r ∧ mp r ≤ 11 := by have := doy_365 r h; unfold mp; omega
theorem date_eq (n : Int) (hn : IsI64 n) : civil_Date.f n = some (if n ≤ 9223372036854056339 ∧ mayB (dY n) = true then (dY n, dM n, dD n, 0) else (0, 0, 0, 2)) := by
  unfold civil_Date.f
  rw [add_eq n 719468 hn (by omega)]
  simp only [Option.bind_some]
  unfold IsI64 at hn
  by_cases h : n + 719468 ≤ 9223372036854775807
  · rw [if_pos h]
    simp only [if_true]
    rw [div_eq _ _ (by omega) (by omega) ⟨by omega, by omega⟩]
    simp only [Option.bind_some]
    have hr : 0 ≤ (n + 719468) % 146097 ∧ (n + 719468) % 146097 ≤ 146096 := by omega
    have hq : -63132000000000 ≤ (n + 719468) / 146097 ∧ (n + 719468) / 146097 ≤ 63132000000000 := by omega
    have e : (n ≤ 9223372036854056339) = True := by simp; omega
    unfold dY dM dD
    simp only [e, true_and]
    clear e h hn
    generalize (n + 719468) % 146097 = r at hr
    generalize (n + 719468) / 146097 = q at hq
    have y0 := yoe_range r hr
    have d0 := doy_365 r hr
    have m0 := mp_range r hr
    have t1 : Int.tdiv r 1460 = r / 1460 := Int.tdiv_eq_ediv_of_nonneg hr.1
    have t2 : Int.tdiv r 36524 = r / 36524 := Int.tdiv_eq_ediv_of_nonneg hr.1
    have t3 : Int.tdiv r 146096 = r / 146096 := Int.tdiv_eq_ediv_of_nonneg hr.1
    have t4 : Int.tdiv (r - r / 1460 + r / 36524 - r / 146096) 365 = yoe r := Int.tdiv_eq_ediv_of_nonneg (by omega)
    rw [t1, t2, t3, w64 (a := r / 1460) ⟨by omega, by omega⟩, w64 (a := r / 36524) ⟨by omega, by omega⟩, w64 (a := r / 146096) ⟨by omega, by omega⟩, w64 (a := r - r / 1460) ⟨by omega, by omega⟩,
      w64 (a := r - r / 1460 + r / 36524) ⟨by omega, by omega⟩, w64 (a := r - r / 1460 + r / 36524 - r / 146096) ⟨by omega, by omega⟩, t4]
    have e1 : doy r = r - (365 * yoe r + yoe r / 4 - yoe r / 100) := rfl
    have e2 : mp r = (5 * doy r + 2) / 153 := rfl
    generalize yoe r = Y at y0 e1
    generalize doy r = D at d0 e1 e2
    generalize mp r = M at m0 e2
    rw [w64 (a := Y) ⟨by omega, by omega⟩, Int.tdiv_eq_ediv_of_nonneg (show 0 ≤ Y by omega), Int.tdiv_eq_ediv_of_nonneg (show 0 ≤ Y by omega), w64 (a := Y / 4) ⟨by omega, by omega⟩, w64 (a := Y / 100) ⟨by omega, by omega⟩,
      w64 (a := 365 * Y) ⟨by omega, by omega⟩, w64 (a := 365 * Y + Y / 4) ⟨by omega, by omega⟩, w64 (a := 365 * Y + Y / 4 - Y / 100) ⟨by omega, by omega⟩, ← e1, w64 (a := D) ⟨by omega, by omega⟩,
      w64 (a := 5 * D) ⟨by omega, by omega⟩, w64 (a := 5 * D + 2) ⟨by omega, by omega⟩, Int.tdiv_eq_ediv_of_nonneg (show 0 ≤ 5 * D + 2 by omega), ← e2, w64 (a := M) ⟨by omega, by omega⟩,
      w64 (a := M + 3) ⟨by omega, by omega⟩, w64 (a := 400 * q) ⟨by omega, by omega⟩, w64 (a := Y + 400 * q) ⟨by omega, by omega⟩, w64 (a := Y + 400 * q + 1) ⟨by omega, by omega⟩,
      w64 (a := M + 3 - 12) ⟨by omega, by omega⟩, w64 (a := 153 * M) ⟨by omega, by omega⟩, w64 (a := 153 * M + 2) ⟨by omega, by omega⟩, Int.tdiv_eq_ediv_of_nonneg (show 0 ≤ 153 * M + 2 by omega), w64 (a := (153 * M + 2) / 5) ⟨by omega, by omega⟩,
      w64 (a := D - (153 * M + 2) / 5) ⟨by omega, by omega⟩, w64 (a := D - (153 * M + 2) / 5 + 1) ⟨by omega, by omega⟩]
    by_cases h12 : M + 3 > 12
    · rw [if_pos h12, if_pos h12, if_pos h12, may_eq]
      simp only [Option.bind_some]
      split <;> rfl
    · rw [if_neg h12, if_neg h12, if_neg h12, may_eq]
      simp only [Option.bind_some, Int.add_zero]
      split <;> rfl
  · rw [if_neg h]
    have e : (n ≤ 9223372036854056339) = False := by simp; omega
    simp [e]
end Go.Proofs.YtgbehcahdgamoaaDoor.Fn

namespace Go.Proofs.YtgbehcahdgamoaaDoor.Fn
open Go.RowKit Go.Proofs.YtgbehcahdgamoaaDoorW.PrintWords Go.Proofs.YtgbehcahdgamoaaDoorW.PrintLast Go.Proofs.YtgbehcahdgamoaaDoorW.PrintMore
theorem leap_400 (y q : Int) : leapB (y + 400 * q) = leapB y := by
  unfold leapB
  rw [show (y + 400 * q) % 4 = y % 4 by omega, show (y + 400 * q) % 100 = y % 100 by omega, show (y + 400 * q) % 400 = y % 400 by omega]
theorem year_len (y : Int) : daysN (y + 1) 1 1 = daysN y 1 1 + 365 + (if leapB y = true then 1 else 0) := by
  unfold daysN yM mM leapB
  simp only [show (1 : Int) < 3 by decide, if_true]
  by_cases h4 : y % 4 = 0 <;> by_cases h100 : y % 100 = 0 <;> by_cases h400 : y % 400 = 0 <;> simp [h4, h100, h400] <;> omega
theorem lenN_of (y : Int) : lenN y 1 = 31 ∧ lenN y 2 = (if leapB y = true then 29 else 28) ∧ lenN y 3 = 31 ∧ lenN y 4 = 30 ∧ lenN y 5 = 31 ∧ lenN y 6 = 30 ∧ lenN y 7 = 31 ∧ lenN y 8 = 31 ∧ lenN y 9 = 30 ∧ lenN y 10 = 31 ∧ lenN y 11 = 30 ∧ lenN y 12 = 31 := by
  refine ⟨?_, ?_, ?_, ?_, ?_, ?_, ?_, ?_, ?_, ?_, ?_, ?_⟩
  case refine_2 => unfold lenN; rw [if_neg (by decide), if_neg (by decide)]; cases leapB y <;> simp <;> rfl
  all_goals unfold lenN; rw [if_neg (by decide), if_neg (by decide), if_neg (by simp)]; rfl
theorem month12 {m : Int} (h : 1 ≤ m ∧ m ≤ 12) : m = 1 ∨ m = 2 ∨ m = 3 ∨ m = 4 ∨ m = 5 ∨ m = 6 ∨ m = 7 ∨ m = 8 ∨ m = 9 ∨ m = 10 ∨ m = 11 ∨ m = 12 := by omega
theorem month_len (y m : Int) (hm : 1 ≤ m ∧ m ≤ 11) : daysN y (m + 1) 1 = daysN y m 1 + lenN y m := by
  obtain ⟨l1, l2, l3, l4, l5, l6, l7, l8, l9, l10, l11, _⟩ := lenN_of y
  have hl := year_len (y - 1)
  rcases (show m = 1 ∨ m = 2 ∨ m = 3 ∨ m = 4 ∨ m = 5 ∨ m = 6 ∨ m = 7 ∨ m = 8 ∨ m = 9 ∨ m = 10 ∨ m = 11 by omega) with rfl | rfl | rfl | rfl | rfl | rfl | rfl | rfl | rfl | rfl | rfl
  · rw [l1]; simp [daysN, yM, mM]; omega
  · rw [l2]
    simp [daysN, yM, mM, leapB]
    by_cases h4 : y % 4 = 0 <;> by_cases h100 : y % 100 = 0 <;> by_cases h400 : y % 400 = 0 <;> simp [h4, h100, h400] <;> omega
  · rw [l3]; simp [daysN, yM, mM]; omega
  · rw [l4]; simp [daysN, yM, mM]; omega
  · rw [l5]; simp [daysN, yM, mM]; omega
  · rw [l6]; simp [daysN, yM, mM]; omega
  · rw [l7]; simp [daysN, yM, mM]; omega
  · rw [l8]; simp [daysN, yM, mM]; omega
  · rw [l9]; simp [daysN, yM, mM]; omega
  · rw [l10]; simp [daysN, yM, mM]; omega
  · rw [l11]; simp [daysN, yM, mM]; omega
theorem year_end (y : Int) : daysN (y + 1) 1 1 = daysN y 12 1 + 31 := by simp [daysN, yM, mM]; omega
theorem daysN_day (y m d : Int) : daysN y m d = daysN y m 1 + (d - 1) := by unfold daysN; omega
theorem month_le (y : Int) : ∀ (k : Nat) (m : Int), 1 ≤ m → m + k ≤ 12 → daysN y m 1 + 28 * k ≤ daysN y (m + k) 1
  | 0, m, _, _ => by simp
  | k + 1, m, h1, h2 => by
    have h := month_le y k m h1 (by omega)
    have h3 := month_len y (m + k) (by omega)
    have h4 := lenN_pos y (m + k) (by omega) (by omega)
    rw [show m + ((k + 1 : Nat) : Int) = m + k + 1 by omega, h3]
    omega
theorem year_le (y : Int) : ∀ k : Nat, daysN y 1 1 + 365 * k ≤ daysN (y + k) 1 1
  | 0 => by simp
  | k + 1 => by
    have h := year_le y k
    have h2 := year_len (y + k)
    rw [show y + ((k + 1 : Nat) : Int) = y + k + 1 by omega, h2]
    split <;> omega
theorem in_year {y m d : Int} (hm : 1 ≤ m ∧ m ≤ 12) (hd : 1 ≤ d) (hl : d ≤ lenN y m) : daysN y 1 1 ≤ daysN y m d ∧ daysN y m d < daysN (y + 1) 1 1 := by
  have h1 := month_le y (m - 1).toNat 1 (by omega) (by omega)
  rw [show (1 : Int) + ((m - 1).toNat : Int) = m by omega] at h1
  have h2 := daysN_day y m d
  refine ⟨by omega, ?_⟩
  by_cases h12 : m = 12
  · subst h12
    have := year_end y
    have := (lenN_of y).2.2.2.2.2.2.2.2.2.2.2
    omega
  · have h3 := month_len y m (by omega)
    have h4 := month_le y (12 - (m + 1)).toNat (m + 1) (by omega) (by omega)
    rw [show m + 1 + ((12 - (m + 1)).toNat : Int) = 12 by omega] at h4
    have := year_end y
    omega
theorem date_all (n : Int) : (1 ≤ dM n ∧ dM n ≤ 12 ∧ 1 ≤ dD n ∧ dD n ≤ lenN (dY n) (dM n)) ∧ daysN (dY n) (dM n) (dD n) = n := by
  have hr : 0 ≤ (n + 719468) % 146097 ∧ (n + 719468) % 146097 ≤ 146096 := by omega
  have hq : n = 146097 * ((n + 719468) / 146097) + (n + 719468) % 146097 - 719468 := by omega
  unfold dY dM dD at *
  generalize (n + 719468) % 146097 = r at *
  generalize (n + 719468) / 146097 = q at *
  have y0 := yoe_range r hr
  have d0 := doy_range r hr
  have m0 := mp_range r hr
  have e1 : doy r = r - (365 * yoe r + yoe r / 4 - yoe r / 100) := rfl
  have e2 : mp r = (5 * doy r + 2) / 153 := rfl
  have l0 := leap_400 (yoe r + 1) q
  generalize yoe r = Y at *
  generalize doy r = D at *
  generalize mp r = M at *
  by_cases h12 : M + 3 > 12
  · rw [if_pos h12] at *
    have hm : M = 10 ∨ M = 11 := by omega
    rw [if_pos h12]
    refine ⟨?_, ?_⟩
    · refine ⟨by omega, by omega, by omega, ?_⟩
      obtain ⟨l1, l2, _⟩ := lenN_of (Y + 400 * q + 1)
      rcases hm with rfl | rfl
      · rw [show (10 : Int) + 3 - 12 = 1 from rfl, l1]; omega
      · rw [show (11 : Int) + 3 - 12 = 2 from rfl, l2, show Y + 400 * q + 1 = Y + 1 + 400 * q by omega, l0]
        rcases d0.2 with d1 | ⟨d1, d2⟩
        · split <;> omega
        · rw [if_pos d2]; omega
    · unfold daysN yM mM
      rw [if_pos (by omega), if_pos (by omega), show Y + 400 * q + 1 - 1 = Y + 400 * q by omega, show (Y + 400 * q) / 400 = q by omega, show (Y + 400 * q) % 400 = Y by omega, show M + 3 - 12 + 9 = M by omega]
      omega
  · rw [if_neg h12] at *
    rw [if_neg h12]
    simp only [Int.add_zero] at *
    refine ⟨?_, ?_⟩
    · refine ⟨by omega, by omega, by omega, ?_⟩
      obtain ⟨_, _, l3, l4, l5, l6, l7, l8, l9, l10, l11, l12⟩ := lenN_of (Y + 400 * q)
      rcases (show M = 0 ∨ M = 1 ∨ M = 2 ∨ M = 3 ∨ M = 4 ∨ M = 5 ∨ M = 6 ∨ M = 7 ∨ M = 8 ∨ M = 9 by omega) with rfl | rfl | rfl | rfl | rfl | rfl | rfl | rfl | rfl | rfl
      · rw [show (0 : Int) + 3 = 3 from rfl, l3]; omega
      · rw [show (1 : Int) + 3 = 4 from rfl, l4]; omega
      · rw [show (2 : Int) + 3 = 5 from rfl, l5]; omega
      · rw [show (3 : Int) + 3 = 6 from rfl, l6]; omega
      · rw [show (4 : Int) + 3 = 7 from rfl, l7]; omega
      · rw [show (5 : Int) + 3 = 8 from rfl, l8]; omega
      · rw [show (6 : Int) + 3 = 9 from rfl, l9]; omega
      · rw [show (7 : Int) + 3 = 10 from rfl, l10]; omega
      · rw [show (8 : Int) + 3 = 11 from rfl, l11]; omega
      · rw [show (9 : Int) + 3 = 12 from rfl, l12]; omega
    · unfold daysN yM mM
      rw [if_neg (by omega), if_neg (by omega), show (Y + 400 * q) / 400 = q by omega, show (Y + 400 * q) % 400 = Y by omega, show M + 3 - 3 = M by omega]
      omega
theorem date_year (n : Int) : daysN (dY n) 1 1 ≤ n ∧ n < daysN (dY n + 1) 1 1 := by
  obtain ⟨⟨h1, h2, h3, h4⟩, h5⟩ := date_all n
  have := in_year (y := dY n) ⟨h1, h2⟩ h3 h4
  rw [h5] at this
  exact this
theorem year_mono {y z : Int} (h : y ≤ z) : daysN y 1 1 + 365 * (z - y) ≤ daysN z 1 1 := by
  have h3 := year_le y (z - y).toNat
  rw [show y + ((z - y).toNat : Int) = z by omega] at h3
  omega
theorem year_ge_iff (y n : Int) : y ≤ dY n ↔ daysN y 1 1 ≤ n := by
  have h := date_year n
  constructor
  · intro h2; have := year_mono h2; omega
  · intro h2
    rcases Int.lt_or_le (dY n) y with g | g
    · have := year_mono (show dY n + 1 ≤ y by omega); omega
    · exact g
theorem may_iff (n : Int) : mayB (dY n) = true ↔ -784353015833 ≤ n ∧ n ≤ 784351576776 := by
  have h1 := year_ge_iff (-2147483648) n
  have h2 := year_ge_iff 2147483648 n
  rw [show daysN (-2147483648) 1 1 = -784353015833 by decide] at h1
  rw [show daysN 2147483648 1 1 = 784351576777 by decide] at h2
  unfold mayB
  simp only [Bool.and_eq_true, decide_eq_true_eq]
  omega
end Go.Proofs.YtgbehcahdgamoaaDoor.Fn

namespace Go.Proofs.YtgbehcahdgamoaaDoor.Fn
open Go.RowKit Go.Proofs.YtgbehcahdgamoaaDoorW.PrintWords Go.Proofs.YtgbehcahdgamoaaDoorW.PrintLast Go.Proofs.YtgbehcahdgamoaaDoorW.PrintMore
set_option linter.unusedVariables false
set_option linter.unusedSimpArgs false
/-! ### longcaseref01_Div: function 38 -/
def longcaseref01_Div.f (a0 : Int) (a1 : Int) : Option (Int × Int × Bool) := if a1 < 1 then (some (0, 0, false)) else (if a1 = 0 then (none) else (if (Int.tmod a0 a1) < 0 then (some (wrap64 ((wrap64 (Int.tdiv a0 a1)) - 1), wrap64 ((Int.tmod a0 a1) + a1), true)) else (some (wrap64 (Int.tdiv a0 a1), Int.tmod a0 a1, true))))
set_option maxHeartbeats 8000000 in
set_option maxRecDepth 100000 in
theorem longcaseref01_Div.calls (a0 : Int) (a1 : Int) (r1 : Int) (r2 : Int) (r3 : Bool) (w : World) (h : longcaseref01_Div.f a0 a1 = some (r1, r2, r3)) :
    Calls Tryd.prog 38 #[.int .i64 a0, .int .i64 a1] w fun e w' => e = .returned (.tuple #[.int .i64 r1, .int .i64 r2, .bool r3]) ∧ Drawn0 w w' := by
  have H : (if a1 < 1 then (some (0, 0, false)) else (if a1 = 0 then (none) else (if (Int.tmod a0 a1) < 0 then (some (wrap64 ((wrap64 (Int.tdiv a0 a1)) - 1), wrap64 ((Int.tmod a0 a1) + a1), true)) else (some (wrap64 (Int.tdiv a0 a1), Int.tmod a0 a1, true))))) = some (r1, r2, r3) := h
  clear h
  by_cases c3 : a1 < 1
  · rw [if_pos c3] at H
    have c3b0 : decide (a1 < 1) = true := decide_eq_true c3
    clear c3
    simp only [Option.some.injEq, Prod.mk.injEq] at H
    obtain ⟨rfl, rfl, rfl⟩ := H
    go_enter Tryd.func38, Tryd.ntmps38
    go_wp2
    go_ret3
    exact ⟨by first | rfl | (simp; done) | (simp [*]; done), by repeat (first | exact Drawn0.refl _ | apply Drawn0.step)⟩
  · rw [if_neg c3] at H
    have c3b0 : decide (a1 < 1) = false := decide_eq_false c3
    clear c3
    by_cases c4 : a1 = 0
    · rw [if_pos c4] at H
      exact absurd H (by simp)
    · rw [if_neg c4] at H
      have c4b0 : (a1 == 0) = false := beq_eq_false_iff_ne.mpr c4
      have c4b1 : (a1 != 0) = true := bne_iff_ne.mpr c4
      by_cases c5 : (Int.tmod a0 a1) < 0
      · rw [if_pos c5] at H
        have c5b0 : decide ((Int.tmod a0 a1) < 0) = true := decide_eq_true c5
        clear c5
        simp only [Option.some.injEq, Prod.mk.injEq] at H
        obtain ⟨rfl, rfl, rfl⟩ := H
        go_enter Tryd.func38, Tryd.ntmps38
        go_wp2
        go_ret3
        exact ⟨by first | rfl | (simp; done) | (simp [*]; done), by repeat (first | exact Drawn0.refl _ | apply Drawn0.step)⟩
      · rw [if_neg c5] at H
        have c5b0 : decide ((Int.tmod a0 a1) < 0) = false := decide_eq_false c5
        clear c5
        simp only [Option.some.injEq, Prod.mk.injEq] at H
        obtain ⟨rfl, rfl, rfl⟩ := H
        go_enter Tryd.func38, Tryd.ntmps38
        go_wp2
        go_ret3
        exact ⟨by first | rfl | (simp; done) | (simp [*]; done), by repeat (first | exact Drawn0.refl _ | apply Drawn0.step)⟩
end Go.Proofs.YtgbehcahdgamoaaDoor.Fn

namespace Go.Proofs.YtgbehcahdgamoaaDoor.Fn
open Go.RowKit Go.Proofs.YtgbehcahdgamoaaDoorW.PrintWords Go.Proofs.YtgbehcahdgamoaaDoorW.PrintLast Go.Proofs.YtgbehcahdgamoaaDoorW.PrintMore
set_option linter.unusedVariables false
set_option linter.unusedSimpArgs false
/-! ### longcaseref02_Leap: function 31 -/
def longcaseref02_Leap.f (a0 : Int) : Option (Bool) := if (Int.tmod a0 4) = 0 then (if (Int.tmod a0 100) = 0 then (some ((Int.tmod a0 400) == 0)) else (some true)) else (some ((Int.tmod a0 400) == 0))
set_option maxHeartbeats 8000000 in
set_option maxRecDepth 100000 in
theorem longcaseref02_Leap.calls (a0 : Int) (r : Bool) (w : World) (h : longcaseref02_Leap.f a0 = some r) :
    Calls Tryd.prog 31 #[.int .i64 a0] w fun e w' => e = .returned (.bool r) ∧ Drawn0 w w' := by
  have H : (if (Int.tmod a0 4) = 0 then (if (Int.tmod a0 100) = 0 then (some ((Int.tmod a0 400) == 0)) else (some true)) else (some ((Int.tmod a0 400) == 0))) = some r := h
  clear h
  by_cases c2 : (Int.tmod a0 4) = 0
  · rw [if_pos c2] at H
    have c2b0 : ((Int.tmod a0 4) == 0) = true := beq_iff_eq.mpr c2
    have c2b1 : ((Int.tmod a0 4) != 0) = false := bne_eq_false_iff_eq.mpr c2
    clear c2
    by_cases c3 : (Int.tmod a0 100) = 0
    · rw [if_pos c3] at H
      have c3b0 : ((Int.tmod a0 100) == 0) = true := beq_iff_eq.mpr c3
      have c3b1 : ((Int.tmod a0 100) != 0) = false := bne_eq_false_iff_eq.mpr c3
      clear c3
      obtain rfl := Option.some.inj H
      go_enter Tryd.func31, Tryd.ntmps31
      go_wp2
      go_ret
      exact ⟨by first | rfl | (simp; done) | (simp [*]; done), by repeat (first | exact Drawn0.refl _ | apply Drawn0.step)⟩
    · rw [if_neg c3] at H
      have c3b0 : ((Int.tmod a0 100) == 0) = false := beq_eq_false_iff_ne.mpr c3
      have c3b1 : ((Int.tmod a0 100) != 0) = true := bne_iff_ne.mpr c3
      obtain rfl := Option.some.inj H
      go_enter Tryd.func31, Tryd.ntmps31
      go_wp2
      go_ret
      exact ⟨by first | rfl | (simp; done) | (simp [*]; done), by repeat (first | exact Drawn0.refl _ | apply Drawn0.step)⟩
  · rw [if_neg c2] at H
    have c2b0 : ((Int.tmod a0 4) == 0) = false := beq_eq_false_iff_ne.mpr c2
    have c2b1 : ((Int.tmod a0 4) != 0) = true := bne_iff_ne.mpr c2
    obtain rfl := Option.some.inj H
    go_enter Tryd.func31, Tryd.ntmps31
    go_wp2
    go_ret
    exact ⟨by first | rfl | (simp; done) | (simp [*]; done), by repeat (first | exact Drawn0.refl _ | apply Drawn0.step)⟩
end Go.Proofs.YtgbehcahdgamoaaDoor.Fn

namespace Go.Proofs.YtgbehcahdgamoaaDoor.Fn
open Go.RowKit Go.Proofs.YtgbehcahdgamoaaDoorW.PrintWords Go.Proofs.YtgbehcahdgamoaaDoorW.PrintLast Go.Proofs.YtgbehcahdgamoaaDoorW.PrintMore
set_option linter.unusedVariables false
set_option linter.unusedSimpArgs false
/-! ### longcaseref02_Length: function 32 -/
def longcaseref02_Length.j0 : Nat → Int → Int → Bool → Option (Int)
  | 0, _, _, _ => none
  | k + 1, x0, x1, x11 => if x11 = true then (some 0) else ((longcaseref02_Leap.f x0).bind fun t159 => (if x1 = 2 then (if t159 = true then (some 29) else (some 28)) else (if x1 = 4 then (some 30) else (if x1 = 6 then (some 30) else (if x1 = 9 then (some 30) else (if x1 = 11 then (some 30) else (some 31)))))))
def longcaseref02_Length.f (k : Nat) (a0 : Int) (a1 : Int) : Option (Int) := if a1 < 1 then (longcaseref02_Length.j0 k a0 a1 true) else (longcaseref02_Length.j0 k a0 a1 (decide (a1 > 12)))
theorem longcaseref02_Length.mono_l : ∀ k, (∀ y0 y1 y2, LeO (longcaseref02_Length.j0 k y0 y1 y2) (longcaseref02_Length.j0 (k + 1) y0 y1 y2))
  | 0 => fun _ _ _ r h => by simp [longcaseref02_Length.j0] at h
  | k + 1 => by
    have ih0 := longcaseref02_Length.mono_l k
    · intro y0 y1 y2
      unfold longcaseref02_Length.j0
      repeat' first
      | (with_reducible exact ih0 _ _ _)
      | (with_reducible exact LeO.refl _)
      | (with_reducible exact LeO.none _)
      | (with_reducible refine LeO.ite ?_ ?_)
      | (with_reducible refine LeO.bind ?_ (fun _ => ?_))
      | exact ih0 _ _ _
      | exact LeO.none _
      | refine LeO.ite ?_ ?_
      | refine LeO.bind ?_ (fun _ => ?_)
theorem longcaseref02_Length.mono : ∀ a0 a1 k, LeO (longcaseref02_Length.f k a0 a1) (longcaseref02_Length.f (k + 1) a0 a1) := by
  intro a0 a1 k
  have ih0 := longcaseref02_Length.mono_l k
  unfold longcaseref02_Length.f
  repeat' first
      | (with_reducible exact ih0 _ _ _)
      | (with_reducible exact LeO.refl _)
      | (with_reducible exact LeO.none _)
      | (with_reducible refine LeO.ite ?_ ?_)
      | (with_reducible refine LeO.bind ?_ (fun _ => ?_))
      | exact ih0 _ _ _
      | exact LeO.none _
      | refine LeO.ite ?_ ?_
      | refine LeO.bind ?_ (fun _ => ?_)
set_option maxHeartbeats 8000000 in
set_option maxRecDepth 100000 in
theorem longcaseref02_Length.calls (k : Nat) (a0 : Int) (a1 : Int) (r : Int) (w : World) (h : longcaseref02_Length.f k a0 a1 = some r) :
    Calls Tryd.prog 32 #[.int .i64 a0, .int .i64 a1] w fun e w' => e = .returned (.int .i64 r) ∧ Drawn0 w w' := by
  have H : (if a1 < 1 then (longcaseref02_Length.j0 k a0 a1 true) else (longcaseref02_Length.j0 k a0 a1 (decide (a1 > 12)))) = some r := h
  clear h
  have HC3 := Aside0.mk H
  clear H
  go_enter Tryd.func32, Tryd.ntmps32
  go_upto_region 1 with (fail)
  go_cut [11] (fun v11 wc => ∃ (kq : Nat) (x11_2 : Bool), v11 = .bool x11_2 ∧ Aside0 (longcaseref02_Length.j0 kq a0 a1 x11_2 = some r) ∧ Aside0 (kq ≤ k) ∧ Drawn0 w wc)
  case first =>
    have H := HC3.out
    clear HC3
    by_cases c4 : a1 < 1
    · rw [if_pos c4] at H
      have c4b0 : decide (a1 < 1) = true := decide_eq_true c4
      clear c4
      (first | rw [c4b0] | (simp only [i64_w, i32_w]; rw [c4b0]) | skip)
      have H' := Aside0.mk H
      clear H
      go_wp2
      go_meet
      case rel => exact ⟨_, (true), (by first | rfl | (simp; done) | (simp [*]; done)), H', ⟨by first | omega | exact Nat.le_refl _⟩, by repeat (first | exact Drawn0.refl _ | apply Drawn0.step)⟩
    · rw [if_neg c4] at H
      have c4b0 : decide (a1 < 1) = false := decide_eq_false c4
      clear c4
      (first | rw [c4b0] | (simp only [i64_w, i32_w]; rw [c4b0]) | skip)
      have H' := Aside0.mk H
      clear H
      go_wp2
      go_meet
      case rel => exact ⟨_, (decide (a1 > 12)), (by first | rfl | (simp; done) | (simp [*]; done)), H', ⟨by first | omega | exact Nat.le_refl _⟩, by repeat (first | exact Drawn0.refl _ | apply Drawn0.step)⟩
  case rest =>
    clear HC3
    try clear p2
    try clear c3
    try clear c4
    try clear c4b0
    obtain ⟨kq, x11_2, rfl, HA, HJ2, ⟨mc2, rfl⟩⟩ := hcut
    cases kq with
    | zero => exact absurd HA.out (by simp [longcaseref02_Length.j0])
    | succ kj2 =>
      have H := HA.out
      clear HA
      simp only [longcaseref02_Length.j0] at H
      by_cases c5 : x11_2 = true
      · subst c5
        have H1 : (some 0) = some r := by rw [if_pos rfl] at H; exact H
        clear H
        have H := H1
        clear H1
        obtain rfl := Option.some.inj H
        go_wp2
        go_ret
        exact ⟨by first | rfl | (simp; done) | (simp [*]; done), by repeat (first | exact Drawn0.refl _ | apply Drawn0.step)⟩
      · replace c5 := Bool.eq_false_iff.mpr c5
        subst c5
        have H1 : ((longcaseref02_Leap.f a0).bind fun t159 => (if a1 = 2 then (if t159 = true then (some 29) else (some 28)) else (if a1 = 4 then (some 30) else (if a1 = 6 then (some 30) else (if a1 = 9 then (some 30) else (if a1 = 11 then (some 30) else (some 31))))))) = some r := by rw [if_neg (show ¬ (false = true) by decide)] at H; exact H
        clear H
        have H := H1
        clear H1
        replace H := Option.bind_eq_some_iff.mp H
        obtain ⟨t159, A60, H⟩ := H
        replace H : (if a1 = 2 then (if t159 = true then (some 29) else (some 28)) else (if a1 = 4 then (some 30) else (if a1 = 6 then (some 30) else (if a1 = 9 then (some 30) else (if a1 = 11 then (some 30) else (some 31)))))) = some r := H
        have A6 := Aside0.mk A60
        clear A60
        by_cases c7 : a1 = 2
        · rw [if_pos c7] at H
          have c7b0 : (a1 == 2) = true := beq_iff_eq.mpr c7
          have c7b1 : (a1 != 2) = false := bne_eq_false_iff_eq.mpr c7
          clear c7
          by_cases c8 : t159 = true
          · subst c8
            have H1 : (some 29) = some r := by rw [if_pos rfl] at H; exact H
            clear H
            have H := H1
            clear H1
            obtain rfl := Option.some.inj H
            go_wp2_with (first | ((with_reducible refine gate_callee (f := 31) rfl ?_); refine goesL_ (some 13) rfl rfl Tryd.func31 (by kernel_rfl) rfl #[.int .i64 a0] rfl (by (try simp only [List.map_toArray, List.map_cons, List.map_nil]); first | done | rfl | (simp only [List.length_drop, List.length_take]; rfl)) ?_; (with_reducible refine (longcaseref02_Leap.calls a0 true _ A6.out).mono ?_); rintro e w' ⟨rfl, ⟨nd, rfl⟩⟩; refine ⟨_, rfl, ?_⟩))
            go_ret
            exact ⟨by first | rfl | (simp; done) | (simp [*]; done), by repeat (first | exact Drawn0.refl _ | apply Drawn0.step)⟩
          · replace c8 := Bool.eq_false_iff.mpr c8
            subst c8
            have H1 : (some 28) = some r := by rw [if_neg (show ¬ (false = true) by decide)] at H; exact H
            clear H
            have H := H1
            clear H1
            obtain rfl := Option.some.inj H
            go_wp2_with (first | ((with_reducible refine gate_callee (f := 31) rfl ?_); refine goesL_ (some 13) rfl rfl Tryd.func31 (by kernel_rfl) rfl #[.int .i64 a0] rfl (by (try simp only [List.map_toArray, List.map_cons, List.map_nil]); first | done | rfl | (simp only [List.length_drop, List.length_take]; rfl)) ?_; (with_reducible refine (longcaseref02_Leap.calls a0 false _ A6.out).mono ?_); rintro e w' ⟨rfl, ⟨nd, rfl⟩⟩; refine ⟨_, rfl, ?_⟩))
            go_ret
            exact ⟨by first | rfl | (simp; done) | (simp [*]; done), by repeat (first | exact Drawn0.refl _ | apply Drawn0.step)⟩
        · rw [if_neg c7] at H
          have c7b0 : (a1 == 2) = false := beq_eq_false_iff_ne.mpr c7
          have c7b1 : (a1 != 2) = true := bne_iff_ne.mpr c7
          by_cases c9 : a1 = 4
          · rw [if_pos c9] at H
            have c9b0 : (a1 == 4) = true := beq_iff_eq.mpr c9
            have c9b1 : (a1 != 4) = false := bne_eq_false_iff_eq.mpr c9
            clear c9
            obtain rfl := Option.some.inj H
            go_wp2_with (first | ((with_reducible refine gate_callee (f := 31) rfl ?_); refine goesL_ (some 13) rfl rfl Tryd.func31 (by kernel_rfl) rfl #[.int .i64 a0] rfl (by (try simp only [List.map_toArray, List.map_cons, List.map_nil]); first | done | rfl | (simp only [List.length_drop, List.length_take]; rfl)) ?_; (with_reducible refine (longcaseref02_Leap.calls a0 t159 _ A6.out).mono ?_); rintro e w' ⟨rfl, ⟨nd, rfl⟩⟩; refine ⟨_, rfl, ?_⟩))
            go_ret
            exact ⟨by first | rfl | (simp; done) | (simp [*]; done), by repeat (first | exact Drawn0.refl _ | apply Drawn0.step)⟩
          · rw [if_neg c9] at H
            have c9b0 : (a1 == 4) = false := beq_eq_false_iff_ne.mpr c9
            have c9b1 : (a1 != 4) = true := bne_iff_ne.mpr c9
            by_cases c10 : a1 = 6
            · rw [if_pos c10] at H
              have c10b0 : (a1 == 6) = true := beq_iff_eq.mpr c10
              have c10b1 : (a1 != 6) = false := bne_eq_false_iff_eq.mpr c10
              clear c10
              obtain rfl := Option.some.inj H
              go_wp2_with (first | ((with_reducible refine gate_callee (f := 31) rfl ?_); refine goesL_ (some 13) rfl rfl Tryd.func31 (by kernel_rfl) rfl #[.int .i64 a0] rfl (by (try simp only [List.map_toArray, List.map_cons, List.map_nil]); first | done | rfl | (simp only [List.length_drop, List.length_take]; rfl)) ?_; (with_reducible refine (longcaseref02_Leap.calls a0 t159 _ A6.out).mono ?_); rintro e w' ⟨rfl, ⟨nd, rfl⟩⟩; refine ⟨_, rfl, ?_⟩))
              go_ret
              exact ⟨by first | rfl | (simp; done) | (simp [*]; done), by repeat (first | exact Drawn0.refl _ | apply Drawn0.step)⟩
            · rw [if_neg c10] at H
              have c10b0 : (a1 == 6) = false := beq_eq_false_iff_ne.mpr c10
              have c10b1 : (a1 != 6) = true := bne_iff_ne.mpr c10
              by_cases c11 : a1 = 9
              · rw [if_pos c11] at H
                have c11b0 : (a1 == 9) = true := beq_iff_eq.mpr c11
                have c11b1 : (a1 != 9) = false := bne_eq_false_iff_eq.mpr c11
                clear c11
                obtain rfl := Option.some.inj H
                go_wp2_with (first | ((with_reducible refine gate_callee (f := 31) rfl ?_); refine goesL_ (some 13) rfl rfl Tryd.func31 (by kernel_rfl) rfl #[.int .i64 a0] rfl (by (try simp only [List.map_toArray, List.map_cons, List.map_nil]); first | done | rfl | (simp only [List.length_drop, List.length_take]; rfl)) ?_; (with_reducible refine (longcaseref02_Leap.calls a0 t159 _ A6.out).mono ?_); rintro e w' ⟨rfl, ⟨nd, rfl⟩⟩; refine ⟨_, rfl, ?_⟩))
                go_ret
                exact ⟨by first | rfl | (simp; done) | (simp [*]; done), by repeat (first | exact Drawn0.refl _ | apply Drawn0.step)⟩
              · rw [if_neg c11] at H
                have c11b0 : (a1 == 9) = false := beq_eq_false_iff_ne.mpr c11
                have c11b1 : (a1 != 9) = true := bne_iff_ne.mpr c11
                by_cases c12 : a1 = 11
                · rw [if_pos c12] at H
                  have c12b0 : (a1 == 11) = true := beq_iff_eq.mpr c12
                  have c12b1 : (a1 != 11) = false := bne_eq_false_iff_eq.mpr c12
                  clear c12
                  obtain rfl := Option.some.inj H
                  go_wp2_with (first | ((with_reducible refine gate_callee (f := 31) rfl ?_); refine goesL_ (some 13) rfl rfl Tryd.func31 (by kernel_rfl) rfl #[.int .i64 a0] rfl (by (try simp only [List.map_toArray, List.map_cons, List.map_nil]); first | done | rfl | (simp only [List.length_drop, List.length_take]; rfl)) ?_; (with_reducible refine (longcaseref02_Leap.calls a0 t159 _ A6.out).mono ?_); rintro e w' ⟨rfl, ⟨nd, rfl⟩⟩; refine ⟨_, rfl, ?_⟩))
                  go_ret
                  exact ⟨by first | rfl | (simp; done) | (simp [*]; done), by repeat (first | exact Drawn0.refl _ | apply Drawn0.step)⟩
                · rw [if_neg c12] at H
                  have c12b0 : (a1 == 11) = false := beq_eq_false_iff_ne.mpr c12
                  have c12b1 : (a1 != 11) = true := bne_iff_ne.mpr c12
                  obtain rfl := Option.some.inj H
                  go_wp2_with (first | ((with_reducible refine gate_callee (f := 31) rfl ?_); refine goesL_ (some 13) rfl rfl Tryd.func31 (by kernel_rfl) rfl #[.int .i64 a0] rfl (by (try simp only [List.map_toArray, List.map_cons, List.map_nil]); first | done | rfl | (simp only [List.length_drop, List.length_take]; rfl)) ?_; (with_reducible refine (longcaseref02_Leap.calls a0 t159 _ A6.out).mono ?_); rintro e w' ⟨rfl, ⟨nd, rfl⟩⟩; refine ⟨_, rfl, ?_⟩))
                  go_ret
                  exact ⟨by first | rfl | (simp; done) | (simp [*]; done), by repeat (first | exact Drawn0.refl _ | apply Drawn0.step)⟩
end Go.Proofs.YtgbehcahdgamoaaDoor.Fn

namespace Go.Proofs.YtgbehcahdgamoaaDoor.Fn
open Go.RowKit Go.Proofs.YtgbehcahdgamoaaDoorW.PrintWords Go.Proofs.YtgbehcahdgamoaaDoorW.PrintLast Go.Proofs.YtgbehcahdgamoaaDoorW.PrintMore
set_option linter.unusedVariables false
set_option linter.unusedSimpArgs false
/-! ### longcaseref02_Yearday: function 48 -/
def longcaseref02_Yearday.l0 : Nat → Int → Int → Int → Int → Option (Int)
  | 0, _, _, _, _ => none
  | k + 1, x0, x1, x7, x8 => if x8 < x1 then ((longcaseref02_Length.f k x0 x8).bind fun t160 => (longcaseref02_Yearday.l0 k x0 x1 (wrap64 (x7 + t160)) (wrap64 (x8 + 1)))) else (some x7)
def longcaseref02_Yearday.f (k : Nat) (a0 : Int) (a1 : Int) (a2 : Int) : Option (Int) := longcaseref02_Yearday.l0 k a0 a1 (wrap64 (a2 - 1)) 1
theorem longcaseref02_Yearday.mono_l : ∀ k, (∀ y0 y1 y2 y3, LeO (longcaseref02_Yearday.l0 k y0 y1 y2 y3) (longcaseref02_Yearday.l0 (k + 1) y0 y1 y2 y3))
  | 0 => fun _ _ _ _ r h => by simp [longcaseref02_Yearday.l0] at h
  | k + 1 => by
    have ih0 := longcaseref02_Yearday.mono_l k
    · intro y0 y1 y2 y3
      unfold longcaseref02_Yearday.l0
      repeat' first
      | (with_reducible exact ih0 _ _ _ _)
      | (with_reducible exact longcaseref02_Length.mono _ _ _)
      | (with_reducible exact LeO.refl _)
      | (with_reducible exact LeO.none _)
      | (with_reducible refine LeO.ite ?_ ?_)
      | (with_reducible refine LeO.bind ?_ (fun _ => ?_))
      | exact ih0 _ _ _ _
      | exact longcaseref02_Length.mono _ _ _
      | exact LeO.none _
      | refine LeO.ite ?_ ?_
      | refine LeO.bind ?_ (fun _ => ?_)
theorem longcaseref02_Yearday.mono : ∀ a0 a1 a2 k, LeO (longcaseref02_Yearday.f k a0 a1 a2) (longcaseref02_Yearday.f (k + 1) a0 a1 a2) := by
  intro a0 a1 a2 k
  have ih0 := longcaseref02_Yearday.mono_l k
  unfold longcaseref02_Yearday.f
  repeat' first
      | (with_reducible exact ih0 _ _ _ _)
      | (with_reducible exact longcaseref02_Length.mono _ _ _)
      | (with_reducible exact LeO.refl _)
      | (with_reducible exact LeO.none _)
      | (with_reducible refine LeO.ite ?_ ?_)
      | (with_reducible refine LeO.bind ?_ (fun _ => ?_))
      | exact ih0 _ _ _ _
      | exact longcaseref02_Length.mono _ _ _
      | exact LeO.none _
      | refine LeO.ite ?_ ?_
      | refine LeO.bind ?_ (fun _ => ?_)
set_option maxHeartbeats 8000000 in
set_option maxRecDepth 100000 in
theorem longcaseref02_Yearday.calls (k : Nat) (a0 : Int) (a1 : Int) (a2 : Int) (r : Int) (w : World) (h : longcaseref02_Yearday.f k a0 a1 a2 = some r) :
    Calls Tryd.prog 48 #[.int .i64 a0, .int .i64 a1, .int .i64 a2] w fun e w' => e = .returned (.int .i64 r) ∧ Drawn0 w w' := by
  have H : (longcaseref02_Yearday.l0 k a0 a1 (wrap64 (a2 - 1)) 1) = some r := h
  clear h
  have H' := Aside0.mk H
  clear H
  go_enter Tryd.func48, Tryd.ntmps48
  go_wp2
  go_loopg [7, 8] k (fun kq v7 v8 w' => ∃ (x7_1 : Int) (x8_1 : Int), v7 = .int .i64 x7_1 ∧ v8 = .int .i64 x8_1 ∧ Aside0 (longcaseref02_Yearday.l0 kq a0 a1 x7_1 x8_1 = some r) ∧ Aside0 (kq ≤ k) ∧ Drawn0 w w')
  case atStart => exact ⟨(wrap64 (a2 - 1)), (1), (by first | rfl | (simp; done) | (simp [*]; done)), (by first | rfl | (simp; done) | (simp [*]; done)), H', ⟨Nat.le_refl _⟩, by repeat (first | exact Drawn0.refl _ | apply Drawn0.step)⟩
  case round =>
    clear H'
    try clear p2
    obtain ⟨x7_1, x8_1, rfl, rfl, HA, HK1, ⟨m1, rfl⟩⟩ := hrel
    cases gk with
    | zero => exact absurd HA.out (by simp [longcaseref02_Yearday.l0])
    | succ k1 =>
      have H := HA.out
      clear HA
      simp only [longcaseref02_Yearday.l0] at H
      by_cases c4 : x8_1 < a1
      · rw [if_pos c4] at H
        have c4b0 : decide (x8_1 < a1) = true := decide_eq_true c4
        clear c4
        replace H := Option.bind_eq_some_iff.mp H
        obtain ⟨t160, A50, H⟩ := H
        replace H : (longcaseref02_Yearday.l0 k1 a0 a1 (wrap64 (x7_1 + t160)) (wrap64 (x8_1 + 1))) = some r := H
        have A5 := Aside0.mk A50
        clear A50
        have H' := Aside0.mk H
        clear H
        go_wp2_with (first | ((with_reducible refine gate_callee (f := 32) rfl ?_); refine goesL_ (some 19) rfl rfl Tryd.func32 (by kernel_rfl) rfl #[.int .i64 a0, .int .i64 x8_1] rfl (by (try simp only [List.map_toArray, List.map_cons, List.map_nil]); first | done | rfl | (simp only [List.length_drop, List.length_take]; rfl)) ?_; (with_reducible refine (longcaseref02_Length.calls k1 a0 x8_1 t160 _ A5.out).mono ?_); rintro e w' ⟨rfl, ⟨nd, rfl⟩⟩; refine ⟨_, rfl, ?_⟩))
        go_roundg k1
        case measure => have := HK1.out; omega
        case rel => exact ⟨(wrap64 (x7_1 + t160)), (wrap64 (x8_1 + 1)), (by first | rfl | (simp; done) | (simp [*]; done)), (by first | rfl | (simp; done) | (simp [*]; done)), H', ⟨by have := HK1.out; omega⟩, by repeat (first | exact Drawn0.refl _ | apply Drawn0.step)⟩
      · rw [if_neg c4] at H
        have c4b0 : decide (x8_1 < a1) = false := decide_eq_false c4
        clear c4
        obtain rfl := Option.some.inj H
        go_wp2
        go_ret
        exact ⟨by first | rfl | (simp; done) | (simp [*]; done), by repeat (first | exact Drawn0.refl _ | apply Drawn0.step)⟩
end Go.Proofs.YtgbehcahdgamoaaDoor.Fn

namespace Go.Proofs.YtgbehcahdgamoaaDoor.Fn
open Go.RowKit Go.Proofs.YtgbehcahdgamoaaDoorW.PrintWords Go.Proofs.YtgbehcahdgamoaaDoorW.PrintLast Go.Proofs.YtgbehcahdgamoaaDoorW.PrintMore
set_option linter.unusedVariables false
set_option linter.unusedSimpArgs false
/-! ### longcaseref02_Days: function 30 -/
def longcaseref02_Days.l0 : Nat → Int → Int → Int → Int → Int → Int → Option (Int)
  | 0, _, _, _, _, _, _ => none
  | k + 1, x0, x1, x2, x8, x10, x11 => if x11 < x8 then ((longcaseref02_Leap.f x11).bind fun t164 => (if t164 = true then (longcaseref02_Days.l0 k x0 x1 x2 x8 (wrap64 ((wrap64 (x10 + 365)) + 1)) (wrap64 (x11 + 1))) else (longcaseref02_Days.l0 k x0 x1 x2 x8 (wrap64 (x10 + 365)) (wrap64 (x11 + 1))))) else ((longcaseref02_Yearday.f k x0 x1 x2).bind fun t165 => (some (wrap64 (x10 + t165))))
def longcaseref02_Days.f (k : Nat) (a0 : Int) (a1 : Int) (a2 : Int) : Option (Int) := (longcaseref01_Div.f a0 400).bind fun bt161 => (longcaseref02_Days.l0 k a0 a1 a2 bt161.2.1 (wrap64 ((wrap64 (bt161.1 * 146097)) - 719528)) 0)
theorem longcaseref02_Days.mono_l : ∀ k, (∀ y0 y1 y2 y3 y4 y5, LeO (longcaseref02_Days.l0 k y0 y1 y2 y3 y4 y5) (longcaseref02_Days.l0 (k + 1) y0 y1 y2 y3 y4 y5))
  | 0 => fun _ _ _ _ _ _ r h => by simp [longcaseref02_Days.l0] at h
  | k + 1 => by
    have ih0 := longcaseref02_Days.mono_l k
    · intro y0 y1 y2 y3 y4 y5
      unfold longcaseref02_Days.l0
      repeat' first
      | (with_reducible exact ih0 _ _ _ _ _ _)
      | (with_reducible exact longcaseref02_Yearday.mono _ _ _ _)
      | (with_reducible exact LeO.refl _)
      | (with_reducible exact LeO.none _)
      | (with_reducible refine LeO.ite ?_ ?_)
      | (with_reducible refine LeO.bind ?_ (fun _ => ?_))
      | exact ih0 _ _ _ _ _ _
      | exact longcaseref02_Yearday.mono _ _ _ _
      | exact LeO.none _
      | refine LeO.ite ?_ ?_
      | refine LeO.bind ?_ (fun _ => ?_)
theorem longcaseref02_Days.mono : ∀ a0 a1 a2 k, LeO (longcaseref02_Days.f k a0 a1 a2) (longcaseref02_Days.f (k + 1) a0 a1 a2) := by
  intro a0 a1 a2 k
  have ih0 := longcaseref02_Days.mono_l k
  unfold longcaseref02_Days.f
  repeat' first
      | (with_reducible exact ih0 _ _ _ _ _ _)
      | (with_reducible exact longcaseref02_Yearday.mono _ _ _ _)
      | (with_reducible exact LeO.refl _)
      | (with_reducible exact LeO.none _)
      | (with_reducible refine LeO.ite ?_ ?_)
      | (with_reducible refine LeO.bind ?_ (fun _ => ?_))
      | exact ih0 _ _ _ _ _ _
      | exact longcaseref02_Yearday.mono _ _ _ _
      | exact LeO.none _
      | refine LeO.ite ?_ ?_
      | refine LeO.bind ?_ (fun _ => ?_)
set_option maxHeartbeats 8000000 in
set_option maxRecDepth 100000 in
theorem longcaseref02_Days.calls (k : Nat) (a0 : Int) (a1 : Int) (a2 : Int) (r : Int) (w : World) (h : longcaseref02_Days.f k a0 a1 a2 = some r) :
    Calls Tryd.prog 30 #[.int .i64 a0, .int .i64 a1, .int .i64 a2] w fun e w' => e = .returned (.int .i64 r) ∧ Drawn0 w w' := by
  have H : ((longcaseref01_Div.f a0 400).bind fun bt161 => (longcaseref02_Days.l0 k a0 a1 a2 bt161.2.1 (wrap64 ((wrap64 (bt161.1 * 146097)) - 719528)) 0)) = some r := h
  clear h
  replace H := Option.bind_eq_some_iff.mp H
  obtain ⟨⟨t161, t162, t163⟩, A40, H⟩ := H
  replace H : (longcaseref02_Days.l0 k a0 a1 a2 t162 (wrap64 ((wrap64 (t161 * 146097)) - 719528)) 0) = some r := H
  have A4 := Aside0.mk A40
  clear A40
  have H' := Aside0.mk H
  clear H
  go_enter Tryd.func30, Tryd.ntmps30
  go_wp2_with (first | ((with_reducible refine gate_callee (f := 38) rfl ?_); refine goesL_ (some 15) rfl rfl Tryd.func38 (by kernel_rfl) rfl #[.int .i64 a0, .int .i64 400] rfl (by (try simp only [List.map_toArray, List.map_cons, List.map_nil]); first | done | rfl | (simp only [List.length_drop, List.length_take]; rfl)) ?_; (with_reducible refine (longcaseref01_Div.calls a0 400 t161 t162 t163 _ A4.out).mono ?_); rintro e w' ⟨rfl, ⟨nd, rfl⟩⟩; refine ⟨_, rfl, ?_⟩))
  go_loopg [10, 11] k (fun kq v10 v11 w' => ∃ (x10_1 : Int) (x11_1 : Int), v10 = .int .i64 x10_1 ∧ v11 = .int .i64 x11_1 ∧ Aside0 (longcaseref02_Days.l0 kq a0 a1 a2 t162 x10_1 x11_1 = some r) ∧ Aside0 (kq ≤ k) ∧ Drawn0 w w')
  case atStart => exact ⟨(wrap64 ((wrap64 (t161 * 146097)) - 719528)), (0), (by first | rfl | (simp; done) | (simp [*]; done)), (by first | rfl | (simp; done) | (simp [*]; done)), H', ⟨Nat.le_refl _⟩, by repeat (first | exact Drawn0.refl _ | apply Drawn0.step)⟩
  case round =>
    clear H'
    try clear p2
    try clear c3
    obtain ⟨x10_1, x11_1, rfl, rfl, HA, HK1, ⟨m1, rfl⟩⟩ := hrel
    cases gk with
    | zero => exact absurd HA.out (by simp [longcaseref02_Days.l0])
    | succ k1 =>
      have H := HA.out
      clear HA
      simp only [longcaseref02_Days.l0] at H
      by_cases c5 : x11_1 < t162
      · rw [if_pos c5] at H
        have c5b0 : decide (x11_1 < t162) = true := decide_eq_true c5
        clear c5
        replace H := Option.bind_eq_some_iff.mp H
        obtain ⟨t164, A60, H⟩ := H
        replace H : (if t164 = true then (longcaseref02_Days.l0 k1 a0 a1 a2 t162 (wrap64 ((wrap64 (x10_1 + 365)) + 1)) (wrap64 (x11_1 + 1))) else (longcaseref02_Days.l0 k1 a0 a1 a2 t162 (wrap64 (x10_1 + 365)) (wrap64 (x11_1 + 1)))) = some r := H
        have A6 := Aside0.mk A60
        clear A60
        by_cases c7 : t164 = true
        · subst c7
          have H1 : (longcaseref02_Days.l0 k1 a0 a1 a2 t162 (wrap64 ((wrap64 (x10_1 + 365)) + 1)) (wrap64 (x11_1 + 1))) = some r := by rw [if_pos rfl] at H; exact H
          clear H
          have H := H1
          clear H1
          have H' := Aside0.mk H
          clear H
          go_wp2_with (first | ((with_reducible refine gate_callee (f := 31) rfl ?_); refine goesL_ (some 28) rfl rfl Tryd.func31 (by kernel_rfl) rfl #[.int .i64 x11_1] rfl (by (try simp only [List.map_toArray, List.map_cons, List.map_nil]); first | done | rfl | (simp only [List.length_drop, List.length_take]; rfl)) ?_; (with_reducible refine (longcaseref02_Leap.calls x11_1 true _ A6.out).mono ?_); rintro e w' ⟨rfl, ⟨nd, rfl⟩⟩; refine ⟨_, rfl, ?_⟩))
          go_roundg k1
          case measure => have := HK1.out; omega
          case rel => exact ⟨(wrap64 ((wrap64 (x10_1 + 365)) + 1)), (wrap64 (x11_1 + 1)), (by first | rfl | (simp; done) | (simp [*]; done)), (by first | rfl | (simp; done) | (simp [*]; done)), H', ⟨by have := HK1.out; omega⟩, by repeat (first | exact Drawn0.refl _ | apply Drawn0.step)⟩
        · replace c7 := Bool.eq_false_iff.mpr c7
          subst c7
          have H1 : (longcaseref02_Days.l0 k1 a0 a1 a2 t162 (wrap64 (x10_1 + 365)) (wrap64 (x11_1 + 1))) = some r := by rw [if_neg (show ¬ (false = true) by decide)] at H; exact H
          clear H
          have H := H1
          clear H1
          have H' := Aside0.mk H
          clear H
          go_wp2_with (first | ((with_reducible refine gate_callee (f := 31) rfl ?_); refine goesL_ (some 28) rfl rfl Tryd.func31 (by kernel_rfl) rfl #[.int .i64 x11_1] rfl (by (try simp only [List.map_toArray, List.map_cons, List.map_nil]); first | done | rfl | (simp only [List.length_drop, List.length_take]; rfl)) ?_; (with_reducible refine (longcaseref02_Leap.calls x11_1 false _ A6.out).mono ?_); rintro e w' ⟨rfl, ⟨nd, rfl⟩⟩; refine ⟨_, rfl, ?_⟩))
          go_roundg k1
          case measure => have := HK1.out; omega
          case rel => exact ⟨(wrap64 (x10_1 + 365)), (wrap64 (x11_1 + 1)), (by first | rfl | (simp; done) | (simp [*]; done)), (by first | rfl | (simp; done) | (simp [*]; done)), H', ⟨by have := HK1.out; omega⟩, by repeat (first | exact Drawn0.refl _ | apply Drawn0.step)⟩
      · rw [if_neg c5] at H
        have c5b0 : decide (x11_1 < t162) = false := decide_eq_false c5
        clear c5
        replace H := Option.bind_eq_some_iff.mp H
        obtain ⟨t165, A80, H⟩ := H
        replace H : (some (wrap64 (x10_1 + t165))) = some r := H
        have A8 := Aside0.mk A80
        clear A80
        obtain rfl := Option.some.inj H
        go_wp2_with (first | ((with_reducible refine gate_callee (f := 48) rfl ?_); refine goesL_ (some 38) rfl rfl Tryd.func48 (by kernel_rfl) rfl #[.int .i64 a0, .int .i64 a1, .int .i64 a2] rfl (by (try simp only [List.map_toArray, List.map_cons, List.map_nil]); first | done | rfl | (simp only [List.length_drop, List.length_take]; rfl)) ?_; (with_reducible refine (longcaseref02_Yearday.calls k1 a0 a1 a2 t165 _ A8.out).mono ?_); rintro e w' ⟨rfl, ⟨nd, rfl⟩⟩; refine ⟨_, rfl, ?_⟩))
        go_ret
        exact ⟨by first | rfl | (simp; done) | (simp [*]; done), by repeat (first | exact Drawn0.refl _ | apply Drawn0.step)⟩
end Go.Proofs.YtgbehcahdgamoaaDoor.Fn

namespace Go.Proofs.YtgbehcahdgamoaaDoor.Fn
open Go.RowKit Go.Proofs.YtgbehcahdgamoaaDoorW.PrintWords Go.Proofs.YtgbehcahdgamoaaDoorW.PrintLast Go.Proofs.YtgbehcahdgamoaaDoorW.PrintMore
set_option linter.unusedVariables false
set_option linter.unusedSimpArgs false
/-! ### longcaseref02_Weekday: function 33 -/
def longcaseref02_Weekday.f (a0 : Int) : Option (Int) := (longcaseref01_Div.f a0 7).bind fun bt166 => (some (Int.tmod (wrap64 (bt166.2.1 + 4)) 7))
set_option maxHeartbeats 8000000 in
set_option maxRecDepth 100000 in
theorem longcaseref02_Weekday.calls (a0 : Int) (r : Int) (w : World) (h : longcaseref02_Weekday.f a0 = some r) :
    Calls Tryd.prog 33 #[.int .i64 a0] w fun e w' => e = .returned (.int .i64 r) ∧ Drawn0 w w' := by
  have H : ((longcaseref01_Div.f a0 7).bind fun bt166 => (some (Int.tmod (wrap64 (bt166.2.1 + 4)) 7))) = some r := h
  clear h
  replace H := Option.bind_eq_some_iff.mp H
  obtain ⟨⟨t166, t167, t168⟩, A20, H⟩ := H
  replace H : (some (Int.tmod (wrap64 (t167 + 4)) 7)) = some r := H
  have A2 := Aside0.mk A20
  clear A20
  obtain rfl := Option.some.inj H
  go_enter Tryd.func33, Tryd.ntmps33
  go_wp2_with (first | ((with_reducible refine gate_callee (f := 38) rfl ?_); refine goesL_ (some 8) rfl rfl Tryd.func38 (by kernel_rfl) rfl #[.int .i64 a0, .int .i64 7] rfl (by (try simp only [List.map_toArray, List.map_cons, List.map_nil]); first | done | rfl | (simp only [List.length_drop, List.length_take]; rfl)) ?_; (with_reducible refine (longcaseref01_Div.calls a0 7 t166 t167 t168 _ A2.out).mono ?_); rintro e w' ⟨rfl, ⟨nd, rfl⟩⟩; refine ⟨_, rfl, ?_⟩))
  go_ret
  exact ⟨by first | rfl | (simp; done) | (simp [*]; done), by repeat (first | exact Drawn0.refl _ | apply Drawn0.step)⟩
end Go.Proofs.YtgbehcahdgamoaaDoor.Fn

namespace Go.Proofs.YtgbehcahdgamoaaDoor.Fn
open Go.RowKit Go.Proofs.YtgbehcahdgamoaaDoorW.PrintWords Go.Proofs.YtgbehcahdgamoaaDoorW.PrintLast Go.Proofs.YtgbehcahdgamoaaDoorW.PrintMore
set_option linter.unusedVariables false
set_option linter.unusedSimpArgs false
/-! ### longcaseref02_Date: function 39 -/
mutual
def longcaseref02_Date.j0 : Nat → Int → Bool → Option (Int × Int × Int × Bool)
  | 0, _, _ => none
  | k + 1, x0, x20 => if x20 = true then (some (0, 0, 0, false)) else ((longcaseref01_Div.f (wrap64 (x0 + 719528)) 146097).bind fun bt200 => (longcaseref02_Date.l0 k bt200.1 0 bt200.2.1))
def longcaseref02_Date.j2 : Nat → Int → Int → Int → Option (Int × Int × Int × Bool)
  | 0, _, _, _ => none
  | k + 1, x6, x9, x10 => if (wrap64 ((wrap64 (x6 * 400)) + x9)) < (-2147483648) then (longcaseref02_Date.j3 k x10 (wrap64 ((wrap64 (x6 * 400)) + x9)) true) else (longcaseref02_Date.j3 k x10 (wrap64 ((wrap64 (x6 * 400)) + x9)) (decide ((wrap64 ((wrap64 (x6 * 400)) + x9)) > 2147483647)))
def longcaseref02_Date.j3 : Nat → Int → Int → Bool → Option (Int × Int × Int × Bool)
  | 0, _, _, _ => none
  | k + 1, x10, x13, x51 => if x51 = true then (some (0, 0, 0, false)) else (longcaseref02_Date.l1 k x10 x13 1)
def longcaseref02_Date.l1 : Nat → Int → Int → Int → Option (Int × Int × Int × Bool)
  | 0, _, _, _ => none
  | k + 1, x10, x13, x14 => (longcaseref02_Length.f k x13 x14).bind fun t204 => (if x10 ≥ t204 then ((longcaseref02_Length.f k x13 x14).bind fun t205 => (longcaseref02_Date.l1 k (wrap64 (x10 - t205)) x13 (wrap64 (x14 + 1)))) else (some (x13, x14, wrap64 (x10 + 1), true)))
def longcaseref02_Date.l0 : Nat → Int → Int → Int → Option (Int × Int × Int × Bool)
  | 0, _, _, _ => none
  | k + 1, x6, x9, x10 => (longcaseref02_Leap.f x9).bind fun t203 => (if t203 = true then (if x10 < 366 then (longcaseref02_Date.j2 k x6 x9 x10) else (longcaseref02_Date.l0 k x6 (wrap64 (x9 + 1)) (wrap64 (x10 - 366)))) else (if x10 < 365 then (longcaseref02_Date.j2 k x6 x9 x10) else (longcaseref02_Date.l0 k x6 (wrap64 (x9 + 1)) (wrap64 (x10 - 365)))))
end
def longcaseref02_Date.f (k : Nat) (a0 : Int) : Option (Int × Int × Int × Bool) := if a0 < (-800000000000) then (longcaseref02_Date.j0 k a0 true) else (longcaseref02_Date.j0 k a0 (decide (a0 > 800000000000)))
theorem longcaseref02_Date.mono_l : ∀ k, (∀ y0 y1, LeO (longcaseref02_Date.j0 k y0 y1) (longcaseref02_Date.j0 (k + 1) y0 y1)) ∧ (∀ y0 y1 y2, LeO (longcaseref02_Date.j2 k y0 y1 y2) (longcaseref02_Date.j2 (k + 1) y0 y1 y2)) ∧ (∀ y0 y1 y2, LeO (longcaseref02_Date.j3 k y0 y1 y2) (longcaseref02_Date.j3 (k + 1) y0 y1 y2)) ∧ (∀ y0 y1 y2, LeO (longcaseref02_Date.l1 k y0 y1 y2) (longcaseref02_Date.l1 (k + 1) y0 y1 y2)) ∧ (∀ y0 y1 y2, LeO (longcaseref02_Date.l0 k y0 y1 y2) (longcaseref02_Date.l0 (k + 1) y0 y1 y2))
  | 0 => ⟨fun _ _ r h => by simp [longcaseref02_Date.j0] at h, fun _ _ _ r h => by simp [longcaseref02_Date.j2] at h, fun _ _ _ r h => by simp [longcaseref02_Date.j3] at h, fun _ _ _ r h => by simp [longcaseref02_Date.l1] at h, fun _ _ _ r h => by simp [longcaseref02_Date.l0] at h⟩
  | k + 1 => by
    obtain ⟨ih0, ih1, ih2, ih3, ih4⟩ := longcaseref02_Date.mono_l k
    refine ⟨?_, ?_, ?_, ?_, ?_⟩
    · intro y0 y1
      unfold longcaseref02_Date.j0
      repeat' first
      | (with_reducible exact ih0 _ _)
      | (with_reducible exact ih1 _ _ _)
      | (with_reducible exact ih2 _ _ _)
      | (with_reducible exact ih3 _ _ _)
      | (with_reducible exact ih4 _ _ _)
      | (with_reducible exact longcaseref02_Length.mono _ _ _)
      | (with_reducible exact LeO.refl _)
      | (with_reducible exact LeO.none _)
      | (with_reducible refine LeO.ite ?_ ?_)
      | (with_reducible refine LeO.bind ?_ (fun _ => ?_))
      | exact ih0 _ _
      | exact ih1 _ _ _
      | exact ih2 _ _ _
      | exact ih3 _ _ _
      | exact ih4 _ _ _
      | exact longcaseref02_Length.mono _ _ _
      | exact LeO.none _
      | refine LeO.ite ?_ ?_
      | refine LeO.bind ?_ (fun _ => ?_)
    · intro y0 y1 y2
      unfold longcaseref02_Date.j2
      repeat' first
      | (with_reducible exact ih0 _ _)
      | (with_reducible exact ih1 _ _ _)
      | (with_reducible exact ih2 _ _ _)
      | (with_reducible exact ih3 _ _ _)
      | (with_reducible exact ih4 _ _ _)
      | (with_reducible exact longcaseref02_Length.mono _ _ _)
      | (with_reducible exact LeO.refl _)
      | (with_reducible exact LeO.none _)
      | (with_reducible refine LeO.ite ?_ ?_)
      | (with_reducible refine LeO.bind ?_ (fun _ => ?_))
      | exact ih0 _ _
      | exact ih1 _ _ _
      | exact ih2 _ _ _
      | exact ih3 _ _ _
      | exact ih4 _ _ _
      | exact longcaseref02_Length.mono _ _ _
      | exact LeO.none _
      | refine LeO.ite ?_ ?_
      | refine LeO.bind ?_ (fun _ => ?_)
    · intro y0 y1 y2
      unfold longcaseref02_Date.j3
      repeat' first
      | (with_reducible exact ih0 _ _)
      | (with_reducible exact ih1 _ _ _)
      | (with_reducible exact ih2 _ _ _)
      | (with_reducible exact ih3 _ _ _)
      | (with_reducible exact ih4 _ _ _)
      | (with_reducible exact longcaseref02_Length.mono _ _ _)
      | (with_reducible exact LeO.refl _)
      | (with_reducible exact LeO.none _)
      | (with_reducible refine LeO.ite ?_ ?_)
      | (with_reducible refine LeO.bind ?_ (fun _ => ?_))
      | exact ih0 _ _
      | exact ih1 _ _ _
      | exact ih2 _ _ _
      | exact ih3 _ _ _
      | exact ih4 _ _ _
      | exact longcaseref02_Length.mono _ _ _
      | exact LeO.none _
      | refine LeO.ite ?_ ?_
      | refine LeO.bind ?_ (fun _ => ?_)
    · intro y0 y1 y2
      unfold longcaseref02_Date.l1
      repeat' first
      | (with_reducible exact ih0 _ _)
      | (with_reducible exact ih1 _ _ _)
      | (with_reducible exact ih2 _ _ _)
      | (with_reducible exact ih3 _ _ _)
      | (with_reducible exact ih4 _ _ _)
      | (with_reducible exact longcaseref02_Length.mono _ _ _)
      | (with_reducible exact LeO.refl _)
      | (with_reducible exact LeO.none _)
      | (with_reducible refine LeO.ite ?_ ?_)
      | (with_reducible refine LeO.bind ?_ (fun _ => ?_))
      | exact ih0 _ _
      | exact ih1 _ _ _
      | exact ih2 _ _ _
      | exact ih3 _ _ _
      | exact ih4 _ _ _
      | exact longcaseref02_Length.mono _ _ _
      | exact LeO.none _
      | refine LeO.ite ?_ ?_
      | refine LeO.bind ?_ (fun _ => ?_)
    · intro y0 y1 y2
      unfold longcaseref02_Date.l0
      repeat' first
      | (with_reducible exact ih0 _ _)
      | (with_reducible exact ih1 _ _ _)
      | (with_reducible exact ih2 _ _ _)
      | (with_reducible exact ih3 _ _ _)
      | (with_reducible exact ih4 _ _ _)
      | (with_reducible exact longcaseref02_Length.mono _ _ _)
      | (with_reducible exact LeO.refl _)
      | (with_reducible exact LeO.none _)
      | (with_reducible refine LeO.ite ?_ ?_)
      | (with_reducible refine LeO.bind ?_ (fun _ => ?_))
      | exact ih0 _ _
      | exact ih1 _ _ _
      | exact ih2 _ _ _
      | exact ih3 _ _ _
      | exact ih4 _ _ _
      | exact longcaseref02_Length.mono _ _ _
      | exact LeO.none _
      | refine LeO.ite ?_ ?_
      | refine LeO.bind ?_ (fun _ => ?_)
theorem longcaseref02_Date.mono : ∀ a0 k, LeO (longcaseref02_Date.f k a0) (longcaseref02_Date.f (k + 1) a0) := by
  intro a0 k
  obtain ⟨ih0, ih1, ih2, ih3, ih4⟩ := longcaseref02_Date.mono_l k
  unfold longcaseref02_Date.f
  repeat' first
      | (with_reducible exact ih0 _ _)
      | (with_reducible exact ih1 _ _ _)
      | (with_reducible exact ih2 _ _ _)
      | (with_reducible exact ih3 _ _ _)
      | (with_reducible exact ih4 _ _ _)
      | (with_reducible exact longcaseref02_Length.mono _ _ _)
      | (with_reducible exact LeO.refl _)
      | (with_reducible exact LeO.none _)
      | (with_reducible refine LeO.ite ?_ ?_)
      | (with_reducible refine LeO.bind ?_ (fun _ => ?_))
      | exact ih0 _ _
      | exact ih1 _ _ _
      | exact ih2 _ _ _
      | exact ih3 _ _ _
      | exact ih4 _ _ _
      | exact longcaseref02_Length.mono _ _ _
      | exact LeO.none _
      | refine LeO.ite ?_ ?_
      | refine LeO.bind ?_ (fun _ => ?_)
set_option maxHeartbeats 8000000 in
set_option maxRecDepth 100000 in
theorem longcaseref02_Date.calls (k : Nat) (a0 : Int) (r1 : Int) (r2 : Int) (r3 : Int) (r4 : Bool) (w : World) (h : longcaseref02_Date.f k a0 = some (r1, r2, r3, r4)) :
    Calls Tryd.prog 39 #[.int .i64 a0] w fun e w' => e = .returned (.tuple #[.int .i64 r1, .int .i64 r2, .int .i64 r3, .bool r4]) ∧ Drawn0 w w' := by
  have H : (if a0 < (-800000000000) then (longcaseref02_Date.j0 k a0 true) else (longcaseref02_Date.j0 k a0 (decide (a0 > 800000000000)))) = some (r1, r2, r3, r4) := h
  clear h
  have HC2 := Aside0.mk H
  clear H
  go_enter Tryd.func39, Tryd.ntmps39
  go_upto_region 1 with (fail)
  go_cut [20] (fun v20 wc => ∃ (kq : Nat) (x20_1 : Bool), v20 = .bool x20_1 ∧ Aside0 (longcaseref02_Date.j0 kq a0 x20_1 = some (r1, r2, r3, r4)) ∧ Aside0 (kq ≤ k) ∧ Drawn0 w wc)
  case first =>
    have H := HC2.out
    clear HC2
    by_cases c3 : a0 < (-800000000000)
    · rw [if_pos c3] at H
      have c3b0 : decide (a0 < (-800000000000)) = true := decide_eq_true c3
      clear c3
      (first | rw [c3b0] | (simp only [i64_w, i32_w]; rw [c3b0]) | skip)
      have H' := Aside0.mk H
      clear H
      go_wp2
      go_meet
      case rel => exact ⟨_, (true), (by first | rfl | (simp; done) | (simp [*]; done)), H', ⟨by first | omega | exact Nat.le_refl _⟩, by repeat (first | exact Drawn0.refl _ | apply Drawn0.step)⟩
    · rw [if_neg c3] at H
      have c3b0 : decide (a0 < (-800000000000)) = false := decide_eq_false c3
      clear c3
      (first | rw [c3b0] | (simp only [i64_w, i32_w]; rw [c3b0]) | skip)
      have H' := Aside0.mk H
      clear H
      go_wp2
      go_meet
      case rel => exact ⟨_, (decide (a0 > 800000000000)), (by first | rfl | (simp; done) | (simp [*]; done)), H', ⟨by first | omega | exact Nat.le_refl _⟩, by repeat (first | exact Drawn0.refl _ | apply Drawn0.step)⟩
  case rest =>
    clear HC2
    try clear p2
    try clear c3
    try clear c3b0
    obtain ⟨kq, x20_1, rfl, HA, HJ1, ⟨mc1, rfl⟩⟩ := hcut
    cases kq with
    | zero => exact absurd HA.out (by simp [longcaseref02_Date.j0])
    | succ kj1 =>
      have H := HA.out
      clear HA
      simp only [longcaseref02_Date.j0] at H
      by_cases c4 : x20_1 = true
      · subst c4
        have H1 : (some (0, 0, 0, false)) = some (r1, r2, r3, r4) := by rw [if_pos rfl] at H; exact H
        clear H
        have H := H1
        clear H1
        simp only [Option.some.injEq, Prod.mk.injEq] at H
        obtain ⟨rfl, rfl, rfl, rfl⟩ := H
        go_wp2
        refine bodyPost_ret (results_list (rs := [.tmp 2, .tmp 3, .tmp 4, .tmp 5]) rfl (by simp) (.tmp (.tmp (.tmp (.tmp .nil))))) rfl ?_
        exact ⟨by first | rfl | (simp; done) | (simp [*]; done), by repeat (first | exact Drawn0.refl _ | apply Drawn0.step)⟩
      · replace c4 := Bool.eq_false_iff.mpr c4
        subst c4
        have H1 : ((longcaseref01_Div.f (wrap64 (a0 + 719528)) 146097).bind fun bt200 => (longcaseref02_Date.l0 kj1 bt200.1 0 bt200.2.1)) = some (r1, r2, r3, r4) := by rw [if_neg (show ¬ (false = true) by decide)] at H; exact H
        clear H
        have H := H1
        clear H1
        replace H := Option.bind_eq_some_iff.mp H
        obtain ⟨⟨t200, t201, t202⟩, A50, H⟩ := H
        replace H : (longcaseref02_Date.l0 kj1 t200 0 t201) = some (r1, r2, r3, r4) := H
        have A5 := Aside0.mk A50
        clear A50
        have HC6 := Aside0.mk H
        clear H
        go_upto_block 0 with (first | ((with_reducible refine gate_callee (f := 38) rfl ?_); refine goesL_ (some 24) rfl rfl Tryd.func38 (by kernel_rfl) rfl #[.int .i64 (wrap64 (a0 + 719528)), .int .i64 146097] rfl (by (try simp only [List.map_toArray, List.map_cons, List.map_nil]); first | done | rfl | (simp only [List.length_drop, List.length_take]; rfl)) ?_; (with_reducible refine (longcaseref01_Div.calls (wrap64 (a0 + 719528)) 146097 t200 t201 t202 _ A5.out).mono ?_); rintro e w' ⟨rfl, ⟨nd, rfl⟩⟩; refine ⟨_, rfl, ?_⟩))
        (try simp only [Act.put, List.setIfInBounds_toArray, List.set_cons_zero, List.set_cons_succ])
        go_cut [9, 10] (fun v9 v10 wc => ∃ (kq : Nat) (x9_5 : Int) (x10_5 : Int), v9 = .int .i64 x9_5 ∧ v10 = .int .i64 x10_5 ∧ Aside0 (longcaseref02_Date.j2 kq t200 x9_5 x10_5 = some (r1, r2, r3, r4)) ∧ Aside0 (kq ≤ kj1) ∧ Drawn0 w wc)
        case first =>
          have H := HC6.out
          clear HC6
          have H' := Aside0.mk H
          clear H
          go_wp2
          go_loopg [9, 10] kj1 (fun kq v9 v10 w' => ∃ (x9_2 : Int) (x10_2 : Int), v9 = .int .i64 x9_2 ∧ v10 = .int .i64 x10_2 ∧ Aside0 (longcaseref02_Date.l0 kq t200 x9_2 x10_2 = some (r1, r2, r3, r4)) ∧ Aside0 (kq ≤ kj1) ∧ Drawn0 w w')
          case atStart => exact ⟨(0), (t201), (by first | rfl | (simp; done) | (simp [*]; done)), (by first | rfl | (simp; done) | (simp [*]; done)), H', ⟨Nat.le_refl _⟩, by repeat (first | exact Drawn0.refl _ | apply Drawn0.step)⟩
          case round =>
            clear H'
            try clear c1
            try clear p2
            try clear c3
            try clear c3b0
            try clear c4
            try clear p6
            try clear p2
            obtain ⟨x9_2, x10_2, rfl, rfl, HA, HK2, ⟨m2, rfl⟩⟩ := hrel
            cases gk with
            | zero => exact absurd HA.out (by simp [longcaseref02_Date.l0])
            | succ k2 =>
              have H := HA.out
              clear HA
              simp only [longcaseref02_Date.l0] at H
              replace H := Option.bind_eq_some_iff.mp H
              obtain ⟨t203, A70, H⟩ := H
              replace H : (if t203 = true then (if x10_2 < 366 then (longcaseref02_Date.j2 k2 t200 x9_2 x10_2) else (longcaseref02_Date.l0 k2 t200 (wrap64 (x9_2 + 1)) (wrap64 (x10_2 - 366)))) else (if x10_2 < 365 then (longcaseref02_Date.j2 k2 t200 x9_2 x10_2) else (longcaseref02_Date.l0 k2 t200 (wrap64 (x9_2 + 1)) (wrap64 (x10_2 - 365))))) = some (r1, r2, r3, r4) := H
              have A7 := Aside0.mk A70
              clear A70
              by_cases c8 : t203 = true
              · subst c8
                have H1 : (if x10_2 < 366 then (longcaseref02_Date.j2 k2 t200 x9_2 x10_2) else (longcaseref02_Date.l0 k2 t200 (wrap64 (x9_2 + 1)) (wrap64 (x10_2 - 366)))) = some (r1, r2, r3, r4) := by rw [if_pos rfl] at H; exact H
                clear H
                have H := H1
                clear H1
                by_cases c9 : x10_2 < 366
                · rw [if_pos c9] at H
                  have c9b0 : decide (x10_2 < 366) = true := decide_eq_true c9
                  clear c9
                  (first | rw [c9b0] | (simp only [i64_w, i32_w]; rw [c9b0]) | skip)
                  have H' := Aside0.mk H
                  clear H
                  go_wp2_with (first | ((with_reducible refine gate_callee (f := 31) rfl ?_); refine goesL_ (some 30) rfl rfl Tryd.func31 (by kernel_rfl) rfl #[.int .i64 x9_2] rfl (by (try simp only [List.map_toArray, List.map_cons, List.map_nil]); first | done | rfl | (simp only [List.length_drop, List.length_take]; rfl)) ?_; (with_reducible refine (longcaseref02_Leap.calls x9_2 true _ A7.out).mono ?_); rintro e w' ⟨rfl, ⟨nd, rfl⟩⟩; refine ⟨_, rfl, ?_⟩))
                  go_meet
                  case rel => exact ⟨_, (x9_2), (x10_2), (by first | rfl | (simp; done) | (simp [*]; done)), (by first | rfl | (simp; done) | (simp [*]; done)), H', ⟨by have := HJ1.out; have := HK2.out; first | omega | exact Nat.le_refl _⟩, by repeat (first | exact Drawn0.refl _ | apply Drawn0.step)⟩
                · rw [if_neg c9] at H
                  have c9b0 : decide (x10_2 < 366) = false := decide_eq_false c9
                  clear c9
                  (first | rw [c9b0] | (simp only [i64_w, i32_w]; rw [c9b0]) | skip)
                  have H' := Aside0.mk H
                  clear H
                  go_wp2_with (first | ((with_reducible refine gate_callee (f := 31) rfl ?_); refine goesL_ (some 30) rfl rfl Tryd.func31 (by kernel_rfl) rfl #[.int .i64 x9_2] rfl (by (try simp only [List.map_toArray, List.map_cons, List.map_nil]); first | done | rfl | (simp only [List.length_drop, List.length_take]; rfl)) ?_; (with_reducible refine (longcaseref02_Leap.calls x9_2 true _ A7.out).mono ?_); rintro e w' ⟨rfl, ⟨nd, rfl⟩⟩; refine ⟨_, rfl, ?_⟩))
                  go_roundg k2
                  case measure => have := HJ1.out; have := HK2.out; omega
                  case rel => exact ⟨(wrap64 (x9_2 + 1)), (wrap64 (x10_2 - 366)), (by first | rfl | (simp; done) | (simp [*]; done)), (by first | rfl | (simp; done) | (simp [*]; done)), H', ⟨by have := HJ1.out; have := HK2.out; omega⟩, by repeat (first | exact Drawn0.refl _ | apply Drawn0.step)⟩
              · replace c8 := Bool.eq_false_iff.mpr c8
                subst c8
                have H1 : (if x10_2 < 365 then (longcaseref02_Date.j2 k2 t200 x9_2 x10_2) else (longcaseref02_Date.l0 k2 t200 (wrap64 (x9_2 + 1)) (wrap64 (x10_2 - 365)))) = some (r1, r2, r3, r4) := by rw [if_neg (show ¬ (false = true) by decide)] at H; exact H
                clear H
                have H := H1
                clear H1
                by_cases c10 : x10_2 < 365
                · rw [if_pos c10] at H
                  have c10b0 : decide (x10_2 < 365) = true := decide_eq_true c10
                  clear c10
                  have H' := Aside0.mk H
                  clear H
                  go_wp2_with (first | ((with_reducible refine gate_callee (f := 31) rfl ?_); refine goesL_ (some 30) rfl rfl Tryd.func31 (by kernel_rfl) rfl #[.int .i64 x9_2] rfl (by (try simp only [List.map_toArray, List.map_cons, List.map_nil]); first | done | rfl | (simp only [List.length_drop, List.length_take]; rfl)) ?_; (with_reducible refine (longcaseref02_Leap.calls x9_2 false _ A7.out).mono ?_); rintro e w' ⟨rfl, ⟨nd, rfl⟩⟩; refine ⟨_, rfl, ?_⟩))
                  go_meet
                  case rel => exact ⟨_, (x9_2), (x10_2), (by first | rfl | (simp; done) | (simp [*]; done)), (by first | rfl | (simp; done) | (simp [*]; done)), H', ⟨by have := HJ1.out; have := HK2.out; first | omega | exact Nat.le_refl _⟩, by repeat (first | exact Drawn0.refl _ | apply Drawn0.step)⟩
                · rw [if_neg c10] at H
                  have c10b0 : decide (x10_2 < 365) = false := decide_eq_false c10
                  clear c10
                  have H' := Aside0.mk H
                  clear H
                  go_wp2_with (first | ((with_reducible refine gate_callee (f := 31) rfl ?_); refine goesL_ (some 30) rfl rfl Tryd.func31 (by kernel_rfl) rfl #[.int .i64 x9_2] rfl (by (try simp only [List.map_toArray, List.map_cons, List.map_nil]); first | done | rfl | (simp only [List.length_drop, List.length_take]; rfl)) ?_; (with_reducible refine (longcaseref02_Leap.calls x9_2 false _ A7.out).mono ?_); rintro e w' ⟨rfl, ⟨nd, rfl⟩⟩; refine ⟨_, rfl, ?_⟩))
                  go_roundg k2
                  case measure => have := HJ1.out; have := HK2.out; omega
                  case rel => exact ⟨(wrap64 (x9_2 + 1)), (wrap64 (x10_2 - 365)), (by first | rfl | (simp; done) | (simp [*]; done)), (by first | rfl | (simp; done) | (simp [*]; done)), H', ⟨by have := HJ1.out; have := HK2.out; omega⟩, by repeat (first | exact Drawn0.refl _ | apply Drawn0.step)⟩
        case rest =>
          clear HC6
          try clear c1
          try clear p2
          try clear c3
          try clear c3b0
          try clear c4
          try clear p6
          try clear c8
          try clear c9
          try clear c9b0
          try clear c10
          try clear c10b0
          try clear p2
          try clear p6
          obtain ⟨kq, x9_5, x10_5, rfl, rfl, HA, HJ5, ⟨mc5, rfl⟩⟩ := hcut
          cases kq with
          | zero => exact absurd HA.out (by simp [longcaseref02_Date.j2])
          | succ kj5 =>
            have H := HA.out
            clear HA
            simp only [longcaseref02_Date.j2] at H
            have HC11 := Aside0.mk H
            clear H
            go_upto_region 14 with (fail)
            go_cut [51] (fun v51 wc => ∃ (kq : Nat) (x51_10 : Bool), v51 = .bool x51_10 ∧ Aside0 (longcaseref02_Date.j3 kq x10_5 (wrap64 ((wrap64 (t200 * 400)) + x9_5)) x51_10 = some (r1, r2, r3, r4)) ∧ Aside0 (kq ≤ kj5) ∧ Drawn0 w wc)
            case first =>
              have H := HC11.out
              clear HC11
              by_cases c12 : (wrap64 ((wrap64 (t200 * 400)) + x9_5)) < (-2147483648)
              · rw [if_pos c12] at H
                have c12b0 : decide ((wrap64 ((wrap64 (t200 * 400)) + x9_5)) < (-2147483648)) = true := decide_eq_true c12
                clear c12
                (first | rw [c12b0] | (simp only [i64_w, i32_w]; rw [c12b0]) | skip)
                have H' := Aside0.mk H
                clear H
                go_wp2
                go_meet
                case rel => exact ⟨_, (true), (by first | rfl | (simp; done) | (simp [*]; done)), H', ⟨by have := HJ1.out; have := HJ5.out; first | omega | exact Nat.le_refl _⟩, by repeat (first | exact Drawn0.refl _ | apply Drawn0.step)⟩
              · rw [if_neg c12] at H
                have c12b0 : decide ((wrap64 ((wrap64 (t200 * 400)) + x9_5)) < (-2147483648)) = false := decide_eq_false c12
                clear c12
                (first | rw [c12b0] | (simp only [i64_w, i32_w]; rw [c12b0]) | skip)
                have H' := Aside0.mk H
                clear H
                go_wp2
                go_meet
                case rel => exact ⟨_, (decide ((wrap64 ((wrap64 (t200 * 400)) + x9_5)) > 2147483647)), (by first | rfl | (simp; done) | (simp [*]; done)), H', ⟨by have := HJ1.out; have := HJ5.out; first | omega | exact Nat.le_refl _⟩, by repeat (first | exact Drawn0.refl _ | apply Drawn0.step)⟩
            case rest =>
              clear HC11
              try clear c1
              try clear p2
              try clear c3
              try clear c3b0
              try clear c4
              try clear c5
              try clear p6
              try clear c8
              try clear c9
              try clear c9b0
              try clear c10
              try clear c10b0
              try clear c12
              try clear c12b0
              try clear p2
              try clear p6
              obtain ⟨kq, x51_10, rfl, HA, HJ10, ⟨mc10, rfl⟩⟩ := hcut
              cases kq with
              | zero => exact absurd HA.out (by simp [longcaseref02_Date.j3])
              | succ kj10 =>
                have H := HA.out
                clear HA
                simp only [longcaseref02_Date.j3] at H
                by_cases c13 : x51_10 = true
                · subst c13
                  have H1 : (some (0, 0, 0, false)) = some (r1, r2, r3, r4) := by rw [if_pos rfl] at H; exact H
                  clear H
                  have H := H1
                  clear H1
                  simp only [Option.some.injEq, Prod.mk.injEq] at H
                  obtain ⟨rfl, rfl, rfl, rfl⟩ := H
                  go_wp2
                  refine bodyPost_ret (results_list (rs := [.tmp 2, .tmp 3, .tmp 4, .tmp 5]) rfl (by simp) (.tmp (.tmp (.tmp (.tmp .nil))))) rfl ?_
                  exact ⟨by first | rfl | (simp; done) | (simp [*]; done), by repeat (first | exact Drawn0.refl _ | apply Drawn0.step)⟩
                · replace c13 := Bool.eq_false_iff.mpr c13
                  subst c13
                  have H1 : (longcaseref02_Date.l1 kj10 x10_5 (wrap64 ((wrap64 (t200 * 400)) + x9_5)) 1) = some (r1, r2, r3, r4) := by rw [if_neg (show ¬ (false = true) by decide)] at H; exact H
                  clear H
                  have H := H1
                  clear H1
                  have H' := Aside0.mk H
                  clear H
                  go_wp2
                  go_loopg [10, 14] kj10 (fun kq v10 v14 w' => ∃ (x10_4 : Int) (x14_4 : Int), v10 = .int .i64 x10_4 ∧ v14 = .int .i64 x14_4 ∧ Aside0 (longcaseref02_Date.l1 kq x10_4 (wrap64 ((wrap64 (t200 * 400)) + x9_5)) x14_4 = some (r1, r2, r3, r4)) ∧ Aside0 (kq ≤ kj10) ∧ Drawn0 w w')
                  case atStart => exact ⟨(x10_5), (1), (by first | rfl | (simp; done) | (simp [*]; done)), (by first | rfl | (simp; done) | (simp [*]; done)), H', ⟨Nat.le_refl _⟩, by repeat (first | exact Drawn0.refl _ | apply Drawn0.step)⟩
                  case round =>
                    clear H'
                    try clear c1
                    try clear p2
                    try clear c3
                    try clear c3b0
                    try clear c4
                    try clear c5
                    try clear p6
                    try clear c8
                    try clear c9
                    try clear c9b0
                    try clear c10
                    try clear c10b0
                    try clear c12
                    try clear c12b0
                    try clear c13
                    try clear p2
                    try clear p6
                    obtain ⟨x10_4, x14_4, rfl, rfl, HA, HK4, ⟨m4, rfl⟩⟩ := hrel
                    cases gk with
                    | zero => exact absurd HA.out (by simp [longcaseref02_Date.l1])
                    | succ k4 =>
                      have H := HA.out
                      clear HA
                      simp only [longcaseref02_Date.l1] at H
                      replace H := Option.bind_eq_some_iff.mp H
                      obtain ⟨t204, A140, H⟩ := H
                      replace H : (if x10_4 ≥ t204 then ((longcaseref02_Length.f k4 (wrap64 ((wrap64 (t200 * 400)) + x9_5)) x14_4).bind fun t205 => (longcaseref02_Date.l1 k4 (wrap64 (x10_4 - t205)) (wrap64 ((wrap64 (t200 * 400)) + x9_5)) (wrap64 (x14_4 + 1)))) else (some ((wrap64 ((wrap64 (t200 * 400)) + x9_5)), x14_4, wrap64 (x10_4 + 1), true))) = some (r1, r2, r3, r4) := H
                      have A14 := Aside0.mk A140
                      clear A140
                      by_cases c15 : x10_4 ≥ t204
                      · rw [if_pos c15] at H
                        have c15b0 : decide (t204 ≤ x10_4) = true := decide_eq_true c15
                        clear c15
                        replace H := Option.bind_eq_some_iff.mp H
                        obtain ⟨t205, A160, H⟩ := H
                        replace H : (longcaseref02_Date.l1 k4 (wrap64 (x10_4 - t205)) (wrap64 ((wrap64 (t200 * 400)) + x9_5)) (wrap64 (x14_4 + 1))) = some (r1, r2, r3, r4) := H
                        have A16 := Aside0.mk A160
                        clear A160
                        have H' := Aside0.mk H
                        clear H
                        go_wp2_with (first | ((with_reducible refine gate_callee (f := 32) rfl ?_); refine goesL_ (some 55) rfl rfl Tryd.func32 (by kernel_rfl) rfl #[.int .i64 (wrap64 ((wrap64 (t200 * 400)) + x9_5)), .int .i64 x14_4] rfl (by (try simp only [List.map_toArray, List.map_cons, List.map_nil]); first | done | rfl | (simp only [List.length_drop, List.length_take]; rfl)) ?_; (with_reducible refine (longcaseref02_Length.calls k4 (wrap64 ((wrap64 (t200 * 400)) + x9_5)) x14_4 t204 _ A14.out).mono ?_); rintro e w' ⟨rfl, ⟨nd, rfl⟩⟩; refine ⟨_, rfl, ?_⟩) | ((with_reducible refine gate_callee (f := 32) rfl ?_); refine goesL_ (some 60) rfl rfl Tryd.func32 (by kernel_rfl) rfl #[.int .i64 (wrap64 ((wrap64 (t200 * 400)) + x9_5)), .int .i64 x14_4] rfl (by (try simp only [List.map_toArray, List.map_cons, List.map_nil]); first | done | rfl | (simp only [List.length_drop, List.length_take]; rfl)) ?_; (with_reducible refine (longcaseref02_Length.calls k4 (wrap64 ((wrap64 (t200 * 400)) + x9_5)) x14_4 t205 _ A16.out).mono ?_); rintro e w' ⟨rfl, ⟨nd, rfl⟩⟩; refine ⟨_, rfl, ?_⟩))
                        go_roundg k4
                        case measure => have := HJ1.out; have := HJ5.out; have := HJ10.out; have := HK4.out; omega
                        case rel => exact ⟨(wrap64 (x10_4 - t205)), (wrap64 (x14_4 + 1)), (by first | rfl | (simp; done) | (simp [*]; done)), (by first | rfl | (simp; done) | (simp [*]; done)), H', ⟨by have := HJ1.out; have := HJ5.out; have := HJ10.out; have := HK4.out; omega⟩, by repeat (first | exact Drawn0.refl _ | apply Drawn0.step)⟩
                      · rw [if_neg c15] at H
                        have c15b0 : decide (t204 ≤ x10_4) = false := decide_eq_false c15
                        clear c15
                        simp only [Option.some.injEq, Prod.mk.injEq] at H
                        obtain ⟨rfl, rfl, rfl, rfl⟩ := H
                        go_wp2_with (first | ((with_reducible refine gate_callee (f := 32) rfl ?_); refine goesL_ (some 55) rfl rfl Tryd.func32 (by kernel_rfl) rfl #[.int .i64 (wrap64 ((wrap64 (t200 * 400)) + x9_5)), .int .i64 x14_4] rfl (by (try simp only [List.map_toArray, List.map_cons, List.map_nil]); first | done | rfl | (simp only [List.length_drop, List.length_take]; rfl)) ?_; (with_reducible refine (longcaseref02_Length.calls k4 (wrap64 ((wrap64 (t200 * 400)) + x9_5)) x14_4 t204 _ A14.out).mono ?_); rintro e w' ⟨rfl, ⟨nd, rfl⟩⟩; refine ⟨_, rfl, ?_⟩))
                        refine bodyPost_ret (results_list (rs := [.tmp 2, .tmp 3, .tmp 4, .tmp 5]) rfl (by simp) (.tmp (.tmp (.tmp (.tmp .nil))))) rfl ?_
                        exact ⟨by first | rfl | (simp; done) | (simp [*]; done), by repeat (first | exact Drawn0.refl _ | apply Drawn0.step)⟩
end Go.Proofs.YtgbehcahdgamoaaDoor.Fn

namespace Go.Proofs.YtgbehcahdgamoaaDoor.Fn
open Go.RowKit Go.Proofs.YtgbehcahdgamoaaDoorW.PrintWords Go.Proofs.YtgbehcahdgamoaaDoorW.PrintLast Go.Proofs.YtgbehcahdgamoaaDoorW.PrintMore
theorem refDiv_num (a b : Int) : longcaseref01_Div.f a b = number_Div.f a b := by
  unfold longcaseref01_Div.f number_Div.f
  rfl
theorem refLeap_eq (y : Int) : longcaseref02_Leap.f y = some (leapB y) := by
  unfold longcaseref02_Leap.f leapB
  have h1 := tmod_zero y 4 (by omega)
  have h2 := tmod_zero y 100 (by omega)
  have h3 := tmod_zero y 400 (by omega)
  by_cases a : y % 4 = 0
  · rw [if_pos (h1.2 a)]
    by_cases b : y % 100 = 0
    · rw [if_pos (h2.2 b)]
      by_cases c : y % 400 = 0
      · simp [a, b, c, h3.2 c]
      · have : ¬ Int.tmod y 400 = 0 := fun e => c (h3.1 e)
        simp [a, b, c, this]
    · rw [if_neg (fun e => b (h2.1 e))]
      simp [a, b]
  · rw [if_neg (fun e => a (h1.1 e))]
    have c : ¬ y % 400 = 0 := by omega
    have c' : ¬ Int.tmod y 400 = 0 := fun e => c (h3.1 e)
    simp [a, c']
theorem refLength_eq (k : Nat) (y m : Int) : longcaseref02_Length.f (k + 1) y m = some (lenN y m) := by
  unfold longcaseref02_Length.f
  by_cases h1 : m < 1
  · rw [if_pos h1, longcaseref02_Length.j0, if_pos rfl]; unfold lenN; rw [if_pos h1]
  · rw [if_neg h1, longcaseref02_Length.j0]
    by_cases h2 : m > 12
    · rw [if_pos (by simpa using h2)]; unfold lenN; rw [if_neg h1, if_pos (by omega)]
    · rw [if_neg (by simpa using h2), refLeap_eq]
      have L := lenN_of y
      simp only [Option.bind_some]
      obtain ⟨l1, l2, l3, l4, l5, l6, l7, l8, l9, l10, l11, l12⟩ := L
      rcases month12 (show 1 ≤ m ∧ m ≤ 12 by omega) with rfl | rfl | rfl | rfl | rfl | rfl | rfl | rfl | rfl | rfl | rfl | rfl
      · rw [l1]; rfl
      · rw [l2]; cases leapB y <;> rfl
      · rw [l3]; rfl
      · rw [l4]; rfl
      · rw [l5]; rfl
      · rw [l6]; rfl
      · rw [l7]; rfl
      · rw [l8]; rfl
      · rw [l9]; rfl
      · rw [l10]; rfl
      · rw [l11]; rfl
      · rw [l12]; rfl
theorem refWeekday_eq (n : Int) (h : IsI64 n) : longcaseref02_Weekday.f n = some (weekN n) := by
  unfold longcaseref02_Weekday.f
  rw [refDiv_num, div_eq n 7 (by omega) (by omega) h]
  simp only [Option.bind_some]
  have : IsI64 (n % 7 + 4) := ⟨by omega, by omega⟩
  rw [w64 this, Int.tmod_eq_emod_of_nonneg (by omega)]
  rfl
theorem refYearday_loop (y m d : Int) (hm : m ≤ 12) (hd : -1000 ≤ d ∧ d ≤ 1000) (k : Nat) : ∀ (n : Nat) (i : Int), 1 ≤ i → i + n = m →
    longcaseref02_Yearday.l0 (k + n + 2) y m (d - 1 + (daysN y i 1 - daysN y 1 1)) i = some (daysN y m d - daysN y 1 1)
  | 0, i, _, h => by
    have e : i = m := by omega
    subst e
    rw [longcaseref02_Yearday.l0, if_neg (by omega), daysN_day y i d]
    congr 1; omega
  | n + 1, i, h1, h => by
    rw [show k + (n + 1) + 2 = (k + n + 2) + 1 by omega, longcaseref02_Yearday.l0, if_pos (by omega), refLength_eq (k + n + 1)]
    simp only [Option.bind_some]
    have h2 := month_len y i ⟨h1, by omega⟩
    have h3 := in_year (y := y) (m := i) (d := 1) ⟨h1, by omega⟩ (by omega) (by have := lenN_of y; rcases month12 (show 1 ≤ i ∧ i ≤ 12 by omega) with rfl | rfl | rfl | rfl | rfl | rfl | rfl | rfl | rfl | rfl | rfl | rfl <;> (try split at this) <;> omega)
    have h4 := in_year (y := y) (m := i + 1) (d := 1) ⟨by omega, by omega⟩ (by omega) (by have := lenN_of y; rcases month12 (show 1 ≤ i + 1 ∧ i + 1 ≤ 12 by omega) with e | e | e | e | e | e | e | e | e | e | e | e <;> rw [e] <;> (try split at this) <;> omega)
    have h5 := year_len y
    have h6 : (if leapB y = true then (1 : Int) else 0) ≤ 1 := by split <;> omega
    rw [w64 ⟨by omega, by omega⟩, w64 ⟨by omega, by omega⟩, show d - 1 + (daysN y i 1 - daysN y 1 1) + lenN y i = d - 1 + (daysN y (i + 1) 1 - daysN y 1 1) by omega]
    exact refYearday_loop y m d hm hd k n (i + 1) (by omega) (by omega)
theorem refYearday_eq (k : Nat) (y m d : Int) (hm : 1 ≤ m ∧ m ≤ 12) (hd : -1000 ≤ d ∧ d ≤ 1000) : longcaseref02_Yearday.f (k + 13) y m d = some (daysN y m d - daysN y 1 1) := by
  unfold longcaseref02_Yearday.f
  have h := refYearday_loop y m d hm.2 hd (k + 12 - m.toNat) (m - 1).toNat 1 (by omega) (by omega)
  rw [show k + 12 - m.toNat + (m - 1).toNat + 2 = k + 13 by omega] at h
  rw [w64 ⟨by omega, by omega⟩, ← h]
  congr 1; omega
theorem daysN_400 (y q m d : Int) : daysN (y + 400 * q) m d = daysN y m d + 146097 * q := by
  unfold daysN
  have e : yM (y + 400 * q) m = yM y m + 400 * q := by unfold yM; split <;> omega
  rw [e]
  omega
theorem refDays_loop (y m d q r : Int) (hm : 1 ≤ m ∧ m ≤ 12) (hd : -1000 ≤ d ∧ d ≤ 1000) (hq : -30000000 ≤ q ∧ q ≤ 30000000) (hr : r ≤ 400) (hy : y = q * 400 + r) (k : Nat) : ∀ (n : Nat) (i : Int), 0 ≤ i → i + n = r →
    longcaseref02_Days.l0 (k + n + 14) y m d r (q * 146097 + daysN i 1 1) i = some (daysN y m d)
  | 0, i, _, h => by
    have e : i = r := by omega
    subst e
    rw [longcaseref02_Days.l0, if_neg (by omega), show k + 0 + 13 = k + 13 by omega, refYearday_eq k y m d hm hd]
    simp only [Option.bind_some]
    have h1 := daysN_400 i q 1 1
    have h2 := daysN_400 i q m d
    rw [show i + 400 * q = y by omega] at h1 h2
    rw [show q * 146097 + daysN i 1 1 + (daysN y m d - daysN y 1 1) = daysN y m d by omega]
    rw [w64]
    unfold IsI64 daysN yM mM
    split <;> omega
  | n + 1, i, h1, h => by
    rw [show k + (n + 1) + 14 = (k + n + 14) + 1 by omega, longcaseref02_Days.l0, if_pos (by omega), refLeap_eq]
    simp only [Option.bind_some]
    have h2 := year_len i
    have h3 : -1000000 ≤ daysN i 1 1 ∧ daysN i 1 1 ≤ 1000000 := by unfold daysN yM mM; simp; omega
    have ih := refDays_loop y m d q r hm hd hq hr hy k n (i + 1) (by omega) (by omega)
    rw [h2] at ih
    rw [w64 (a := i + 1) ⟨by omega, by omega⟩]
    cases hl : leapB i
    · rw [hl] at ih
      simp only [Bool.false_eq_true, if_false] at ih ⊢
      rw [w64 ⟨by omega, by omega⟩, ← ih]
      congr 1; omega
    · rw [hl] at ih
      simp only [if_true] at ih ⊢
      rw [w64 (a := q * 146097 + daysN i 1 1 + 365) ⟨by omega, by omega⟩, w64 ⟨by omega, by omega⟩, ← ih]
      congr 1; omega
theorem refDays_eq (K : Nat) (hK : 420 ≤ K) (y m d : Int) (hy : -9000000000 ≤ y ∧ y ≤ 9000000000) (hm : 1 ≤ m ∧ m ≤ 12) (hd : -1000 ≤ d ∧ d ≤ 1000) : longcaseref02_Days.f K y m d = some (daysN y m d) := by
  have e : daysN 0 1 1 = -719528 := by decide +kernel
  have hr : 0 ≤ y % 400 ∧ y % 400 < 400 := by omega
  have hy2 : y = y / 400 * 400 + y % 400 := by omega
  have hq : -30000000 ≤ y / 400 ∧ y / 400 ≤ 30000000 := by omega
  have hd2 := div_eq y 400 (by omega) (by omega) ⟨by omega, by omega⟩
  generalize y / 400 = q at *
  generalize y % 400 = r at *
  obtain ⟨k, rfl⟩ : ∃ k, K = k + r.toNat + 14 := ⟨K - 14 - r.toNat, by omega⟩
  have h := refDays_loop y m d q r hm hd hq (by omega) hy2 k r.toNat 0 (by omega) (by omega)
  rw [e] at h
  unfold longcaseref02_Days.f
  rw [refDiv_num, hd2]
  simp only [Option.bind_some]
  rw [w64 (a := q * 146097) ⟨by omega, by omega⟩, show q * 146097 - 719528 = q * 146097 + -719528 by omega, w64 ⟨by omega, by omega⟩]
  exact h
end Go.Proofs.YtgbehcahdgamoaaDoor.Fn

namespace Go.Proofs.YtgbehcahdgamoaaDoor.Fn
open Go.RowKit Go.Proofs.YtgbehcahdgamoaaDoorW.PrintWords Go.Proofs.YtgbehcahdgamoaaDoorW.PrintLast Go.Proofs.YtgbehcahdgamoaaDoorW.PrintMore
theorem refDate_month (n : Int) (hn : -800000000000 ≤ n ∧ n ≤ 800000000000) (k : Nat) : ∀ (c : Nat) (i : Int), 1 ≤ i → i + c = dM n →
    longcaseref02_Date.l1 (k + c + 2) (n - daysN (dY n) i 1) (dY n) i = some (dY n, dM n, dD n, true)
  | 0, i, h1, h => by
    obtain ⟨⟨a1, a2, a3, a4⟩, a5⟩ := date_all n
    have e : i = dM n := by omega
    subst e
    rw [daysN_day] at a5
    rw [show k + 0 + 2 = (k + 1) + 1 by omega, longcaseref02_Date.l1, refLength_eq]
    simp only [Option.bind_some]
    have hL : lenN (dY n) (dM n) ≤ 31 := by
      have := lenN_of (dY n)
      rcases month12 ⟨a1, a2⟩ with e | e | e | e | e | e | e | e | e | e | e | e <;> rw [e] <;> (try split at this) <;> omega
    rw [if_neg (by omega), w64 ⟨by omega, by omega⟩, show n - daysN (dY n) (dM n) 1 + 1 = dD n by omega]
  | c + 1, i, h1, h => by
    obtain ⟨⟨a1, a2, a3, a4⟩, a5⟩ := date_all n
    rw [daysN_day] at a5
    have h2 := month_len (dY n) i ⟨h1, by omega⟩
    have h3 := month_le (dY n) c (i + 1) (by omega) (by omega)
    rw [show i + 1 + (c : Int) = dM n by omega] at h3
    have h4 := month_le (dY n) (i - 1).toNat 1 (by omega) (by omega)
    rw [show 1 + ((i - 1).toNat : Int) = i by omega] at h4
    have h5 := date_year n
    have h6 := year_len (dY n)
    have h7 : (if leapB (dY n) = true then (1 : Int) else 0) ≤ 1 := by split <;> omega
    have h8 : daysN (dY n) i 1 + 28 ≤ daysN (dY n) (i + 1) 1 := by simpa using month_le (dY n) 1 i h1 (by omega)
    have ih := refDate_month n hn k c (i + 1) (by omega) (by omega)
    rw [show k + (c + 1) + 2 = (k + c + 1 + 1) + 1 by omega, longcaseref02_Date.l1, refLength_eq]
    simp only [Option.bind_some]
    rw [if_pos (by omega), w64 (a := i + 1) ⟨by omega, by omega⟩, w64 ⟨by omega, by omega⟩, show n - daysN (dY n) i 1 - lenN (dY n) i = n - daysN (dY n) (i + 1) 1 by omega]
    exact ih
theorem refDate_j2 (n q j : Int) (hn : -800000000000 ≤ n ∧ n ≤ 800000000000) (hj : dY n = 400 * q + j) (hq : -30000000 ≤ q ∧ q ≤ 30000000) (hj2 : 0 ≤ j ∧ j ≤ 400) (k : Nat) :
    longcaseref02_Date.j2 (k + 20) q j (n - daysN (dY n) 1 1) = some (if mayB (dY n) = true then (dY n, dM n, dD n, true) else (0, 0, 0, false)) := by
  obtain ⟨⟨a1, a2, a3, a4⟩, a5⟩ := date_all n
  rw [longcaseref02_Date.j2, w64 (a := q * 400) ⟨by omega, by omega⟩, w64 ⟨by omega, by omega⟩, show q * 400 + j = dY n by omega]
  unfold mayB
  by_cases h1 : dY n < -2147483648
  · rw [if_pos h1, longcaseref02_Date.j3, if_pos rfl, if_neg (by simp; omega)]
  · rw [if_neg h1, longcaseref02_Date.j3]
    by_cases h2 : dY n > 2147483647
    · rw [if_pos (by simpa using h2), if_neg (by simp; omega)]
    · rw [if_neg (by simpa using h2), if_pos (by simp; omega)]
      have h := refDate_month n hn (k + 16 - (dM n - 1).toNat) (dM n - 1).toNat 1 (by omega) (by omega)
      rw [show k + 16 - (dM n - 1).toNat + (dM n - 1).toNat + 2 = k + 18 by omega] at h
      exact h
theorem refDate_year (n q j : Int) (hn : -800000000000 ≤ n ∧ n ≤ 800000000000) (hj : dY n = 400 * q + j) (hq : -30000000 ≤ q ∧ q ≤ 30000000) (hj2 : 0 ≤ j ∧ j ≤ 400) (k : Nat) : ∀ (c : Nat) (i : Int), 0 ≤ i → i + c = j →
    longcaseref02_Date.l0 (k + c + 21) q i (n - daysN (400 * q + i) 1 1) = some (if mayB (dY n) = true then (dY n, dM n, dD n, true) else (0, 0, 0, false))
  | 0, i, h1, h => by
    have e : i = j := by omega
    subst e
    have h5 := date_year n
    have h6 := year_len (dY n)
    have hJ := refDate_j2 n q i hn hj hq hj2 k
    rw [show k + 0 + 21 = (k + 20) + 1 by omega, longcaseref02_Date.l0, refLeap_eq, ← hj]
    have hl : leapB (dY n) = leapB i := by rw [hj, Int.add_comm, leap_400]
    rw [hl] at h6
    simp only [Option.bind_some]
    cases hb : leapB i
    · rw [hb] at h6
      simp only [Bool.false_eq_true, if_false] at h6 ⊢
      rw [if_pos (by omega)]
      exact hJ
    · rw [hb] at h6
      simp only [if_true] at h6 ⊢
      rw [if_pos (by omega)]
      exact hJ
  | c + 1, i, h1, h => by
    have h5 := date_year n
    have h6 := year_len (400 * q + i)
    have h7 := year_le (400 * q + i + 1) c
    have h8 := year_le (400 * q + i) (c + 1)
    have h9 := year_len (dY n)
    have h10 : (if leapB (dY n) = true then (1 : Int) else 0) ≤ 1 := by split <;> omega
    rw [show 400 * q + i + 1 + (c : Int) = dY n by omega] at h7
    have ih := refDate_year n q j hn hj hq hj2 k c (i + 1) (by omega) (by omega)
    rw [show 400 * q + (i + 1) = 400 * q + i + 1 by omega] at ih
    rw [show k + (c + 1) + 21 = (k + c + 21) + 1 by omega, longcaseref02_Date.l0, refLeap_eq]
    have hl : leapB (400 * q + i) = leapB i := by rw [Int.add_comm, leap_400]
    rw [hl] at h6
    have hup : -50000000000000 ≤ daysN (400 * q + i) 1 1 := by unfold daysN yM mM; simp; omega
    simp only [Option.bind_some]
    cases hb : leapB i
    · rw [hb] at h6
      simp only [Bool.false_eq_true, if_false] at h6 ⊢
      rw [if_neg (by omega), w64 (a := i + 1) ⟨by omega, by omega⟩, w64 ⟨by omega, by omega⟩, show n - daysN (400 * q + i) 1 1 - 365 = n - daysN (400 * q + i + 1) 1 1 by omega]
      exact ih
    · rw [hb] at h6
      simp only [if_true] at h6 ⊢
      rw [if_neg (by omega), w64 (a := i + 1) ⟨by omega, by omega⟩, w64 ⟨by omega, by omega⟩, show n - daysN (400 * q + i) 1 1 - 366 = n - daysN (400 * q + i + 1) 1 1 by omega]
      exact ih
theorem refDate_eq (K : Nat) (hK : 430 ≤ K) (n : Int) : longcaseref02_Date.f K n = some (if mayB (dY n) = true then (dY n, dM n, dD n, true) else (0, 0, 0, false)) := by
  obtain ⟨K, rfl⟩ : ∃ k, K = k + 1 := ⟨K - 1, by omega⟩
  have hm := may_iff n
  unfold longcaseref02_Date.f
  by_cases h1 : n < -800000000000
  · rw [if_pos h1, longcaseref02_Date.j0, if_pos rfl, if_neg (by rw [hm]; omega)]
  · rw [if_neg h1, longcaseref02_Date.j0]
    by_cases h2 : n > 800000000000
    · rw [if_pos (by simpa using h2), if_neg (by rw [hm]; omega)]
    · have hn : -800000000000 ≤ n ∧ n ≤ 800000000000 := by omega
      rw [if_neg (by simpa using h2), w64 ⟨by omega, by omega⟩, refDiv_num, div_eq (n + 719528) 146097 (by omega) (by omega) ⟨by omega, by omega⟩]
      simp only [Option.bind_some]
      have e0 : daysN 0 1 1 = -719528 := by decide +kernel
      have e4 : daysN 400 1 1 = -573431 := by decide +kernel
      have hr : 0 ≤ (n + 719528) % 146097 ∧ (n + 719528) % 146097 < 146097 := by omega
      have hq : -30000000 ≤ (n + 719528) / 146097 ∧ (n + 719528) / 146097 ≤ 30000000 := by omega
      have hnr : n = (n + 719528) / 146097 * 146097 + (n + 719528) % 146097 - 719528 := by omega
      generalize (n + 719528) / 146097 = q at *
      generalize (n + 719528) % 146097 = r at *
      have g1 := daysN_400 0 q 1 1
      have g2 := daysN_400 400 q 1 1
      have y1 := (year_ge_iff (0 + 400 * q) n).2 (by omega)
      have y2 : ¬ 400 + 400 * q ≤ dY n := fun h => by
        have := (year_ge_iff (400 + 400 * q) n).1 h
        omega
      obtain ⟨k, hk⟩ : ∃ k, K = k + (dY n - 400 * q).toNat + 21 := ⟨K - 21 - (dY n - 400 * q).toNat, by omega⟩
      have h := refDate_year n q (dY n - 400 * q) hn (by omega) hq (by omega) k (dY n - 400 * q).toNat 0 (by omega) (by omega)
      rw [← hk, show 400 * q + 0 = 0 + 400 * q by omega, show n - daysN (0 + 400 * q) 1 1 = r by omega] at h
      exact h
end Go.Proofs.YtgbehcahdgamoaaDoor.Fn

namespace Go.Proofs
open Go.Shelf
def Tryd.laysGw17_ren : Go.Shelf.Ren := ⟨fun | 17 => 57 | 15 => 60 | 20 => 63 | n => n, fun | 9 => 9 | 23 => 77 | 4 => 4 | 3 => 3 | 0 => 0 | 21 => 21 | n => n, fun | n => n⟩
theorem Tryd.laysGw17 : Go.Proofs.LaysGw.n17 Tryd.prog Tryd.laysGw17_ren := {
  mixed := by kernel_rfl
  f15 := Tryd.func60.trans (congrArg some (by kernel_rfl))
  f17 := Tryd.func57.trans (congrArg some (by kernel_rfl))
  f20 := Tryd.func63.trans (congrArg some (by kernel_rfl))
  t0 := Tryd.underlying0
  a0 := Tryd.isAgg0
  z0 := Tryd.sizeOf0
  v0 := Tryd.zeroValue0
  i0 := by kernel_rfl
  t3 := Tryd.underlying3
  a3 := Tryd.isAgg3
  z3 := Tryd.sizeOf3
  v3 := Tryd.zeroValue3
  i3 := by kernel_rfl
  t4 := Tryd.underlying4
  a4 := Tryd.isAgg4
  z4 := Tryd.sizeOf4
  v4 := Tryd.zeroValue4
  i4 := by kernel_rfl
  t9 := Tryd.underlying9
  a9 := Tryd.isAgg9
  z9 := Tryd.sizeOf9
  v9 := Tryd.zeroValue9
  i9 := by kernel_rfl
  t21 := Tryd.underlying21
  a21 := Tryd.isAgg21
  z21 := Tryd.sizeOf21
  v21 := Tryd.zeroValue21
  i21 := by kernel_rfl
  t23 := Tryd.underlying77
  a23 := Tryd.isAgg77
  z23 := Tryd.sizeOf77
  v23 := Tryd.zeroValue77
  i23 := by kernel_rfl }
open Go.RowKit Go.Lib in
theorem Tryd.strings_ContainsFunc_grows (g : Nat) (lb : Array Value) (eg : ∀ args w, (callFunc g args).run Tryd.prog w = .ok (.enter g args) w) (p : Nat → Bool) (s : ByteArray) (w : World) (hp : PredGrows Tryd.prog g lb p w) :
    Calls Tryd.prog 57 #[.string s, .func (.func g) #[] lb] w fun e w' => e = .returned (.bool (decide (0 ≤ Lib.idxFunc p true s))) ∧ Below w.heap.size w w' := Any.strings_ContainsFunc_grows Tryd.laysGw17 g lb eg p s w hp
end Go.Proofs

namespace Go.Proofs.YtgbehcahdgamoaaDoor.Fn
open Go.RowKit Go.Proofs.YtgbehcahdgamoaaDoorW.PrintWords Go.Proofs.YtgbehcahdgamoaaDoorW.PrintLast Go.Lib
theorem dec_pos (s : ByteArray) (pos : Nat) (h : pos < s.size) : 1 ≤ (Utf8.decode s pos).2 := by
  by_cases ha : (s[pos]'h).toNat < 128
  · rw [decode_ascii s pos h ha]
    exact Nat.le_refl _
  · exact (decode_high s pos h (by omega)).2
def hasRuneB (s : ByteArray) (c : Int) : Bool := decide (0 ≤ idxFunc (fun r => decide ((r : Int) = c)) true s)
theorem idx_hit (p : Nat → Bool) (s : ByteArray) (f pos : Nat) (h : pos < s.size) (hp : p (Utf8.decode s pos).1 = true) : 0 ≤ idxFuncFrom p true s (f + 1) pos := by
  unfold idxFuncFrom
  rw [if_pos h, if_pos hp]
  omega
theorem idx_miss (p : Nat → Bool) (s : ByteArray) (f pos : Nat) (h : pos < s.size) (hp : p (Utf8.decode s pos).1 = false) : idxFuncFrom p true s (f + 1) pos = idxFuncFrom p true s f (pos + (Utf8.decode s pos).2) := by
  conv => lhs; unfold idxFuncFrom
  rw [if_pos h, if_neg (by rw [hp]; decide)]
set_option maxRecDepth 1000000 in
theorem hasRune_calls (s : ByteArray) (c : Int) (w : World) :
    Calls Tryd.prog 56 #[.string s, .int .i32 c] w fun e w' => e = .returned (.bool (hasRuneB s c)) ∧ Below w.heap.size w w' := by
  go_enter Tryd.func56, Tryd.ntmps56
  go_wp2
  go_loopw [4] (fun _ w' => ∃ (pos b : Nat), w' = w.iter s pos ∧ Aside0 (decide (0 ≤ idxFuncFrom (fun r => decide ((r : Int) = c)) true s b pos) = hasRuneB s c) ∧ s.size ≤ pos + b) (fun _ w' => s.size - w'.iterPos w.heap.size)
  case atStart => exact ⟨0, s.size, rfl, ⟨rfl⟩, by omega⟩
  case round =>
    obtain ⟨pos, b, rfl, hc, hb⟩ := hrel
    by_cases hp : pos < s.size
    · have hnx : ∀ ty, (Instr.next (.pointer (some ⟨w.heap.size, 0, none⟩)) true ty).run Tryd.prog (w.iter s pos) = _ := fun ty => run_next_any w s pos ty hp
      obtain ⟨b, rfl⟩ : ∃ b', b = b' + 1 := ⟨b - 1, by omega⟩
      have hdp := dec_pos s pos hp
      by_cases hq : ((Utf8.decode s pos).1 : Int) = c
      · have hq1 : (((Utf8.decode s pos).1 : Int) == c) = true := by simpa using hq
        have hpos := idx_hit (fun r => decide ((r : Int) = c)) s b pos hp (by simpa using hq)
        have HR : Aside0 (hasRuneB s c = true) := ⟨by rw [← hc.out]; simpa using hpos⟩
        clear hc hq hpos hdp
        go_wp2
        go_ret
        exact ⟨congrArg (fun b => Ending.returned (.bool b)) HR.out.symm, below_alloc (Below.refl _ _) _⟩
      · have hq1 : (((Utf8.decode s pos).1 : Int) == c) = false := by simpa using hq
        have HS : Aside0 (decide (0 ≤ idxFuncFrom (fun r => decide ((r : Int) = c)) true s b (pos + (Utf8.decode s pos).2)) = hasRuneB s c) := ⟨by rw [← hc.out, idx_miss _ _ _ _ hp (by simpa using hq)]⟩
        clear hc hq
        go_wp2
        go_roundw
        case rel => exact ⟨_, b, rfl, HS, by omega⟩
        case measure =>
          simp
          omega
    · have hnx : ∀ ty, (Instr.next (.pointer (some ⟨w.heap.size, 0, none⟩)) true ty).run Tryd.prog (w.iter s pos) = _ := fun ty => run_next_end w s pos ty hp
      go_wp2
      go_ret
      have h1 := hc.out
      rw [idxFuncFrom_end _ _ _ _ _ hp] at h1
      exact ⟨by rw [← h1]; rfl, below_alloc (Below.refl _ _) _⟩
theorem idx_ascii (p : Nat → Bool) (s : ByteArray) (hs : ∀ i (h : i < s.size), (s[i]'h).toNat < 128) : ∀ (f pos : Nat), s.size ≤ pos + f →
    (0 ≤ idxFuncFrom p true s f pos ↔ ∃ i, ∃ h : i < s.size, pos ≤ i ∧ p (s[i]'h).toNat = true)
  | 0, pos, hf => by
    refine ⟨fun h => absurd h (by simp [idxFuncFrom]), fun ⟨i, h, h1, _⟩ => by omega⟩
  | f + 1, pos, hf => by
    by_cases hp : pos < s.size
    · have hd := decode_ascii s pos hp (hs pos hp)
      by_cases hq : p (s[pos]'hp).toNat = true
      · exact ⟨fun _ => ⟨pos, hp, Nat.le_refl _, hq⟩, fun _ => idx_hit p s f pos hp (by rw [hd]; exact hq)⟩
      · rw [idx_miss p s f pos hp (by rw [hd]; simpa using hq), hd, idx_ascii p s hs f (pos + 1) (by omega)]
        constructor
        · rintro ⟨i, h, h1, h2⟩; exact ⟨i, h, by omega, h2⟩
        · rintro ⟨i, h, h1, h2⟩
          by_cases e : i = pos
          · subst e; exact absurd h2 hq
          · exact ⟨i, h, by omega, h2⟩
    · rw [idxFuncFrom_end _ _ _ _ _ hp]
      exact ⟨fun h => by omega, fun ⟨i, h, h1, _⟩ => by omega⟩
theorem idx_any (p : Nat → Bool) (hp' : ∀ r, 128 ≤ r → p r = true) (s : ByteArray) : ∀ (f pos : Nat), s.size ≤ pos + f →
    (0 ≤ idxFuncFrom p true s f pos ↔ ∃ i, ∃ h : i < s.size, pos ≤ i ∧ p (s[i]'h).toNat = true)
  | 0, pos, hf => by
    refine ⟨fun h => absurd h (by simp [idxFuncFrom]), fun ⟨i, h, h1, _⟩ => by omega⟩
  | f + 1, pos, hf => by
    by_cases hp : pos < s.size
    · by_cases ha : (s[pos]'hp).toNat < 128
      · have hd := decode_ascii s pos hp ha
        by_cases hq : p (s[pos]'hp).toNat = true
        · exact ⟨fun _ => ⟨pos, hp, Nat.le_refl _, hq⟩, fun _ => idx_hit p s f pos hp (by rw [hd]; exact hq)⟩
        · rw [idx_miss p s f pos hp (by rw [hd]; simpa using hq), hd, idx_any p hp' s f (pos + 1) (by omega)]
          constructor
          · rintro ⟨i, h, h1, h2⟩; exact ⟨i, h, by omega, h2⟩
          · rintro ⟨i, h, h1, h2⟩
            by_cases e : i = pos
            · subst e; exact absurd h2 hq
            · exact ⟨i, h, by omega, h2⟩
      · exact ⟨fun _ => ⟨pos, hp, Nat.le_refl _, hp' _ (by omega)⟩, fun _ => idx_hit p s f pos hp (hp' _ (decode_high s pos hp (by omega)).1)⟩
    · rw [idxFuncFrom_end _ _ _ _ _ hp]
      exact ⟨fun h => by omega, fun ⟨i, h, h1, _⟩ => by omega⟩
def setS : ByteArray := ⟨#[97, 98, 99, 100, 101, 102, 103, 104, 105, 106, 107, 108, 109, 110, 111, 112, 113, 114, 115, 116, 117, 118, 119, 120, 121, 122, 65, 66, 67, 68, 69, 70, 71, 72, 73, 74, 75, 76, 77, 78, 79, 80, 81, 82, 83, 84, 85, 86, 87, 88, 89, 90, 48, 49, 50, 51, 52, 53, 54, 55, 56, 57, 43, 45]⟩
def inSet (r : Nat) : Bool := (decide (97 ≤ r) && decide (r ≤ 122)) || (decide (65 ≤ r) && decide (r ≤ 90)) || (decide (48 ≤ r) && decide (r ≤ 57)) || r == 43 || r == 45
theorem hasRune_set (r : Nat) : hasRuneB setS (r : Int) = inSet r := by
  by_cases hr : r < 128
  · have h : ∀ r : Fin 128, hasRuneB setS ((r.val : Nat) : Int) = inSet r.val := by decide +kernel
    exact h ⟨r, hr⟩
  · have hs : ∀ i (h : i < setS.size), (setS[i]'h).toNat < 128 := by decide +kernel
    have h1 : hasRuneB setS (r : Int) = false := by
      unfold hasRuneB idxFunc
      rw [decide_eq_false_iff_not, idx_ascii _ setS hs _ _ (by omega)]
      rintro ⟨i, h, _, h2⟩
      have := hs i h
      simp at h2
      omega
    rw [h1]
    simp [inSet]
    omega
def namedB (s : ByteArray) : Bool := decide (3 ≤ s.size) && decide (s.size ≤ 20) && s.data.toList.all fun c => inSet c.toNat
def posix_named.f (s : ByteArray) : Option Bool := some (namedB s)
theorem strange_pays (w : World) : PredGrows Tryd.prog 55 #[] (fun r => !inSet r) w := fun W x _ _ => by
  have hset := hasRune_set x
  have HS : Aside0 (hasRuneB setS (x : Int) = inSet x) := ⟨hset⟩
  clear hset
  have hcall := fun W => hasRune_calls setS (x : Int) W
  unfold setS at hcall
  go_enter Tryd.func55, Tryd.ntmps55
  go_wp2_with (go_at_call 56; refine (hcall _).mono ?_; rintro e w' ⟨rfl, hb⟩)
  go_ret
  refine ⟨?_, by assumption⟩
  have := HS.out
  unfold setS at this
  rw [← this]
  rfl
theorem strange_in (s : ByteArray) : decide (0 ≤ idxFunc (fun r => !inSet r) true s) = !(s.data.toList.all fun c => inSet c.toNat) := by
  have h := idx_any (fun r => !inSet r) (fun r h => by simp [inSet]; omega) s s.size 0 (by omega)
  rw [Bool.eq_iff_iff, decide_eq_true_iff]
  unfold idxFunc
  rw [h]
  simp only [Bool.not_eq_true', List.all_eq_false, Array.mem_toList_iff, Array.mem_iff_getElem]
  constructor
  · rintro ⟨i, h, _, h2⟩; exact ⟨_, ⟨i, h, rfl⟩, by rw [show s.data[i] = s[i] from rfl, h2]; decide⟩
  · rintro ⟨_, ⟨i, h, rfl⟩, h2⟩; exact ⟨i, h, Nat.zero_le _, by rw [show s[i] = s.data[i] from rfl]; simpa using h2⟩
theorem posix_named.calls (a0 : ByteArray) (r : Bool) (w : World) (h : posix_named.f a0 = some r) :
    Calls Tryd.prog 45 #[.string a0] w fun e w' => e = .returned (.bool r) ∧ Below w.heap.size w w' := by
  obtain rfl := Option.some.inj h
  clear h
  have hC := fun W => Tryd.strings_ContainsFunc_grows 55 #[] (enters_of Tryd.func55 (by kernel_rfl) rfl) (fun r => !inSet r) a0 W (strange_pays W)
  rw [strange_in] at hC
  by_cases h1 : 3 ≤ a0.size
  · by_cases h2 : a0.size ≤ 20
    · have hr : namedB a0 = a0.data.toList.all fun c => inSet c.toNat := by simp [namedB, h1, h2]
      rw [hr]
      clear hr
      generalize (a0.data.toList.all fun c => inSet c.toNat) = b at hC ⊢
      have d1 : (3 : Int) ≤ (a0.size : Int) := by omega
      have d2 : (a0.size : Int) ≤ 20 := by omega
      clear h1 h2
      go_enter Tryd.func45, Tryd.ntmps45
      go_wp2_with (go_at_call 57; refine (hC _).mono ?_; rintro e w' ⟨rfl, hb⟩)
      go_ret
      exact ⟨by simp, by assumption⟩
    · have hr : namedB a0 = false := by simp [namedB, h2]
      rw [hr]
      have d1 : (3 : Int) ≤ (a0.size : Int) := by omega
      have d2 : 20 < (a0.size : Int) := by omega
      clear h1 h2 hr hC
      go_enter Tryd.func45, Tryd.ntmps45
      go_wp2
      go_ret
      exact ⟨rfl, Below.refl _ _⟩
  · have hr : namedB a0 = false := by simp [namedB, h1]
    rw [hr]
    have d1 : (a0.size : Int) < 3 := by omega
    clear h1 hr hC
    go_enter Tryd.func45, Tryd.ntmps45
    go_wp2
    go_ret
    exact ⟨rfl, Below.refl _ _⟩
end Go.Proofs.YtgbehcahdgamoaaDoor.Fn

namespace Go.Proofs.YtgbehcahdgamoaaDoor.Fn
open Go.RowKit Go.Proofs.YtgbehcahdgamoaaDoorW.PrintWords Go.Proofs.YtgbehcahdgamoaaDoorW.PrintLast Go.Proofs.YtgbehcahdgamoaaDoorW.PrintMore
set_option linter.unusedVariables false
set_option linter.unusedSimpArgs false
theorem eqA23 (d : Nat) (w : World) (x0 y0 : Int) (x1 y1 : Bool) (x2 y2 : ByteArray) :
    (Op.equalIn (d + 2) 23 (.agg #[.int .i64 x0, .bool x1, .string x2]) (.agg #[.int .i64 y0, .bool y1, .string y2])).run Tryd.prog w = .ok (x0 == y0 && (x1 == y1 && (x2.toList == y2.toList))) w := by
  refine eqA_of Tryd.underlying23 (by kernel_rfl) ?_
  refine eqf_cons (by rfl) (by go_simp; rfl) (by go_simp; rfl) (by go_simp) ?_
  refine eqf_cons (by rfl) (by go_simp; rfl) (by go_simp; rfl) (by go_simp) ?_
  exact eqf_last (by rfl) (by go_simp; rfl) (by go_simp; rfl) (by go_simp)
end Go.Proofs.YtgbehcahdgamoaaDoor.Fn

namespace Go.Proofs.YtgbehcahdgamoaaDoor.Fn
open Go.RowKit Go.Proofs.YtgbehcahdgamoaaDoorW.PrintWords Go.Proofs.YtgbehcahdgamoaaDoorW.PrintLast Go.Proofs.YtgbehcahdgamoaaDoorW.PrintMore
set_option linter.unusedVariables false
set_option linter.unusedSimpArgs false
theorem eqA25 (d : Nat) (w : World) (x0 y0 : Int) (x1 y1 : Int) (x2 y2 : Int) (x3 y3 : Int) (x4 y4 : Int) :
    (Op.equalIn (d + 2) 25 (.agg #[.int .i64 x0, .int .i64 x1, .int .i64 x2, .int .i64 x3, .int .i64 x4]) (.agg #[.int .i64 y0, .int .i64 y1, .int .i64 y2, .int .i64 y3, .int .i64 y4])).run Tryd.prog w = .ok (x0 == y0 && (x1 == y1 && (x2 == y2 && (x3 == y3 && (x4 == y4))))) w := by
  refine eqA_of Tryd.underlying25 (by kernel_rfl) ?_
  refine eqf_cons (by rfl) (by go_simp; rfl) (by go_simp; rfl) (by go_simp) ?_
  refine eqf_cons (by rfl) (by go_simp; rfl) (by go_simp; rfl) (by go_simp) ?_
  refine eqf_cons (by rfl) (by go_simp; rfl) (by go_simp; rfl) (by go_simp) ?_
  refine eqf_cons (by rfl) (by go_simp; rfl) (by go_simp; rfl) (by go_simp) ?_
  exact eqf_last (by rfl) (by go_simp; rfl) (by go_simp; rfl) (by go_simp)
end Go.Proofs.YtgbehcahdgamoaaDoor.Fn

namespace Go.Proofs.YtgbehcahdgamoaaDoor.Fn
open Go.RowKit Go.Proofs.YtgbehcahdgamoaaDoorW.PrintWords Go.Proofs.YtgbehcahdgamoaaDoorW.PrintLast Go.Proofs.YtgbehcahdgamoaaDoorW.PrintMore
set_option linter.unusedVariables false
set_option linter.unusedSimpArgs false
theorem eqA27 (d : Nat) (w : World) (x0 y0 : Int) (x1 y1 : Bool) (x2 y2 : ByteArray) (x3 y3 : Int) (x4 y4 : Bool) (x5 y5 : ByteArray) (x6 y6 : Bool) (x7 y7 : Int) (x8 y8 : Int) (x9 y9 : Int) (x10 y10 : Int) (x11 y11 : Int) (x12 y12 : Int) (x13 y13 : Int) (x14 y14 : Int) (x15 y15 : Int) (x16 y16 : Int) :
    (Op.equalIn (d + 3) 27 (.agg #[.int .i64 x0, .bool x1, .string x2, .int .i64 x3, .bool x4, .string x5, .bool x6, .int .i64 x7, .int .i64 x8, .int .i64 x9, .int .i64 x10, .int .i64 x11, .int .i64 x12, .int .i64 x13, .int .i64 x14, .int .i64 x15, .int .i64 x16]) (.agg #[.int .i64 y0, .bool y1, .string y2, .int .i64 y3, .bool y4, .string y5, .bool y6, .int .i64 y7, .int .i64 y8, .int .i64 y9, .int .i64 y10, .int .i64 y11, .int .i64 y12, .int .i64 y13, .int .i64 y14, .int .i64 y15, .int .i64 y16])).run Tryd.prog w = .ok ((x0 == y0 && (x1 == y1 && (x2.toList == y2.toList))) && ((x3 == y3 && (x4 == y4 && (x5.toList == y5.toList))) && (x6 == y6 && ((x7 == y7 && (x8 == y8 && (x9 == y9 && (x10 == y10 && (x11 == y11))))) && ((x12 == y12 && (x13 == y13 && (x14 == y14 && (x15 == y15 && (x16 == y16)))))))))) w := by
  refine eqA_of Tryd.underlying27 (by kernel_rfl) ?_
  refine eqf_cons (by rfl) (by go_simp) (by go_simp) (eqA23 (d + 0) w _ _ _ _ _ _) ?_
  refine eqf_cons (by rfl) (by go_simp) (by go_simp) (eqA23 (d + 0) w _ _ _ _ _ _) ?_
  refine eqf_cons (by rfl) (by go_simp; rfl) (by go_simp; rfl) (by go_simp) ?_
  refine eqf_cons (by rfl) (by go_simp) (by go_simp) (eqA25 (d + 0) w _ _ _ _ _ _ _ _ _ _) ?_
  exact eqf_last (by rfl) (by go_simp) (by go_simp) (eqA25 (d + 0) w _ _ _ _ _ _ _ _ _ _)
end Go.Proofs.YtgbehcahdgamoaaDoor.Fn

namespace Go.Proofs.YtgbehcahdgamoaaDoor.Fn
open Go.RowKit Go.Proofs.YtgbehcahdgamoaaDoorW.PrintWords Go.Proofs.YtgbehcahdgamoaaDoorW.PrintLast Go.Proofs.YtgbehcahdgamoaaDoorW.PrintMore
set_option linter.unusedVariables false
set_option linter.unusedSimpArgs false
/-! ### posix_within: function 46 -/
def posix_within.f (a0 : Int) (a1 : Int) (a2 : Int) : Option (Bool) := if a0 ≥ a1 then (some (decide (a0 ≤ a2))) else (some false)
set_option maxHeartbeats 8000000 in
set_option maxRecDepth 100000 in
theorem posix_within.calls (a0 : Int) (a1 : Int) (a2 : Int) (r : Bool) (w : World) (h : posix_within.f a0 a1 a2 = some r) :
    Calls Tryd.prog 46 #[.int .i64 a0, .int .i64 a1, .int .i64 a2] w fun e w' => e = .returned (.bool r) ∧ Drawn0 w w' := by
  have H : (if a0 ≥ a1 then (some (decide (a0 ≤ a2))) else (some false)) = some r := h
  clear h
  by_cases c4 : a0 ≥ a1
  · rw [if_pos c4] at H
    have c4b0 : decide (a1 ≤ a0) = true := decide_eq_true c4
    clear c4
    obtain rfl := Option.some.inj H
    go_enter Tryd.func46, Tryd.ntmps46
    go_wp2
    go_ret
    exact ⟨by first | rfl | (simp; done) | (simp [*]; done), by repeat (first | exact Drawn0.refl _ | apply Drawn0.step)⟩
  · rw [if_neg c4] at H
    have c4b0 : decide (a1 ≤ a0) = false := decide_eq_false c4
    clear c4
    obtain rfl := Option.some.inj H
    go_enter Tryd.func46, Tryd.ntmps46
    go_wp2
    go_ret
    exact ⟨by first | rfl | (simp; done) | (simp [*]; done), by repeat (first | exact Drawn0.refl _ | apply Drawn0.step)⟩
end Go.Proofs.YtgbehcahdgamoaaDoor.Fn

namespace Go.Proofs.YtgbehcahdgamoaaDoor.Fn
open Go.RowKit Go.Proofs.YtgbehcahdgamoaaDoorW.PrintWords Go.Proofs.YtgbehcahdgamoaaDoorW.PrintLast Go.Proofs.YtgbehcahdgamoaaDoorW.PrintMore
set_option linter.unusedVariables false
set_option linter.unusedSimpArgs false
/-! ### posix_changes: function 47 -/
mutual
def posix_changes.j0 : Nat → Bool → Int → Int → Int → Int → Int → Option (Bool)
  | 0, _, _, _, _, _, _ => none
  | k + 1, x18, x114000, x114001, x114002, x114003, x114004 => if x18 = true then (some false) else (if x114002 = 0 then (posix_changes.j1 k (x114003 == 0) x114000 x114001 x114002 x114003 x114004) else (posix_changes.j1 k false x114000 x114001 x114002 x114003 x114004))
def posix_changes.j1 : Nat → Bool → Int → Int → Int → Int → Int → Option (Bool)
  | 0, _, _, _, _, _, _ => none
  | k + 1, x5, x114000, x114001, x114002, x114003, x114004 => if x114000 = 1 then (if x5 = true then ((posix_within.f x114001 1 365).bind fun t116 => (some t116)) else (some false)) else (if x114000 = 2 then (if x5 = true then ((posix_within.f x114001 0 365).bind fun t117 => (some t117)) else (some false)) else (if x114000 = 3 then ((posix_within.f x114001 1 12).bind fun t118 => (if t118 = true then ((posix_within.f x114002 1 5).bind fun t119 => (if t119 = true then ((posix_within.f x114003 0 6).bind fun t120 => (some t120)) else (some false))) else (some false))) else (some false)))
end
def posix_changes.f (k : Nat) (a0_0 : Int) (a0_1 : Int) (a0_2 : Int) (a0_3 : Int) (a0_4 : Int) (a1 : Bool) : Option (Bool) := (posix_within.f a0_4 0 89999).bind fun t114 => (if t114 = true then (posix_changes.j0 k false a0_0 a0_1 a0_2 a0_3 a0_4) else (if a1 = true then ((posix_within.f a0_4 (-604799) 604799).bind fun t115 => (posix_changes.j0 k (!t115) a0_0 a0_1 a0_2 a0_3 a0_4)) else (posix_changes.j0 k (!false) a0_0 a0_1 a0_2 a0_3 a0_4)))
theorem posix_changes.mono_l : ∀ k, (∀ y0 y1 y2 y3 y4 y5, LeO (posix_changes.j0 k y0 y1 y2 y3 y4 y5) (posix_changes.j0 (k + 1) y0 y1 y2 y3 y4 y5)) ∧ (∀ y0 y1 y2 y3 y4 y5, LeO (posix_changes.j1 k y0 y1 y2 y3 y4 y5) (posix_changes.j1 (k + 1) y0 y1 y2 y3 y4 y5))
  | 0 => ⟨fun _ _ _ _ _ _ r h => by simp [posix_changes.j0] at h, fun _ _ _ _ _ _ r h => by simp [posix_changes.j1] at h⟩
  | k + 1 => by
    obtain ⟨ih0, ih1⟩ := posix_changes.mono_l k
    refine ⟨?_, ?_⟩
    · intro y0 y1 y2 y3 y4 y5
      unfold posix_changes.j0
      repeat' first
      | (with_reducible exact ih0 _ _ _ _ _ _)
      | (with_reducible exact ih1 _ _ _ _ _ _)
      | (with_reducible exact LeO.refl _)
      | (with_reducible exact LeO.none _)
      | (with_reducible refine LeO.ite ?_ ?_)
      | (with_reducible refine LeO.bind ?_ (fun _ => ?_))
      | exact ih0 _ _ _ _ _ _
      | exact ih1 _ _ _ _ _ _
      | exact LeO.none _
      | refine LeO.ite ?_ ?_
      | refine LeO.bind ?_ (fun _ => ?_)
    · intro y0 y1 y2 y3 y4 y5
      unfold posix_changes.j1
      repeat' first
      | (with_reducible exact ih0 _ _ _ _ _ _)
      | (with_reducible exact ih1 _ _ _ _ _ _)
      | (with_reducible exact LeO.refl _)
      | (with_reducible exact LeO.none _)
      | (with_reducible refine LeO.ite ?_ ?_)
      | (with_reducible refine LeO.bind ?_ (fun _ => ?_))
      | exact ih0 _ _ _ _ _ _
      | exact ih1 _ _ _ _ _ _
      | exact LeO.none _
      | refine LeO.ite ?_ ?_
      | refine LeO.bind ?_ (fun _ => ?_)
theorem posix_changes.mono : ∀ a0 a1 a2 a3 a4 a5 k, LeO (posix_changes.f k a0 a1 a2 a3 a4 a5) (posix_changes.f (k + 1) a0 a1 a2 a3 a4 a5) := by
  intro a0 a1 a2 a3 a4 a5 k
  obtain ⟨ih0, ih1⟩ := posix_changes.mono_l k
  unfold posix_changes.f
  repeat' first
      | (with_reducible exact ih0 _ _ _ _ _ _)
      | (with_reducible exact ih1 _ _ _ _ _ _)
      | (with_reducible exact LeO.refl _)
      | (with_reducible exact LeO.none _)
      | (with_reducible refine LeO.ite ?_ ?_)
      | (with_reducible refine LeO.bind ?_ (fun _ => ?_))
      | exact ih0 _ _ _ _ _ _
      | exact ih1 _ _ _ _ _ _
      | exact LeO.none _
      | refine LeO.ite ?_ ?_
      | refine LeO.bind ?_ (fun _ => ?_)
set_option maxHeartbeats 8000000 in
set_option maxRecDepth 100000 in
theorem posix_changes.calls (k : Nat) (a0_0 : Int) (a0_1 : Int) (a0_2 : Int) (a0_3 : Int) (a0_4 : Int) (a1 : Bool) (r : Bool) (w : World) (h : posix_changes.f k a0_0 a0_1 a0_2 a0_3 a0_4 a1 = some r) :
    Calls Tryd.prog 47 #[.agg #[.int .i64 a0_0, .int .i64 a0_1, .int .i64 a0_2, .int .i64 a0_3, .int .i64 a0_4], .bool a1] w fun e w' => e = .returned (.bool r) ∧ Below w.heap.size w w' := by
  have hu25 := Tryd.underlying25
  have HB := Aside0.mk (Below.refl w.heap.size w)
  have H : ((posix_within.f a0_4 0 89999).bind fun t114 => (if t114 = true then (posix_changes.j0 k false a0_0 a0_1 a0_2 a0_3 a0_4) else (if a1 = true then ((posix_within.f a0_4 (-604799) 604799).bind fun t115 => (posix_changes.j0 k (!t115) a0_0 a0_1 a0_2 a0_3 a0_4)) else (posix_changes.j0 k (!false) a0_0 a0_1 a0_2 a0_3 a0_4)))) = some r := h
  clear h
  have HC3 := Aside0.mk H
  clear H
  go_enter Tryd.func47, Tryd.ntmps47
  go_upto_region 1 with (first | ((with_reducible refine gate_dst (N := 2) rfl ?_); refine box_event ?hg (N := 2) ?hd (cs := #[.int .i64 a0_0, .int .i64 a0_1, .int .i64 a0_2, .int .i64 a0_3, .int .i64 a0_4]) (t := 25) ?hr ?_; (case hd => rfl); (case hg => rfl); (case hr => first | (go_simp; done) | (go_simp; rfl)); intro gb113 hg w4 hbox hb; have n0_ := Aside0.mk (below_step (by repeat (first | (with_reducible first | exact HB.out | apply below_alloc | apply pw_below_drewN | apply below_drew1) | exact HB.out)) hb); have n1_ := Aside0.mk (hbox); have n2_ := Aside0.mk ((by rw [hg]; exact (below_size (by repeat (first | (with_reducible first | exact HB.out | apply below_alloc | apply pw_below_drewN | apply below_drew1) | exact HB.out))) : w.heap.size ≤ gb113)); have n3_ := Aside0.mk ((by rw [hg]; exact (below_size (by repeat (first | (with_reducible first | exact HB.out | apply below_alloc | apply pw_below_drewN | apply below_drew1) | exact HB.out))) : w.heap.size ≤ gb113)); clear HB; have HB := n0_; have BK113 := n1_; have GW113 := n2_; have GE113 := n3_; clear n0_ n1_ n2_ n3_; clear hb hbox hg))
  (try simp only [Act.put, List.setIfInBounds_toArray, List.set_cons_zero, List.set_cons_succ])
  go_cut [18] (fun v18 wc => ∃ (kq : Nat) (x18_2 : Bool), v18 = .bool x18_2 ∧ Aside0 (posix_changes.j0 kq x18_2 a0_0 a0_1 a0_2 a0_3 a0_4 = some r) ∧ Aside0 (kq ≤ k) ∧ Aside0 (wc.heap[gb113]? = some (.cells #[.int .i64 a0_0, .int .i64 a0_1, .int .i64 a0_2, .int .i64 a0_3, .int .i64 a0_4] 25 (0, 0))) ∧ Aside0 (Below w.heap.size w wc))
  case first =>
    have H := HC3.out
    clear HC3
    replace H := Option.bind_eq_some_iff.mp H
    obtain ⟨t114, A50, H⟩ := H
    replace H : (if t114 = true then (posix_changes.j0 k false a0_0 a0_1 a0_2 a0_3 a0_4) else (if a1 = true then ((posix_within.f a0_4 (-604799) 604799).bind fun t115 => (posix_changes.j0 k (!t115) a0_0 a0_1 a0_2 a0_3 a0_4)) else (posix_changes.j0 k (!false) a0_0 a0_1 a0_2 a0_3 a0_4))) = some r := H
    have A5 := Aside0.mk A50
    clear A50
    by_cases c6 : t114 = true
    · subst c6
      have H1 : (posix_changes.j0 k false a0_0 a0_1 a0_2 a0_3 a0_4) = some r := by rw [if_pos rfl] at H; exact H
      clear H
      have H := H1
      clear H1
      have H' := Aside0.mk H
      clear H
      have hcz7_0 : w4.cell? ⟨gb113, 0, none⟩ = some (.int .i64 a0_0) := (blk_cell BK113.out 0).trans rfl
      have hcz7_1 : w4.cell? ⟨gb113, 1, none⟩ = some (.int .i64 a0_1) := (blk_cell BK113.out 1).trans rfl
      have hcz7_2 : w4.cell? ⟨gb113, 2, none⟩ = some (.int .i64 a0_2) := (blk_cell BK113.out 2).trans rfl
      have hcz7_3 : w4.cell? ⟨gb113, 3, none⟩ = some (.int .i64 a0_3) := (blk_cell BK113.out 3).trans rfl
      have hcz7_4 : w4.cell? ⟨gb113, 4, none⟩ = some (.int .i64 a0_4) := (blk_cell BK113.out 4).trans rfl
      have hfz7_0 := blk_frozen BK113.out 0
      have hfz7_1 := blk_frozen BK113.out 1
      have hfz7_2 := blk_frozen BK113.out 2
      have hfz7_3 := blk_frozen BK113.out 3
      have hfz7_4 := blk_frozen BK113.out 4
      go_wp2_with (first | ((with_reducible refine gate_callee (f := 46) rfl ?_); refine goesL_ (some 8) rfl rfl Tryd.func46 (by kernel_rfl) rfl #[.int .i64 a0_4, .int .i64 0, .int .i64 89999] rfl (by (try simp only [List.map_toArray, List.map_cons, List.map_nil]); first | done | rfl | (simp only [List.length_drop, List.length_take]; rfl)) ?_; (with_reducible refine (posix_within.calls a0_4 0 89999 true _ A5.out).mono ?_); rintro e w' ⟨rfl, ⟨nd, rfl⟩⟩; refine ⟨_, rfl, ?_⟩))
      go_meet
      case rel => exact ⟨_, (false), (by first | rfl | (simp; done) | (simp [*]; done)), H', ⟨by first | omega | exact Nat.le_refl _⟩, ⟨by (with_reducible repeat (first | refine blk_drewN ?_ _ | refine blk_drew ?_ | refine blk_alloc ?_ _)); exact BK113.out⟩, ⟨by repeat (first | (with_reducible first | exact HB.out | apply below_alloc | apply pw_below_drewN | apply below_drew1 | refine below_set ?_ GE113.out) | exact HB.out)⟩⟩
    · replace c6 := Bool.eq_false_iff.mpr c6
      subst c6
      have H1 : (if a1 = true then ((posix_within.f a0_4 (-604799) 604799).bind fun t115 => (posix_changes.j0 k (!t115) a0_0 a0_1 a0_2 a0_3 a0_4)) else (posix_changes.j0 k (!false) a0_0 a0_1 a0_2 a0_3 a0_4)) = some r := by rw [if_neg (show ¬ (false = true) by decide)] at H; exact H
      clear H
      have H := H1
      clear H1
      by_cases c8 : a1 = true
      · subst c8
        have H1 : ((posix_within.f a0_4 (-604799) 604799).bind fun t115 => (posix_changes.j0 k (!t115) a0_0 a0_1 a0_2 a0_3 a0_4)) = some r := by rw [if_pos rfl] at H; exact H
        clear H
        have H := H1
        clear H1
        replace H := Option.bind_eq_some_iff.mp H
        obtain ⟨t115, A90, H⟩ := H
        replace H : (posix_changes.j0 k (!t115) a0_0 a0_1 a0_2 a0_3 a0_4) = some r := H
        have A9 := Aside0.mk A90
        clear A90
        have H' := Aside0.mk H
        clear H
        have hcz10_0 : w4.cell? ⟨gb113, 0, none⟩ = some (.int .i64 a0_0) := (blk_cell BK113.out 0).trans rfl
        have hcz10_1 : w4.cell? ⟨gb113, 1, none⟩ = some (.int .i64 a0_1) := (blk_cell BK113.out 1).trans rfl
        have hcz10_2 : w4.cell? ⟨gb113, 2, none⟩ = some (.int .i64 a0_2) := (blk_cell BK113.out 2).trans rfl
        have hcz10_3 : w4.cell? ⟨gb113, 3, none⟩ = some (.int .i64 a0_3) := (blk_cell BK113.out 3).trans rfl
        have hcz10_4 : w4.cell? ⟨gb113, 4, none⟩ = some (.int .i64 a0_4) := (blk_cell BK113.out 4).trans rfl
        have hfz10_0 := blk_frozen BK113.out 0
        have hfz10_1 := blk_frozen BK113.out 1
        have hfz10_2 := blk_frozen BK113.out 2
        have hfz10_3 := blk_frozen BK113.out 3
        have hfz10_4 := blk_frozen BK113.out 4
        go_wp2_with (first | ((with_reducible refine gate_callee (f := 46) rfl ?_); refine goesL_ (some 8) rfl rfl Tryd.func46 (by kernel_rfl) rfl #[.int .i64 a0_4, .int .i64 0, .int .i64 89999] rfl (by (try simp only [List.map_toArray, List.map_cons, List.map_nil]); first | done | rfl | (simp only [List.length_drop, List.length_take]; rfl)) ?_; (with_reducible refine (posix_within.calls a0_4 0 89999 false _ A5.out).mono ?_); rintro e w' ⟨rfl, ⟨nd, rfl⟩⟩; refine ⟨_, rfl, ?_⟩) | (go_at_call 46; (with_reducible refine (posix_within.calls a0_4 (-604799) 604799 t115 _ A9.out).mono ?_); rintro e w' ⟨rfl, ⟨nd, rfl⟩⟩))
        go_meet
        case rel => exact ⟨_, (!t115), (by first | rfl | (simp; done) | (simp [*]; done)), H', ⟨by first | omega | exact Nat.le_refl _⟩, ⟨by (with_reducible repeat (first | refine blk_drewN ?_ _ | refine blk_drew ?_ | refine blk_alloc ?_ _)); exact BK113.out⟩, ⟨by repeat (first | (with_reducible first | exact HB.out | apply below_alloc | apply pw_below_drewN | apply below_drew1 | refine below_set ?_ GE113.out) | exact HB.out)⟩⟩
      · replace c8 := Bool.eq_false_iff.mpr c8
        subst c8
        have H1 : (posix_changes.j0 k (!false) a0_0 a0_1 a0_2 a0_3 a0_4) = some r := by rw [if_neg (show ¬ (false = true) by decide)] at H; exact H
        clear H
        have H := H1
        clear H1
        have H' := Aside0.mk H
        clear H
        have hcz11_0 : w4.cell? ⟨gb113, 0, none⟩ = some (.int .i64 a0_0) := (blk_cell BK113.out 0).trans rfl
        have hcz11_1 : w4.cell? ⟨gb113, 1, none⟩ = some (.int .i64 a0_1) := (blk_cell BK113.out 1).trans rfl
        have hcz11_2 : w4.cell? ⟨gb113, 2, none⟩ = some (.int .i64 a0_2) := (blk_cell BK113.out 2).trans rfl
        have hcz11_3 : w4.cell? ⟨gb113, 3, none⟩ = some (.int .i64 a0_3) := (blk_cell BK113.out 3).trans rfl
        have hcz11_4 : w4.cell? ⟨gb113, 4, none⟩ = some (.int .i64 a0_4) := (blk_cell BK113.out 4).trans rfl
        have hfz11_0 := blk_frozen BK113.out 0
        have hfz11_1 := blk_frozen BK113.out 1
        have hfz11_2 := blk_frozen BK113.out 2
        have hfz11_3 := blk_frozen BK113.out 3
        have hfz11_4 := blk_frozen BK113.out 4
        go_wp2_with (first | ((with_reducible refine gate_callee (f := 46) rfl ?_); refine goesL_ (some 8) rfl rfl Tryd.func46 (by kernel_rfl) rfl #[.int .i64 a0_4, .int .i64 0, .int .i64 89999] rfl (by (try simp only [List.map_toArray, List.map_cons, List.map_nil]); first | done | rfl | (simp only [List.length_drop, List.length_take]; rfl)) ?_; (with_reducible refine (posix_within.calls a0_4 0 89999 false _ A5.out).mono ?_); rintro e w' ⟨rfl, ⟨nd, rfl⟩⟩; refine ⟨_, rfl, ?_⟩))
        go_meet
        case rel => exact ⟨_, (!false), (by first | rfl | (simp; done) | (simp [*]; done)), H', ⟨by first | omega | exact Nat.le_refl _⟩, ⟨by (with_reducible repeat (first | refine blk_drewN ?_ _ | refine blk_drew ?_ | refine blk_alloc ?_ _)); exact BK113.out⟩, ⟨by repeat (first | (with_reducible first | exact HB.out | apply below_alloc | apply pw_below_drewN | apply below_drew1 | refine below_set ?_ GE113.out) | exact HB.out)⟩⟩
  case rest =>
    clear HC3
    try clear p2
    try clear c4
    try clear c6
    try clear c8
    try clear hcz10_0
    try clear hcz10_1
    try clear hcz10_2
    try clear hcz10_3
    try clear hcz10_4
    try clear hcz11_0
    try clear hcz11_1
    try clear hcz11_2
    try clear hcz11_3
    try clear hcz11_4
    try clear hcz7_0
    try clear hcz7_1
    try clear hcz7_2
    try clear hcz7_3
    try clear hcz7_4
    try clear hfz10_0
    try clear hfz10_1
    try clear hfz10_2
    try clear hfz10_3
    try clear hfz10_4
    try clear hfz11_0
    try clear hfz11_1
    try clear hfz11_2
    try clear hfz11_3
    try clear hfz11_4
    try clear hfz7_0
    try clear hfz7_1
    try clear hfz7_2
    try clear hfz7_3
    try clear hfz7_4
    obtain ⟨kq, x18_2, rfl, HA, HJ2, BK113, HB⟩ := hcut
    cases kq with
    | zero => exact absurd HA.out (by simp [posix_changes.j0])
    | succ kj2 =>
      have H := HA.out
      clear HA
      simp only [posix_changes.j0] at H
      by_cases c12 : x18_2 = true
      · subst c12
        have H1 : (some false) = some r := by rw [if_pos rfl] at H; exact H
        clear H
        have H := H1
        clear H1
        obtain rfl := Option.some.inj H
        go_wp2
        go_ret
        exact ⟨by first | rfl | (simp [errW_none, errW_some] <;> rfl) | (simp [*, errW_none, errW_some] <;> rfl), by repeat (first | (with_reducible first | exact HB.out | apply below_alloc | apply pw_below_drewN | apply below_drew1 | refine below_set ?_ GE113.out) | exact HB.out)⟩
      · replace c12 := Bool.eq_false_iff.mpr c12
        subst c12
        have H1 : (if a0_2 = 0 then (posix_changes.j1 kj2 (a0_3 == 0) a0_0 a0_1 a0_2 a0_3 a0_4) else (posix_changes.j1 kj2 false a0_0 a0_1 a0_2 a0_3 a0_4)) = some r := by rw [if_neg (show ¬ (false = true) by decide)] at H; exact H
        clear H
        have H := H1
        clear H1
        have HC13 := Aside0.mk H
        clear H
        go_upto_region 3 with (fail)
        go_cut [5] (fun v5 wc => ∃ (kq : Nat) (x5_12 : Bool), v5 = .bool x5_12 ∧ Aside0 (posix_changes.j1 kq x5_12 a0_0 a0_1 a0_2 a0_3 a0_4 = some r) ∧ Aside0 (kq ≤ kj2) ∧ Aside0 (wc.heap[gb113]? = some (.cells #[.int .i64 a0_0, .int .i64 a0_1, .int .i64 a0_2, .int .i64 a0_3, .int .i64 a0_4] 25 (0, 0))) ∧ Aside0 (Below w.heap.size w wc))
        case first =>
          have H := HC13.out
          clear HC13
          by_cases c14 : a0_2 = 0
          · rw [if_pos c14] at H
            have c14b0 : (a0_2 == 0) = true := beq_iff_eq.mpr c14
            have c14b1 : (a0_2 != 0) = false := bne_eq_false_iff_eq.mpr c14
            clear c14
            (first | rw [c14b0] | (simp only [i64_w, i32_w]; rw [c14b0]) | skip)
            have H' := Aside0.mk H
            clear H
            have hcz15_0 : wc.cell? ⟨gb113, 0, none⟩ = some (.int .i64 a0_0) := (blk_cell BK113.out 0).trans rfl
            have hcz15_1 : wc.cell? ⟨gb113, 1, none⟩ = some (.int .i64 a0_1) := (blk_cell BK113.out 1).trans rfl
            have hcz15_2 : wc.cell? ⟨gb113, 2, none⟩ = some (.int .i64 a0_2) := (blk_cell BK113.out 2).trans rfl
            have hcz15_3 : wc.cell? ⟨gb113, 3, none⟩ = some (.int .i64 a0_3) := (blk_cell BK113.out 3).trans rfl
            have hcz15_4 : wc.cell? ⟨gb113, 4, none⟩ = some (.int .i64 a0_4) := (blk_cell BK113.out 4).trans rfl
            have hfz15_0 := blk_frozen BK113.out 0
            have hfz15_1 := blk_frozen BK113.out 1
            have hfz15_2 := blk_frozen BK113.out 2
            have hfz15_3 := blk_frozen BK113.out 3
            have hfz15_4 := blk_frozen BK113.out 4
            go_wp2
            go_meet
            case rel => exact ⟨_, ((a0_3 == 0)), (by first | rfl | (simp; done) | (simp [*]; done)), H', ⟨by have := HJ2.out; first | omega | exact Nat.le_refl _⟩, ⟨by (with_reducible repeat (first | refine blk_drewN ?_ _ | refine blk_drew ?_ | refine blk_alloc ?_ _)); exact BK113.out⟩, ⟨by repeat (first | (with_reducible first | exact HB.out | apply below_alloc | apply pw_below_drewN | apply below_drew1 | refine below_set ?_ GE113.out) | exact HB.out)⟩⟩
          · rw [if_neg c14] at H
            have c14b0 : (a0_2 == 0) = false := beq_eq_false_iff_ne.mpr c14
            have c14b1 : (a0_2 != 0) = true := bne_iff_ne.mpr c14
            (first | rw [c14b0] | (simp only [i64_w, i32_w]; rw [c14b0]) | skip)
            have H' := Aside0.mk H
            clear H
            have hcz16_0 : wc.cell? ⟨gb113, 0, none⟩ = some (.int .i64 a0_0) := (blk_cell BK113.out 0).trans rfl
            have hcz16_1 : wc.cell? ⟨gb113, 1, none⟩ = some (.int .i64 a0_1) := (blk_cell BK113.out 1).trans rfl
            have hcz16_2 : wc.cell? ⟨gb113, 2, none⟩ = some (.int .i64 a0_2) := (blk_cell BK113.out 2).trans rfl
            have hcz16_3 : wc.cell? ⟨gb113, 3, none⟩ = some (.int .i64 a0_3) := (blk_cell BK113.out 3).trans rfl
            have hcz16_4 : wc.cell? ⟨gb113, 4, none⟩ = some (.int .i64 a0_4) := (blk_cell BK113.out 4).trans rfl
            have hfz16_0 := blk_frozen BK113.out 0
            have hfz16_1 := blk_frozen BK113.out 1
            have hfz16_2 := blk_frozen BK113.out 2
            have hfz16_3 := blk_frozen BK113.out 3
            have hfz16_4 := blk_frozen BK113.out 4
            go_wp2
            go_meet
            case rel => exact ⟨_, (false), (by first | rfl | (simp; done) | (simp [*]; done)), H', ⟨by have := HJ2.out; first | omega | exact Nat.le_refl _⟩, ⟨by (with_reducible repeat (first | refine blk_drewN ?_ _ | refine blk_drew ?_ | refine blk_alloc ?_ _)); exact BK113.out⟩, ⟨by repeat (first | (with_reducible first | exact HB.out | apply below_alloc | apply pw_below_drewN | apply below_drew1 | refine below_set ?_ GE113.out) | exact HB.out)⟩⟩
        case rest =>
          clear HC13
          try clear c1
          try clear p2
          try clear c4
          try clear c6
          try clear c8
          try clear c12
          try clear c14
          try clear c14b0
          try clear c14b1
          try clear hcz10_0
          try clear hcz10_1
          try clear hcz10_2
          try clear hcz10_3
          try clear hcz10_4
          try clear hcz11_0
          try clear hcz11_1
          try clear hcz11_2
          try clear hcz11_3
          try clear hcz11_4
          try clear hcz15_0
          try clear hcz15_1
          try clear hcz15_2
          try clear hcz15_3
          try clear hcz15_4
          try clear hcz16_0
          try clear hcz16_1
          try clear hcz16_2
          try clear hcz16_3
          try clear hcz16_4
          try clear hcz7_0
          try clear hcz7_1
          try clear hcz7_2
          try clear hcz7_3
          try clear hcz7_4
          try clear hfz10_0
          try clear hfz10_1
          try clear hfz10_2
          try clear hfz10_3
          try clear hfz10_4
          try clear hfz11_0
          try clear hfz11_1
          try clear hfz11_2
          try clear hfz11_3
          try clear hfz11_4
          try clear hfz15_0
          try clear hfz15_1
          try clear hfz15_2
          try clear hfz15_3
          try clear hfz15_4
          try clear hfz16_0
          try clear hfz16_1
          try clear hfz16_2
          try clear hfz16_3
          try clear hfz16_4
          try clear hfz7_0
          try clear hfz7_1
          try clear hfz7_2
          try clear hfz7_3
          try clear hfz7_4
          try clear p2
          obtain ⟨kq, x5_12, rfl, HA, HJ12, BK113, HB⟩ := hcut
          cases kq with
          | zero => exact absurd HA.out (by simp [posix_changes.j1])
          | succ kj12 =>
            have H := HA.out
            clear HA
            simp only [posix_changes.j1] at H
            by_cases c17 : a0_0 = 1
            · rw [if_pos c17] at H
              have c17b0 : (a0_0 == 1) = true := beq_iff_eq.mpr c17
              have c17b1 : (a0_0 != 1) = false := bne_eq_false_iff_eq.mpr c17
              clear c17
              by_cases c18 : x5_12 = true
              · subst c18
                have H1 : ((posix_within.f a0_1 1 365).bind fun t116 => (some t116)) = some r := by rw [if_pos rfl] at H; exact H
                clear H
                have H := H1
                clear H1
                replace H := Option.bind_eq_some_iff.mp H
                obtain ⟨t116, A190, H⟩ := H
                replace H : (some t116) = some r := H
                have A19 := Aside0.mk A190
                clear A190
                obtain rfl := Option.some.inj H
                have hcz20_0 : wc.cell? ⟨gb113, 0, none⟩ = some (.int .i64 a0_0) := (blk_cell BK113.out 0).trans rfl
                have hcz20_1 : wc.cell? ⟨gb113, 1, none⟩ = some (.int .i64 a0_1) := (blk_cell BK113.out 1).trans rfl
                have hcz20_2 : wc.cell? ⟨gb113, 2, none⟩ = some (.int .i64 a0_2) := (blk_cell BK113.out 2).trans rfl
                have hcz20_3 : wc.cell? ⟨gb113, 3, none⟩ = some (.int .i64 a0_3) := (blk_cell BK113.out 3).trans rfl
                have hcz20_4 : wc.cell? ⟨gb113, 4, none⟩ = some (.int .i64 a0_4) := (blk_cell BK113.out 4).trans rfl
                have hfz20_0 := blk_frozen BK113.out 0
                have hfz20_1 := blk_frozen BK113.out 1
                have hfz20_2 := blk_frozen BK113.out 2
                have hfz20_3 := blk_frozen BK113.out 3
                have hfz20_4 := blk_frozen BK113.out 4
                go_wp2_with (first | (go_at_call 46; (with_reducible refine (posix_within.calls a0_1 1 365 t116 _ A19.out).mono ?_); rintro e w' ⟨rfl, ⟨nd, rfl⟩⟩))
                go_ret
                exact ⟨by first | rfl | (simp [errW_none, errW_some] <;> rfl) | (simp [*, errW_none, errW_some] <;> rfl), by repeat (first | (with_reducible first | exact HB.out | apply below_alloc | apply pw_below_drewN | apply below_drew1 | refine below_set ?_ GE113.out) | exact HB.out)⟩
              · replace c18 := Bool.eq_false_iff.mpr c18
                subst c18
                have H1 : (some false) = some r := by rw [if_neg (show ¬ (false = true) by decide)] at H; exact H
                clear H
                have H := H1
                clear H1
                obtain rfl := Option.some.inj H
                have hcz21_0 : wc.cell? ⟨gb113, 0, none⟩ = some (.int .i64 a0_0) := (blk_cell BK113.out 0).trans rfl
                have hcz21_1 : wc.cell? ⟨gb113, 1, none⟩ = some (.int .i64 a0_1) := (blk_cell BK113.out 1).trans rfl
                have hcz21_2 : wc.cell? ⟨gb113, 2, none⟩ = some (.int .i64 a0_2) := (blk_cell BK113.out 2).trans rfl
                have hcz21_3 : wc.cell? ⟨gb113, 3, none⟩ = some (.int .i64 a0_3) := (blk_cell BK113.out 3).trans rfl
                have hcz21_4 : wc.cell? ⟨gb113, 4, none⟩ = some (.int .i64 a0_4) := (blk_cell BK113.out 4).trans rfl
                have hfz21_0 := blk_frozen BK113.out 0
                have hfz21_1 := blk_frozen BK113.out 1
                have hfz21_2 := blk_frozen BK113.out 2
                have hfz21_3 := blk_frozen BK113.out 3
                have hfz21_4 := blk_frozen BK113.out 4
                go_wp2
                go_ret
                exact ⟨by first | rfl | (simp [errW_none, errW_some] <;> rfl) | (simp [*, errW_none, errW_some] <;> rfl), by repeat (first | (with_reducible first | exact HB.out | apply below_alloc | apply pw_below_drewN | apply below_drew1 | refine below_set ?_ GE113.out) | exact HB.out)⟩
            · rw [if_neg c17] at H
              have c17b0 : (a0_0 == 1) = false := beq_eq_false_iff_ne.mpr c17
              have c17b1 : (a0_0 != 1) = true := bne_iff_ne.mpr c17
              by_cases c22 : a0_0 = 2
              · rw [if_pos c22] at H
                have c22b0 : (a0_0 == 2) = true := beq_iff_eq.mpr c22
                have c22b1 : (a0_0 != 2) = false := bne_eq_false_iff_eq.mpr c22
                clear c22
                by_cases c23 : x5_12 = true
                · subst c23
                  have H1 : ((posix_within.f a0_1 0 365).bind fun t117 => (some t117)) = some r := by rw [if_pos rfl] at H; exact H
                  clear H
                  have H := H1
                  clear H1
                  replace H := Option.bind_eq_some_iff.mp H
                  obtain ⟨t117, A240, H⟩ := H
                  replace H : (some t117) = some r := H
                  have A24 := Aside0.mk A240
                  clear A240
                  obtain rfl := Option.some.inj H
                  have hcz25_0 : wc.cell? ⟨gb113, 0, none⟩ = some (.int .i64 a0_0) := (blk_cell BK113.out 0).trans rfl
                  have hcz25_1 : wc.cell? ⟨gb113, 1, none⟩ = some (.int .i64 a0_1) := (blk_cell BK113.out 1).trans rfl
                  have hcz25_2 : wc.cell? ⟨gb113, 2, none⟩ = some (.int .i64 a0_2) := (blk_cell BK113.out 2).trans rfl
                  have hcz25_3 : wc.cell? ⟨gb113, 3, none⟩ = some (.int .i64 a0_3) := (blk_cell BK113.out 3).trans rfl
                  have hcz25_4 : wc.cell? ⟨gb113, 4, none⟩ = some (.int .i64 a0_4) := (blk_cell BK113.out 4).trans rfl
                  have hfz25_0 := blk_frozen BK113.out 0
                  have hfz25_1 := blk_frozen BK113.out 1
                  have hfz25_2 := blk_frozen BK113.out 2
                  have hfz25_3 := blk_frozen BK113.out 3
                  have hfz25_4 := blk_frozen BK113.out 4
                  go_wp2_with (first | (go_at_call 46; (with_reducible refine (posix_within.calls a0_1 0 365 t117 _ A24.out).mono ?_); rintro e w' ⟨rfl, ⟨nd, rfl⟩⟩))
                  go_ret
                  exact ⟨by first | rfl | (simp [errW_none, errW_some] <;> rfl) | (simp [*, errW_none, errW_some] <;> rfl), by repeat (first | (with_reducible first | exact HB.out | apply below_alloc | apply pw_below_drewN | apply below_drew1 | refine below_set ?_ GE113.out) | exact HB.out)⟩
                · replace c23 := Bool.eq_false_iff.mpr c23
                  subst c23
                  have H1 : (some false) = some r := by rw [if_neg (show ¬ (false = true) by decide)] at H; exact H
                  clear H
                  have H := H1
                  clear H1
                  obtain rfl := Option.some.inj H
                  have hcz26_0 : wc.cell? ⟨gb113, 0, none⟩ = some (.int .i64 a0_0) := (blk_cell BK113.out 0).trans rfl
                  have hcz26_1 : wc.cell? ⟨gb113, 1, none⟩ = some (.int .i64 a0_1) := (blk_cell BK113.out 1).trans rfl
                  have hcz26_2 : wc.cell? ⟨gb113, 2, none⟩ = some (.int .i64 a0_2) := (blk_cell BK113.out 2).trans rfl
                  have hcz26_3 : wc.cell? ⟨gb113, 3, none⟩ = some (.int .i64 a0_3) := (blk_cell BK113.out 3).trans rfl
                  have hcz26_4 : wc.cell? ⟨gb113, 4, none⟩ = some (.int .i64 a0_4) := (blk_cell BK113.out 4).trans rfl
                  have hfz26_0 := blk_frozen BK113.out 0
                  have hfz26_1 := blk_frozen BK113.out 1
                  have hfz26_2 := blk_frozen BK113.out 2
                  have hfz26_3 := blk_frozen BK113.out 3
                  have hfz26_4 := blk_frozen BK113.out 4
                  go_wp2
                  go_ret
                  exact ⟨by first | rfl | (simp [errW_none, errW_some] <;> rfl) | (simp [*, errW_none, errW_some] <;> rfl), by repeat (first | (with_reducible first | exact HB.out | apply below_alloc | apply pw_below_drewN | apply below_drew1 | refine below_set ?_ GE113.out) | exact HB.out)⟩
              · rw [if_neg c22] at H
                have c22b0 : (a0_0 == 2) = false := beq_eq_false_iff_ne.mpr c22
                have c22b1 : (a0_0 != 2) = true := bne_iff_ne.mpr c22
                by_cases c27 : a0_0 = 3
                · rw [if_pos c27] at H
                  have c27b0 : (a0_0 == 3) = true := beq_iff_eq.mpr c27
                  have c27b1 : (a0_0 != 3) = false := bne_eq_false_iff_eq.mpr c27
                  clear c27
                  replace H := Option.bind_eq_some_iff.mp H
                  obtain ⟨t118, A280, H⟩ := H
                  replace H : (if t118 = true then ((posix_within.f a0_2 1 5).bind fun t119 => (if t119 = true then ((posix_within.f a0_3 0 6).bind fun t120 => (some t120)) else (some false))) else (some false)) = some r := H
                  have A28 := Aside0.mk A280
                  clear A280
                  by_cases c29 : t118 = true
                  · subst c29
                    have H1 : ((posix_within.f a0_2 1 5).bind fun t119 => (if t119 = true then ((posix_within.f a0_3 0 6).bind fun t120 => (some t120)) else (some false))) = some r := by rw [if_pos rfl] at H; exact H
                    clear H
                    have H := H1
                    clear H1
                    replace H := Option.bind_eq_some_iff.mp H
                    obtain ⟨t119, A300, H⟩ := H
                    replace H : (if t119 = true then ((posix_within.f a0_3 0 6).bind fun t120 => (some t120)) else (some false)) = some r := H
                    have A30 := Aside0.mk A300
                    clear A300
                    by_cases c31 : t119 = true
                    · subst c31
                      have H1 : ((posix_within.f a0_3 0 6).bind fun t120 => (some t120)) = some r := by rw [if_pos rfl] at H; exact H
                      clear H
                      have H := H1
                      clear H1
                      replace H := Option.bind_eq_some_iff.mp H
                      obtain ⟨t120, A320, H⟩ := H
                      replace H : (some t120) = some r := H
                      have A32 := Aside0.mk A320
                      clear A320
                      obtain rfl := Option.some.inj H
                      have hcz33_0 : wc.cell? ⟨gb113, 0, none⟩ = some (.int .i64 a0_0) := (blk_cell BK113.out 0).trans rfl
                      have hcz33_1 : wc.cell? ⟨gb113, 1, none⟩ = some (.int .i64 a0_1) := (blk_cell BK113.out 1).trans rfl
                      have hcz33_2 : wc.cell? ⟨gb113, 2, none⟩ = some (.int .i64 a0_2) := (blk_cell BK113.out 2).trans rfl
                      have hcz33_3 : wc.cell? ⟨gb113, 3, none⟩ = some (.int .i64 a0_3) := (blk_cell BK113.out 3).trans rfl
                      have hcz33_4 : wc.cell? ⟨gb113, 4, none⟩ = some (.int .i64 a0_4) := (blk_cell BK113.out 4).trans rfl
                      have hfz33_0 := blk_frozen BK113.out 0
                      have hfz33_1 := blk_frozen BK113.out 1
                      have hfz33_2 := blk_frozen BK113.out 2
                      have hfz33_3 := blk_frozen BK113.out 3
                      have hfz33_4 := blk_frozen BK113.out 4
                      go_wp2_with (first | ((with_reducible refine gate_callee (f := 46) rfl ?_); refine goesL_ (some 49) rfl rfl Tryd.func46 (by kernel_rfl) rfl #[.int .i64 a0_1, .int .i64 1, .int .i64 12] rfl (by (try simp only [List.map_toArray, List.map_cons, List.map_nil]); first | done | rfl | (simp only [List.length_drop, List.length_take]; rfl)) ?_; (with_reducible refine (posix_within.calls a0_1 1 12 true _ A28.out).mono ?_); rintro e w' ⟨rfl, ⟨nd, rfl⟩⟩; refine ⟨_, rfl, ?_⟩) | (go_at_call 46; (with_reducible refine (posix_within.calls a0_2 1 5 true _ A30.out).mono ?_); rintro e w' ⟨rfl, ⟨nd, rfl⟩⟩) | (go_at_call 46; (with_reducible refine (posix_within.calls a0_3 0 6 t120 _ A32.out).mono ?_); rintro e w' ⟨rfl, ⟨nd, rfl⟩⟩))
                      go_ret
                      exact ⟨by first | rfl | (simp [errW_none, errW_some] <;> rfl) | (simp [*, errW_none, errW_some] <;> rfl), by repeat (first | (with_reducible first | exact HB.out | apply below_alloc | apply pw_below_drewN | apply below_drew1 | refine below_set ?_ GE113.out) | exact HB.out)⟩
                    · replace c31 := Bool.eq_false_iff.mpr c31
                      subst c31
                      have H1 : (some false) = some r := by rw [if_neg (show ¬ (false = true) by decide)] at H; exact H
                      clear H
                      have H := H1
                      clear H1
                      obtain rfl := Option.some.inj H
                      have hcz34_0 : wc.cell? ⟨gb113, 0, none⟩ = some (.int .i64 a0_0) := (blk_cell BK113.out 0).trans rfl
                      have hcz34_1 : wc.cell? ⟨gb113, 1, none⟩ = some (.int .i64 a0_1) := (blk_cell BK113.out 1).trans rfl
                      have hcz34_2 : wc.cell? ⟨gb113, 2, none⟩ = some (.int .i64 a0_2) := (blk_cell BK113.out 2).trans rfl
                      have hcz34_3 : wc.cell? ⟨gb113, 3, none⟩ = some (.int .i64 a0_3) := (blk_cell BK113.out 3).trans rfl
                      have hcz34_4 : wc.cell? ⟨gb113, 4, none⟩ = some (.int .i64 a0_4) := (blk_cell BK113.out 4).trans rfl
                      have hfz34_0 := blk_frozen BK113.out 0
                      have hfz34_1 := blk_frozen BK113.out 1
                      have hfz34_2 := blk_frozen BK113.out 2
                      have hfz34_3 := blk_frozen BK113.out 3
                      have hfz34_4 := blk_frozen BK113.out 4
                      go_wp2_with (first | ((with_reducible refine gate_callee (f := 46) rfl ?_); refine goesL_ (some 49) rfl rfl Tryd.func46 (by kernel_rfl) rfl #[.int .i64 a0_1, .int .i64 1, .int .i64 12] rfl (by (try simp only [List.map_toArray, List.map_cons, List.map_nil]); first | done | rfl | (simp only [List.length_drop, List.length_take]; rfl)) ?_; (with_reducible refine (posix_within.calls a0_1 1 12 true _ A28.out).mono ?_); rintro e w' ⟨rfl, ⟨nd, rfl⟩⟩; refine ⟨_, rfl, ?_⟩) | (go_at_call 46; (with_reducible refine (posix_within.calls a0_2 1 5 false _ A30.out).mono ?_); rintro e w' ⟨rfl, ⟨nd, rfl⟩⟩))
                      go_ret
                      exact ⟨by first | rfl | (simp [errW_none, errW_some] <;> rfl) | (simp [*, errW_none, errW_some] <;> rfl), by repeat (first | (with_reducible first | exact HB.out | apply below_alloc | apply pw_below_drewN | apply below_drew1 | refine below_set ?_ GE113.out) | exact HB.out)⟩
                  · replace c29 := Bool.eq_false_iff.mpr c29
                    subst c29
                    have H1 : (some false) = some r := by rw [if_neg (show ¬ (false = true) by decide)] at H; exact H
                    clear H
                    have H := H1
                    clear H1
                    obtain rfl := Option.some.inj H
                    have hcz35_0 : wc.cell? ⟨gb113, 0, none⟩ = some (.int .i64 a0_0) := (blk_cell BK113.out 0).trans rfl
                    have hcz35_1 : wc.cell? ⟨gb113, 1, none⟩ = some (.int .i64 a0_1) := (blk_cell BK113.out 1).trans rfl
                    have hcz35_2 : wc.cell? ⟨gb113, 2, none⟩ = some (.int .i64 a0_2) := (blk_cell BK113.out 2).trans rfl
                    have hcz35_3 : wc.cell? ⟨gb113, 3, none⟩ = some (.int .i64 a0_3) := (blk_cell BK113.out 3).trans rfl
                    have hcz35_4 : wc.cell? ⟨gb113, 4, none⟩ = some (.int .i64 a0_4) := (blk_cell BK113.out 4).trans rfl
                    have hfz35_0 := blk_frozen BK113.out 0
                    have hfz35_1 := blk_frozen BK113.out 1
                    have hfz35_2 := blk_frozen BK113.out 2
                    have hfz35_3 := blk_frozen BK113.out 3
                    have hfz35_4 := blk_frozen BK113.out 4
                    go_wp2_with (first | ((with_reducible refine gate_callee (f := 46) rfl ?_); refine goesL_ (some 49) rfl rfl Tryd.func46 (by kernel_rfl) rfl #[.int .i64 a0_1, .int .i64 1, .int .i64 12] rfl (by (try simp only [List.map_toArray, List.map_cons, List.map_nil]); first | done | rfl | (simp only [List.length_drop, List.length_take]; rfl)) ?_; (with_reducible refine (posix_within.calls a0_1 1 12 false _ A28.out).mono ?_); rintro e w' ⟨rfl, ⟨nd, rfl⟩⟩; refine ⟨_, rfl, ?_⟩))
                    go_ret
                    exact ⟨by first | rfl | (simp [errW_none, errW_some] <;> rfl) | (simp [*, errW_none, errW_some] <;> rfl), by repeat (first | (with_reducible first | exact HB.out | apply below_alloc | apply pw_below_drewN | apply below_drew1 | refine below_set ?_ GE113.out) | exact HB.out)⟩
                · rw [if_neg c27] at H
                  have c27b0 : (a0_0 == 3) = false := beq_eq_false_iff_ne.mpr c27
                  have c27b1 : (a0_0 != 3) = true := bne_iff_ne.mpr c27
                  obtain rfl := Option.some.inj H
                  have hcz36_0 : wc.cell? ⟨gb113, 0, none⟩ = some (.int .i64 a0_0) := (blk_cell BK113.out 0).trans rfl
                  have hcz36_1 : wc.cell? ⟨gb113, 1, none⟩ = some (.int .i64 a0_1) := (blk_cell BK113.out 1).trans rfl
                  have hcz36_2 : wc.cell? ⟨gb113, 2, none⟩ = some (.int .i64 a0_2) := (blk_cell BK113.out 2).trans rfl
                  have hcz36_3 : wc.cell? ⟨gb113, 3, none⟩ = some (.int .i64 a0_3) := (blk_cell BK113.out 3).trans rfl
                  have hcz36_4 : wc.cell? ⟨gb113, 4, none⟩ = some (.int .i64 a0_4) := (blk_cell BK113.out 4).trans rfl
                  have hfz36_0 := blk_frozen BK113.out 0
                  have hfz36_1 := blk_frozen BK113.out 1
                  have hfz36_2 := blk_frozen BK113.out 2
                  have hfz36_3 := blk_frozen BK113.out 3
                  have hfz36_4 := blk_frozen BK113.out 4
                  go_wp2
                  go_ret
                  exact ⟨by first | rfl | (simp [errW_none, errW_some] <;> rfl) | (simp [*, errW_none, errW_some] <;> rfl), by repeat (first | (with_reducible first | exact HB.out | apply below_alloc | apply pw_below_drewN | apply below_drew1 | refine below_set ?_ GE113.out) | exact HB.out)⟩
end Go.Proofs.YtgbehcahdgamoaaDoor.Fn
