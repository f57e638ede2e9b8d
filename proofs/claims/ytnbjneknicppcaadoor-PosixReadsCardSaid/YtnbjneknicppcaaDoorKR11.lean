/- Part 11 of the texts for KTR: contracts and plain laws that it leans on. -/
import Derived.Test.YtnbjneknicppcaaDoorKR9
import Derived.Test.YtnbjneknicppcaaDoorKR10
import Derived.Test.YtnbjneknicppcaaDoorProg
import Derived.ProofKit
import Derived.OpenShut
import Derived.ShutString
import Derived.WalkKit
import Derived.Test.YtnbjneknicppcaaDoorKR3
import Derived.Test.YtnbjneknicppcaaDoorRows
import Derived.Stop.LaidErr
import Derived.LaidMore
import Derived.KernelRfl
namespace Go.Proofs.YtnbjneknicppcaaDoor.Fn
set_option linter.unusedVariables false
set_option linter.unusedSimpArgs false
open Go.RowKit Go.Proofs.YtnbjneknicppcaaDoorW.PrintWords Go.Proofs.YtnbjneknicppcaaDoorW.PrintLast Go.Proofs.YtnbjneknicppcaaDoorW.PrintMore
theorem tkTime_le {sg w : Bool} {l l' : List UInt8} {n : Int} (h : tkTime sg w l = some (n, l')) : -10000000 ≤ n ∧ n ≤ 10000000 := by
  have hm : (if w = true then 3 else 2) ≤ 3 := by split <;> decide
  have hsg : signOf sg l = 1 ∨ signOf sg l = -1 := by unfold signOf; split <;> (try split) <;> simp
  unfold tkTime at h
  generalize (if w = true then (167 : Int) else 24) = top at h
  generalize (if w = true then 3 else 2) = many at h hm
  generalize signOf sg l = g at h hsg
  cases h1 : tkNum many (signRest sg l) with
  | none => rw [h1] at h; cases h
  | some z =>
    obtain ⟨z1, z2⟩ := z
    have hz1 := tkNum_le hm h1
    rw [h1, Option.bind_some] at h
    by_cases hz : z1 ≤ top
    · rw [if_pos hz] at h
      cases h2 : tkSixty z2 with
      | none => simp only [h2] at h; cases h
      | some y =>
        obtain ⟨y1, y2, y3⟩ := y
        have hy := (tkSixty_short h2).1
        simp only [h2, Option.bind_some] at h
        cases y2
        · simp only [Bool.false_eq_true, if_false, Option.some.injEq, Prod.mk.injEq] at h
          rcases hsg with rfl | rfl <;> omega
        · simp only [if_true] at h
          cases h3 : tkSixty y3 with
          | none => rw [h3] at h; cases h
          | some x =>
            obtain ⟨x1, x2, x3⟩ := x
            have hx := (tkSixty_short h3).1
            simp only [h3, Option.bind_some, Option.some.injEq, Prod.mk.injEq] at h
            rcases hsg with rfl | rfl <;> omega
    · rw [if_neg hz] at h; cases h
theorem tkChg_suf {w : Bool} {l l' : List UInt8} {c : Chg} (h : tkChg w l = some (c, l')) : l' <:+ l := by
  have hh : howRest l.tail <:+ l := by
    have : howRest l.tail <:+ l.tail := by
      unfold howRest
      split
      · exact List.tail_suffix _
      · split
        · exact List.tail_suffix _
        · exact List.suffix_refl _
    exact this.trans (List.tail_suffix _)
  unfold tkChg at h
  by_cases h44 : eats 44 l = true
  · rw [if_pos h44] at h
    cases h1 : tkNum 3 (howRest l.tail) with
    | none => rw [h1] at h; cases h
    | some z =>
      rw [h1, Option.bind_some] at h
      have s1 := (tkNum_suf (l' := z.2) (n := z.1) h1).trans hh
      obtain ⟨q, hq, hqs⟩ : ∃ q : Int × Int × List UInt8, (if howOf l.tail = 3 then (tkDot z.2).bind fun w => (tkDot w.2).bind fun d => some (w.1, d.1, d.2) else some (0, 0, z.2)) = some q ∧ q.2.2 <:+ l := by
        by_cases h3 : howOf l.tail = 3
        · rw [if_pos h3] at h ⊢
          cases h4 : tkDot z.2 with
          | none => rw [h4] at h; cases h
          | some w =>
            rw [h4, Option.bind_some] at h
            rw [Option.bind_some]
            cases h5 : tkDot w.2 with
            | none => rw [h5] at h; cases h
            | some d => exact ⟨_, rfl, ((tkDot_suf (n := d.1) (l' := d.2) h5).trans (tkDot_suf (n := w.1) (l' := w.2) h4)).trans s1⟩
        · rw [if_neg h3]; exact ⟨_, rfl, s1⟩
      rw [hq, Option.bind_some] at h
      by_cases h47 : eats 47 q.2.2 = true
      · rw [if_pos h47] at h
        cases h6 : tkTime w w q.2.2.tail with
        | none => rw [h6] at h; cases h
        | some t =>
          rw [h6, Option.bind_some] at h
          simp only [Option.some.injEq, Prod.mk.injEq] at h
          rw [← h.2]
          exact ((tkTime_suf (n := t.1) (l' := t.2) h6).trans (List.tail_suffix _)).trans hqs
      · rw [if_neg h47] at h
        simp only [Option.some.injEq, Prod.mk.injEq] at h
        rw [← h.2]
        exact hqs
  · rw [if_neg h44] at h; cases h
def encP : Option Rul → Int × Bool × ByteArray × Int × Bool × ByteArray × Bool × Int × Int × Int × Int × Int × Int × Int × Int × Int × Int × Bool
  | some r => (r.std.off, r.std.dst, r.std.name, r.dst.off, r.dst.dst, r.dst.name, r.both, r.st.how, r.st.n, r.st.week, r.st.wday, r.st.time, r.en.how, r.en.n, r.en.week, r.en.wday, r.en.time, true)
  | none => (0, false, emptyS, 0, false, emptyS, false, 0, 0, 0, 0, 0, 0, 0, 0, 0, 0, false)
theorem right_no {r : Rul} {wide : Bool} (hb : r.both = true) (h : chgB r.st.how r.st.n r.st.week r.st.wday r.st.time wide = false ∨ chgB r.en.how r.en.n r.en.week r.en.wday r.en.time wide = false) : r.right wide = false := by
  unfold Rul.right rightB
  rw [if_pos hb]
  rcases h with h | h
  · rw [h]; simp
  · rw [h]; simp
theorem refParse_j1 (s : ByteArray) (hs : s.size ≤ 1000) (k : Nat) (wide : Bool) (i : Int) (l : List UInt8) (hr : Rest s i l) (b1 : Int) (n1 : ByteArray) (o1 : Int) (n2 : ByteArray) :
    longcaseref08_Parse.j1 (k + 30) s wide i b1 false n1 o1 true n2 true 0 0 0 0 0 0 0 0 0 0 =
      some (encP ((tkChg wide l).bind fun s_ => (tkChg wide s_.2).bind fun e =>
      if e.2 = [] then (if (⟨⟨b1, false, n1⟩, ⟨o1, true, n2⟩, true, s_.1, e.1⟩ : Rul).right wide = true then some ⟨⟨b1, false, n1⟩, ⟨o1, true, n2⟩, true, s_.1, e.1⟩ else none) else none)) := by
  rw [longcaseref08_Parse.j1]
  obtain ⟨⟨v1, v2, v3, v4, v5, v6⟩, hw1, hw2⟩ := refWhen_eq s hs (k + 7) i l hr wide
  rw [show k + 29 = k + 7 + 22 from rfl, hw1]
  simp only [Option.bind_some]
  unfold WhenOK at hw2
  cases hx : tkChg wide l with
  | none =>
    rw [hx] at hw2
    simp only at hw2
    have hneg : v6 < 0 := by omega
    simp only [hneg, if_true, Option.bind_none]
    rfl
  | some z =>
    obtain ⟨c, l'⟩ := z
    rw [hx] at hw2
    simp only [Option.bind_some] at hw2 ⊢
    cases hc : chgB c.how c.n c.week c.wday c.time wide
    · simp only [hc, Bool.false_eq_true, if_false] at hw2
      have hneg : v6 < 0 := by omega
      simp only [hneg, if_true]
      have : ((tkChg wide l').bind fun e => if e.2 = [] then (if (⟨⟨b1, false, n1⟩, ⟨o1, true, n2⟩, true, c, e.1⟩ : Rul).right wide = true then some (⟨⟨b1, false, n1⟩, ⟨o1, true, n2⟩, true, c, e.1⟩ : Rul) else none) else none) = none := by
        cases tkChg wide l' with
        | none => rfl
        | some e =>
          rw [Option.bind_some, right_no (r := ⟨⟨b1, false, n1⟩, ⟨o1, true, n2⟩, true, c, e.1⟩) rfl (.inl hc)]
          simp
      rw [this]
      rfl
    · simp only [hc, if_true, Prod.mk.injEq] at hw2
      obtain ⟨rfl, rfl, rfl, rfl, rfl, rfl⟩ := hw2
      have hr2 : Rest s ((s.size : Int) - l'.length) l' := hr.of_suf (by
        have := hx
        exact tkChg_suf this)
      have hnn := hr2.nn
      have hneg : ¬ (s.size : Int) - l'.length < 0 := by omega
      simp only [hneg, if_false]
      obtain ⟨⟨u1, u2, u3, u4, u5, u6⟩, hu1, hu2⟩ := refWhen_eq s hs (k + 7) _ l' hr2 wide
      rw [hu1]
      simp only [Option.bind_some]
      rw [show k + 7 + 22 = k + 6 + 23 from rfl, refRight_eq]
      simp only [Option.bind_some]
      unfold WhenOK at hu2
      cases hy : tkChg wide l' with
      | none =>
        rw [hy] at hu2
        simp only at hu2
        have hne : ¬ u6 = (s.size : Int) := by omega
        simp only [hne, if_false, Option.bind_none]
        rfl
      | some e =>
        obtain ⟨d, l''⟩ := e
        rw [hy] at hu2
        simp only [Option.bind_some] at hu2 ⊢
        cases hd : chgB d.how d.n d.week d.wday d.time wide
        · simp only [hd, Bool.false_eq_true, if_false] at hu2
          have hne : ¬ u6 = (s.size : Int) := by omega
          rw [right_no (r := ⟨⟨b1, false, n1⟩, ⟨o1, true, n2⟩, true, c, d⟩) rfl (.inr hd)]
          simp only [hne, Bool.false_eq_true, if_false, ite_self]
          rfl
        · simp only [hd, if_true, Prod.mk.injEq] at hu2
          obtain ⟨rfl, rfl, rfl, rfl, rfl, rfl⟩ := hu2
          have hR : rightB b1 false n1 o1 true n2 true c.how c.n c.week c.wday c.time d.how d.n d.week d.wday d.time wide = (⟨⟨b1, false, n1⟩, ⟨o1, true, n2⟩, true, c, d⟩ : Rul).right wide := rfl
          rw [hR]
          by_cases he : l'' = []
          · subst he
            have hq : (s.size : Int) - (([] : List UInt8).length : Int) = s.size := by simp
            simp only [hq, if_true]
            cases (⟨⟨b1, false, n1⟩, ⟨o1, true, n2⟩, true, c, d⟩ : Rul).right wide
            · rfl
            · rfl
          · have hq : ¬ (s.size : Int) - (l''.length : Int) = s.size := by have := List.length_pos_iff.2 he; omega
            simp only [hq, he, if_false]
            rfl
theorem tkOff_nil (b : Int) : tkOff b [] = none := rfl
theorem refParse_j0 (s : ByteArray) (hs : s.size ≤ 1000) (k : Nat) (wide : Bool) (i : Int) (l : List UInt8) (hr : Rest s i l) (b1 : Int) (n1 : ByteArray) (n2 : ByteArray) :
    longcaseref08_Parse.j0 (k + 31) s wide i (decide (i ≥ (s.size : Int))) b1 false n1 (b1 + 3600) true n2 true 0 0 0 0 0 0 0 0 0 0 =
      some (encP ((tkOff b1 l).bind fun o => (tkChg wide o.2).bind fun s_ => (tkChg wide s_.2).bind fun e =>
      if e.2 = [] then (if (⟨⟨b1, false, n1⟩, ⟨o.1, true, n2⟩, true, s_.1, e.1⟩ : Rul).right wide = true then some ⟨⟨b1, false, n1⟩, ⟨o.1, true, n2⟩, true, s_.1, e.1⟩ else none) else none)) := by
  rw [longcaseref08_Parse.j0]
  cases l with
  | nil =>
    have h : decide (i ≥ (s.size : Int)) = true := by have := hr.end_; simp; omega
    rw [h, if_pos rfl, tkOff_nil]
    rfl
  | cons c u =>
    have hlt := hr.lt
    have h : decide (i ≥ (s.size : Int)) = false := by simp; omega
    have hff : ¬ (false = true) := by decide
    rw [h, if_neg hff, if_pos hr.nn, if_pos hlt]
    have e44 := eats_bt hr 44
    simp only [show ((44 : UInt8).toNat : Int) = 44 from rfl] at e44
    unfold tkOff
    by_cases h44 : bt s i = 44
    · have e : eats 44 (c :: u) = true := by rw [← e44]; simpa using h44
      rw [if_pos h44, e, refParse_j1 s hs k wide i _ hr]
      simp only [if_true, Option.bind_some]
    · have e : eats 44 (c :: u) = false := by rw [← e44]; simpa using h44
      rw [if_neg h44, e, show k + 30 = k + 19 + 11 from rfl, refTime_eq s hs (k + 19) i _ hr]
      simp only [Option.bind_some, Bool.false_eq_true, if_false]
      cases hx : tkTime true false (c :: u) with
      | none =>
        have : ((-1 : Int) < 0) := by decide
        simp only [encN, this, if_true]
        rfl
      | some z =>
        obtain ⟨m, l'⟩ := z
        have hm := tkTime_le hx
        have hr2 := hr.of_suf (tkTime_suf hx)
        have hng : ¬ (s.size : Int) - (l'.length : Int) < 0 := by have := hr2.nn; omega
        simp only [encN, hng, if_false, Option.bind_some]
        rw [w64 ⟨by omega, by omega⟩, show k + 19 + 11 = k + 30 from rfl, refParse_j1 s hs k wide _ _ hr2]
theorem refParse_eq (s : ByteArray) (hs : s.size ≤ 1000) (K : Nat) (hK : 1100 ≤ K) (wide : Bool) : longcaseref08_Parse.f K s wide = some (encP (tkRule wide s.data.toList)) := by
  obtain ⟨k, rfl⟩ : ∃ k, K = k + 1100 := ⟨K - 1100, by omega⟩
  have hlen : s.data.toList.length = s.size := Array.length_toList ..
  have hr : Rest s 0 s.data.toList := ⟨List.suffix_refl _, by omega⟩
  generalize s.data.toList = l at hr hlen
  unfold longcaseref08_Parse.f tkRule
  rw [refWord_eq s hs _ 0 l hr (by omega)]
  simp only [Option.bind_some]
  have hm1 : ((-1 : Int) < 0) := by decide
  cases hx : tkName l with
  | none => simp only [encW, hm1, if_true]; rfl
  | some a =>
    obtain ⟨a1, a2⟩ := a
    have hr2 := hr.of_suf (tkName_suf hx)
    have hng : ¬ (s.size : Int) - (a2.length : Int) < 0 := by have := hr2.nn; omega
    simp only [encW, hng, if_false, Option.bind_some]
    rw [show k + 1100 = k + 1089 + 11 from rfl, refTime_eq s hs (k + 1089) _ a2 hr2]
    simp only [Option.bind_some]
    cases hy : tkTime true false a2 with
    | none => simp only [encN, hm1, if_true]; rfl
    | some b =>
      obtain ⟨b1, b2⟩ := b
      have hb1 := tkTime_le hy
      have hr3 := hr2.of_suf (tkTime_suf hy)
      have hng3 : ¬ (s.size : Int) - (b2.length : Int) < 0 := by have := hr3.nn; omega
      simp only [encN, hng3, if_false, Option.bind_some]
      have hw1 : wrap64 (-b1) = -b1 := w64 ⟨by omega, by omega⟩
      have hw2 : wrap64 (-b1 + 3600) = -b1 + 3600 := w64 ⟨by omega, by omega⟩
      rw [hw1, hw2]
      by_cases he : b2 = []
      · subst he
        have hq : (s.size : Int) - (([] : List UInt8).length : Int) = s.size := by simp
        simp only [hq, if_true]
        rfl
      · have hq : ¬ (s.size : Int) - (b2.length : Int) = s.size := by have := List.length_pos_iff.2 he; omega
        simp only [hq, he, if_false]
        rw [show k + 1089 + 11 = k + 1100 from rfl, refWord_eq s hs _ _ b2 hr3 (by have := hr3.len; omega)]
        simp only [Option.bind_some]
        cases hz : tkName b2 with
        | none =>
          simp only [encW, hm1, if_true, Option.bind_none]
          rw [longcaseref08_Parse.j0, if_pos rfl]
          rfl
        | some c =>
          obtain ⟨c1, c2⟩ := c
          have hr4 := hr3.of_suf (tkName_suf hz)
          have hng4 : ¬ (s.size : Int) - (c2.length : Int) < 0 := by have := hr4.nn; omega
          simp only [encW, hng4, if_false, Option.bind_some]
          exact refParse_j0 s hs (k + 1069) wide _ c2 hr4 (-b1) (Tx a1) (Tx c1)
end Go.Proofs.YtnbjneknicppcaaDoor.Fn

namespace Go.Proofs.YtnbjneknicppcaaDoor.Open
set_option maxRecDepth 100000
open Go.ChangeShapes Go.WideShapes Go.ChangeAt Go.RowKit
section
variable {H : Type} {enc : TypeId × Value → H} {w : World} {base : Nat} {spare : Nat → Bool} {held : Bool}
theorem c_int : Tryd.prog.cellsOf 3 = 1 := by kernel_rfl
theorem c_bool : Tryd.prog.cellsOf 4 = 1 := by kernel_rfl
theorem c_string : Tryd.prog.cellsOf 9 = 1 := by kernel_rfl
theorem c_kind : Tryd.prog.cellsOf 23 = 3 := by kernel_rfl
theorem c_change : Tryd.prog.cellsOf 25 = 5 := by kernel_rfl
theorem c_rule : Tryd.prog.cellsOf 27 = 17 := by kernel_rfl
def WfI (n : Int) : Prop := (Lit.int .i64 n).wf = true
theorem kind_of {fuel : Nat} {c0 c1 c2 : Value} {x : DataW H × List MemPlace} (h : DataW.trod enc Tryd.prog w base spare held fuel 23 [c0, c1, c2] = some x) :
    ∃ (o : Int) (d : Bool) (s : ByteArray), c0 = .int .i64 o ∧ c1 = .bool d ∧ c2 = .string s ∧ WfI o ∧ s.size ≤ maxLen := by
  obtain ⟨xs, n, _, hx, _, hlen, hg⟩ := DataW.trod_struct Tryd.underlying23 h
  match xs, hlen with
  | [y0, y1, y2], _ =>
    have h0 : DataW.trod enc Tryd.prog w base spare held n 3 [c0] = some y0 := by simpa [c_int] using hg 0 _ rfl
    have h1 : DataW.trod enc Tryd.prog w base spare held n 4 [c1] = some y1 := by simpa [c_bool] using hg 1 _ rfl
    have h2 : DataW.trod enc Tryd.prog w base spare held n 9 [c2] = some y2 := by simpa [c_string] using hg 2 _ rfl
    obtain ⟨o, e0, _, wo⟩ := DataW.trod_int Tryd.underlying3 h0
    obtain ⟨d, e1, _⟩ := DataW.trod_bool Tryd.underlying4 h1
    obtain ⟨s, e2, _, ws⟩ := DataW.trod_string Tryd.underlying9 h2
    simp at e0 e1 e2
    exact ⟨o, d, s, e0, e1, e2, wo, ws⟩
theorem change_of {fuel : Nat} {c0 c1 c2 c3 c4 : Value} {x : DataW H × List MemPlace} (h : DataW.trod enc Tryd.prog w base spare held fuel 25 [c0, c1, c2, c3, c4] = some x) :
    ∃ (n0 n1 n2 n3 n4 : Int), c0 = .int .i64 n0 ∧ c1 = .int .i64 n1 ∧ c2 = .int .i64 n2 ∧ c3 = .int .i64 n3 ∧ c4 = .int .i64 n4 ∧ WfI n0 ∧ WfI n1 ∧ WfI n2 ∧ WfI n3 ∧ WfI n4 := by
  obtain ⟨xs, n, _, hx, _, hlen, hg⟩ := DataW.trod_struct Tryd.underlying25 h
  match xs, hlen with
  | [y0, y1, y2, y3, y4], _ =>
    have h0 : DataW.trod enc Tryd.prog w base spare held n 3 [c0] = some y0 := by simpa [c_int] using hg 0 _ rfl
    have h1 : DataW.trod enc Tryd.prog w base spare held n 3 [c1] = some y1 := by simpa [c_int] using hg 1 _ rfl
    have h2 : DataW.trod enc Tryd.prog w base spare held n 3 [c2] = some y2 := by simpa [c_int] using hg 2 _ rfl
    have h3 : DataW.trod enc Tryd.prog w base spare held n 3 [c3] = some y3 := by simpa [c_int] using hg 3 _ rfl
    have h4 : DataW.trod enc Tryd.prog w base spare held n 3 [c4] = some y4 := by simpa [c_int] using hg 4 _ rfl
    obtain ⟨n0, e0, _, w0⟩ := DataW.trod_int Tryd.underlying3 h0
    obtain ⟨n1, e1, _, w1⟩ := DataW.trod_int Tryd.underlying3 h1
    obtain ⟨n2, e2, _, w2⟩ := DataW.trod_int Tryd.underlying3 h2
    obtain ⟨n3, e3, _, w3⟩ := DataW.trod_int Tryd.underlying3 h3
    obtain ⟨n4, e4, _, w4⟩ := DataW.trod_int Tryd.underlying3 h4
    simp at e0 e1 e2 e3 e4
    exact ⟨n0, n1, n2, n3, n4, e0, e1, e2, e3, e4, w0, w1, w2, w3, w4⟩
theorem open_rule {r : Reach} {b0 : Nat} {v : Value} {d : DataW H} {p : List MemPlace} (hv : Value.okWide Tryd.prog w r b0 27 v) (h : DataW.Trod enc Tryd.prog w base spare held 27 v d p) :
    ∃ (s0 : Int) (s1 : Bool) (s2 : ByteArray) (d0 : Int) (d1 : Bool) (d2 : ByteArray) (bo : Bool) (a0 : Int) (a1 : Int) (a2 : Int) (a3 : Int) (a4 : Int) (e0 : Int) (e1 : Int) (e2 : Int) (e3 : Int) (e4 : Int), v = .agg #[.int .i64 s0, .bool s1, .string s2, .int .i64 d0, .bool d1, .string d2, .bool bo, .int .i64 a0, .int .i64 a1, .int .i64 a2, .int .i64 a3, .int .i64 a4, .int .i64 e0, .int .i64 e1, .int .i64 e2, .int .i64 e3, .int .i64 e4] ∧ (WfI s0 ∧ s2.size ≤ maxLen ∧ WfI d0 ∧ d2.size ≤ maxLen) ∧ (WfI a0 ∧ WfI a1 ∧ WfI a2 ∧ WfI a3 ∧ WfI a4) ∧ (WfI e0 ∧ WfI e1 ∧ WfI e2 ∧ WfI e3 ∧ WfI e4) := by
  obtain ⟨cs, rfl, hsz⟩ := okWide_struct Tryd.underlying27 hv
  obtain ⟨l⟩ := cs
  match l, hsz.trans c_rule with
  | [b0, b1, b2, b3, b4, b5, b6, b7, b8, b9, b10, b11, b12, b13, b14, b15, b16], _ =>
    obtain ⟨fuel, hf⟩ := h
    obtain ⟨xs, n, _, hx, _, hlen, hg⟩ := DataW.trod_struct Tryd.underlying27 hf
    match xs, hlen with
    | [y0, y1, y2, y3, y4], _ =>
      have h0 : DataW.trod enc Tryd.prog w base spare held n 23 [b0, b1, b2] = some y0 := by simpa [c_kind, Value.cells] using hg 0 _ rfl
      have h1 : DataW.trod enc Tryd.prog w base spare held n 23 [b3, b4, b5] = some y1 := by simpa [c_kind, Value.cells] using hg 1 _ rfl
      have h2 : DataW.trod enc Tryd.prog w base spare held n 4 [b6] = some y2 := by simpa [c_bool, Value.cells] using hg 2 _ rfl
      have h3 : DataW.trod enc Tryd.prog w base spare held n 25 [b7, b8, b9, b10, b11] = some y3 := by simpa [c_change, Value.cells] using hg 3 _ rfl
      have h4 : DataW.trod enc Tryd.prog w base spare held n 25 [b12, b13, b14, b15, b16] = some y4 := by simpa [c_change, Value.cells] using hg 4 _ rfl
      obtain ⟨s0, s1, s2, rfl, rfl, rfl, ws0, ws2⟩ := kind_of h0
      obtain ⟨d0, d1, d2, rfl, rfl, rfl, wd0, wd2⟩ := kind_of h1
      obtain ⟨bo, e2, _⟩ := DataW.trod_bool Tryd.underlying4 h2
      simp at e2
      subst e2
      obtain ⟨a0, a1, a2, a3, a4, rfl, rfl, rfl, rfl, rfl, wa⟩ := change_of h3
      obtain ⟨e0, e1, e2, e3, e4, rfl, rfl, rfl, rfl, rfl, we⟩ := change_of h4
      exact ⟨s0, s1, s2, d0, d1, d2, bo, a0, a1, a2, a3, a4, e0, e1, e2, e3, e4, rfl, ⟨ws0, ws2, wd0, wd2⟩, wa, we⟩
end
end Go.Proofs.YtnbjneknicppcaaDoor.Open

namespace Go.Proofs.YtnbjneknicppcaaDoor.Open
open Go.RowKit
theorem row8 (u : TypeId) (h : Tryd.prog.typeName? 3 u = some "*errors.errorString") : u = 136 :=
  typeName_ptr_named (nm := "errors.errorString") (by kernel_rfl) (by kernel_rfl) (by decide) u h
theorem tab8 : Rows.laid_internal_strconv_uint64pow10 (H := Unit) = Lib.tabData .u64 Lib.pow10Tab := by kernel_rfl
theorem g8_of {W : World} (h : laidMet Tryd.prog [("math/bits.deBruijn32tab", Rows.laid_math_bits_deBruijn32tab), ("math/bits.deBruijn64tab", Rows.laid_math_bits_deBruijn64tab), ("internal/strconv.uint64pow10", Rows.laid_internal_strconv_uint64pow10), ("strconv.ErrRange", Rows.laid_strconv_ErrRange), ("strconv.ErrSyntax", Rows.laid_strconv_ErrSyntax)] W) : Fn.G8 W := by
  have h3 := h.tail.tail
  have h5 := h3.tail.tail
  rw [tab8] at h3
  have hT := Lib.tabIs_of_head Fn.g_tab (show (Tryd.prog.globals[0]?).map (·.type) = some 114 by kernel_rfl) Tryd.underlying114 Tryd.underlying106 (by kernel_rfl) (by kernel_rfl) h3
  obtain ⟨a, s, hv, _, _, _⟩ := laid_sentinel h5 Fn.g_syn (show (Tryd.prog.globals[2]?).map (·.type) = some 77 by kernel_rfl) Tryd.underlying77 row8 Tryd.underlying136 Tryd.underlying138 rfl rfl Tryd.underlying9 (by kernel_rfl) (by kernel_rfl)
  exact ⟨hT, _, _, hv⟩
end Go.Proofs.YtnbjneknicppcaaDoor.Open
