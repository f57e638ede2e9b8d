/- Part 2 of the texts for LPosixBack: contracts and plain laws that it leans on. -/
import Derived.Test.YtnbjneknicppcaaDoorProg
import Derived.ProofKit
import Derived.OpenShut
import Derived.ShutString
import Derived.WalkKit
import Derived.Below
import Derived.Deep.Draws
import Derived.Deep.AppendLies
import Derived.Maps.AppendAt
import Derived.OwnWalk
import Derived.Laws.BytesArg
import Derived.Laws.MakeOwn
import Derived.Laws.OwnMore
import Derived.Deep.OwnRows
import Derived.Tactics
import Derived.Lib.ConvBytes
import Derived.Laws.Slices
import Derived.KernelRfl
import Derived.RowKit3
import Derived.Deep.LoopGhost
import Derived.Deep.QuietTactic
import Derived.BigQuiet
import Derived.WideLaws
import Derived.Deep.DeepCutAuto
import Derived.Deep.CutBlock
import Derived.Deep.RegionHeld3
import Derived.Laws.Rows
import Derived.Lib.AppendStr
import Derived.ArgAppend
import Derived.Laws.IdiomCopy
import Derived.OrdersHeld
import Derived.Laws.BitsLemmas
import Derived.RowKit
import Derived.Test.YtnbjneknicppcaaDoorZPosixBack1
import Derived.Shelf.Strings.Builder1
import Derived.Shelf.Small.Strs
import Derived.Shelf.Strings.BuilderF
import Derived.Shelf.Strings.BuilderK
import Derived.Shelf.Strconv.Atoi
import Derived.Shelf.Strconv.Itoa0
import Derived.Shelf.Strconv.Itoa1
import Derived.Shelf.LaysM
import Derived.Shelf.Strconv.Itoa2
import Derived.Shelf.Strconv.Itoa3
import Derived.Shelf.Strconv.AtoiErrFast
import Derived.Shelf.Strconv.ParseIntEmpty
import Derived.Shelf.Strconv.AtoiFail
import Derived.Shelf.Strconv.Clone
import Derived.Shelf.Strconv.SyntaxError
import Derived.Shelf.LaysC
import Derived.Shelf.Strconv.ToError
import Derived.Shelf.Strconv.AtoiErr
import Derived.Shelf.Strconv.ErrVar
import Derived.Shelf.Strconv.Lower
import Derived.Shelf.Strconv.ParseUint10
import Derived.Shelf.Strconv.ParseUint10Empty
import Derived.Shelf.Strconv.ParseUint10Any
import Derived.Shelf.Strconv.ParseInt10
import Derived.Shelf.Strconv.AtoiLong
import Derived.Shelf.Strconv.AtoiInnerAll
import Derived.Shelf.Strconv.RangeError
import Derived.Shelf.Strconv.ToErrorRange
import Derived.Shelf.Strconv.AtoiAll
import Derived.Shelf.Strings.Search1
import Derived.Shelf.Strings.Search2
import Derived.Shelf.Strings.Cut
import Derived.Shelf.Strings.Shaped
import Derived.Shelf.GgClosure.StringsIndexFunc
import Derived.Ground.GgwProg
import Derived.Shelf.GgClosure.StringsIndexFuncTop
import Derived.Shelf.GgClosure.StringsRunes
import Derived.Shelf.Strings.Prefix
import Derived.Shelf.Strings.FuncGrows
import Derived.Shelf.Strings.BuilderCap
import Derived.Laws.RangeAny
import Derived.Laws.RangeString
import Derived.Lib.ItoaNum
import Derived.Lib.Atoi
import Derived.Lib.LaidTab
import Derived.Test.YtnbjneknicppcaaDoorRows
import Derived.Stop.LaidErr
import Derived.LaidMore
import Derived.StillTailTactics
import Derived.Lib.OwnBridge
import Derived.Deep.RegionWith
import Derived.IntWalk
import Derived.Deep.Light
namespace Go.Proofs.YtnbjneknicppcaaDoor.Open
set_option maxRecDepth 100000
open Go.ChangeShapes Go.WideShapes Go.ChangeAt Go.RowKit
section
variable {H : Type} {enc : TypeId × Value → H} {w : World} {base : Nat} {spare : Nat → Bool} {held : Bool}
theorem c_int : Tryd.prog.cellsOf 3 = 1 := by kernel_rfl
theorem c_bool : Tryd.prog.cellsOf 4 = 1 := by kernel_rfl
theorem c_string : Tryd.prog.cellsOf 9 = 1 := by kernel_rfl
theorem c_kind : Tryd.prog.cellsOf 23 = 3 := by kernel_rfl
theorem c_change : Tryd.prog.cellsOf 25 = 5 := by kernel_rfl
theorem c_rule : Tryd.prog.cellsOf 27 = 17 := by kernel_rfl
def WfI (n : Int) : Prop := (Lit.int .i64 n).wf = true
theorem kind_of {fuel : Nat} {c0 c1 c2 : Value} {x : DataW H × List MemPlace} (h : DataW.trod enc Tryd.prog w base spare held fuel 23 [c0, c1, c2] = some x) :
    ∃ (o : Int) (d : Bool) (s : ByteArray), c0 = .int .i64 o ∧ c1 = .bool d ∧ c2 = .string s ∧ WfI o ∧ s.size ≤ maxLen := by
  obtain ⟨xs, n, _, hx, _, hlen, hg⟩ := DataW.trod_struct Tryd.underlying23 h
  match xs, hlen with
  | [y0, y1, y2], _ =>
    have h0 : DataW.trod enc Tryd.prog w base spare held n 3 [c0] = some y0 := by simpa [c_int] using hg 0 _ rfl
    have h1 : DataW.trod enc Tryd.prog w base spare held n 4 [c1] = some y1 := by simpa [c_bool] using hg 1 _ rfl
    have h2 : DataW.trod enc Tryd.prog w base spare held n 9 [c2] = some y2 := by simpa [c_string] using hg 2 _ rfl
    obtain ⟨o, e0, _, wo⟩ := DataW.trod_int Tryd.underlying3 h0
    obtain ⟨d, e1, _⟩ := DataW.trod_bool Tryd.underlying4 h1
    obtain ⟨s, e2, _, ws⟩ := DataW.trod_string Tryd.underlying9 h2
    simp at e0 e1 e2
    exact ⟨o, d, s, e0, e1, e2, wo, ws⟩
theorem change_of {fuel : Nat} {c0 c1 c2 c3 c4 : Value} {x : DataW H × List MemPlace} (h : DataW.trod enc Tryd.prog w base spare held fuel 25 [c0, c1, c2, c3, c4] = some x) :
    ∃ (n0 n1 n2 n3 n4 : Int), c0 = .int .i64 n0 ∧ c1 = .int .i64 n1 ∧ c2 = .int .i64 n2 ∧ c3 = .int .i64 n3 ∧ c4 = .int .i64 n4 ∧ WfI n0 ∧ WfI n1 ∧ WfI n2 ∧ WfI n3 ∧ WfI n4 := by
  obtain ⟨xs, n, _, hx, _, hlen, hg⟩ := DataW.trod_struct Tryd.underlying25 h
  match xs, hlen with
  | [y0, y1, y2, y3, y4], _ =>
    have h0 : DataW.trod enc Tryd.prog w base spare held n 3 [c0] = some y0 := by simpa [c_int] using hg 0 _ rfl
    have h1 : DataW.trod enc Tryd.prog w base spare held n 3 [c1] = some y1 := by simpa [c_int] using hg 1 _ rfl
    have h2 : DataW.trod enc Tryd.prog w base spare held n 3 [c2] = some y2 := by simpa [c_int] using hg 2 _ rfl
    have h3 : DataW.trod enc Tryd.prog w base spare held n 3 [c3] = some y3 := by simpa [c_int] using hg 3 _ rfl
    have h4 : DataW.trod enc Tryd.prog w base spare held n 3 [c4] = some y4 := by simpa [c_int] using hg 4 _ rfl
    obtain ⟨n0, e0, _, w0⟩ := DataW.trod_int Tryd.underlying3 h0
    obtain ⟨n1, e1, _, w1⟩ := DataW.trod_int Tryd.underlying3 h1
    obtain ⟨n2, e2, _, w2⟩ := DataW.trod_int Tryd.underlying3 h2
    obtain ⟨n3, e3, _, w3⟩ := DataW.trod_int Tryd.underlying3 h3
    obtain ⟨n4, e4, _, w4⟩ := DataW.trod_int Tryd.underlying3 h4
    simp at e0 e1 e2 e3 e4
    exact ⟨n0, n1, n2, n3, n4, e0, e1, e2, e3, e4, w0, w1, w2, w3, w4⟩
theorem open_rule {r : Reach} {b0 : Nat} {v : Value} {d : DataW H} {p : List MemPlace} (hv : Value.okWide Tryd.prog w r b0 27 v) (h : DataW.Trod enc Tryd.prog w base spare held 27 v d p) :
    ∃ (s0 : Int) (s1 : Bool) (s2 : ByteArray) (d0 : Int) (d1 : Bool) (d2 : ByteArray) (bo : Bool) (a0 : Int) (a1 : Int) (a2 : Int) (a3 : Int) (a4 : Int) (e0 : Int) (e1 : Int) (e2 : Int) (e3 : Int) (e4 : Int), v = .agg #[.int .i64 s0, .bool s1, .string s2, .int .i64 d0, .bool d1, .string d2, .bool bo, .int .i64 a0, .int .i64 a1, .int .i64 a2, .int .i64 a3, .int .i64 a4, .int .i64 e0, .int .i64 e1, .int .i64 e2, .int .i64 e3, .int .i64 e4] ∧ (WfI s0 ∧ s2.size ≤ maxLen ∧ WfI d0 ∧ d2.size ≤ maxLen) ∧ (WfI a0 ∧ WfI a1 ∧ WfI a2 ∧ WfI a3 ∧ WfI a4) ∧ (WfI e0 ∧ WfI e1 ∧ WfI e2 ∧ WfI e3 ∧ WfI e4) := by
  obtain ⟨cs, rfl, hsz⟩ := okWide_struct Tryd.underlying27 hv
  obtain ⟨l⟩ := cs
  match l, hsz.trans c_rule with
  | [b0, b1, b2, b3, b4, b5, b6, b7, b8, b9, b10, b11, b12, b13, b14, b15, b16], _ =>
    obtain ⟨fuel, hf⟩ := h
    obtain ⟨xs, n, _, hx, _, hlen, hg⟩ := DataW.trod_struct Tryd.underlying27 hf
    match xs, hlen with
    | [y0, y1, y2, y3, y4], _ =>
      have h0 : DataW.trod enc Tryd.prog w base spare held n 23 [b0, b1, b2] = some y0 := by simpa [c_kind, Value.cells] using hg 0 _ rfl
      have h1 : DataW.trod enc Tryd.prog w base spare held n 23 [b3, b4, b5] = some y1 := by simpa [c_kind, Value.cells] using hg 1 _ rfl
      have h2 : DataW.trod enc Tryd.prog w base spare held n 4 [b6] = some y2 := by simpa [c_bool, Value.cells] using hg 2 _ rfl
      have h3 : DataW.trod enc Tryd.prog w base spare held n 25 [b7, b8, b9, b10, b11] = some y3 := by simpa [c_change, Value.cells] using hg 3 _ rfl
      have h4 : DataW.trod enc Tryd.prog w base spare held n 25 [b12, b13, b14, b15, b16] = some y4 := by simpa [c_change, Value.cells] using hg 4 _ rfl
      obtain ⟨s0, s1, s2, rfl, rfl, rfl, ws0, ws2⟩ := kind_of h0
      obtain ⟨d0, d1, d2, rfl, rfl, rfl, wd0, wd2⟩ := kind_of h1
      obtain ⟨bo, e2, _⟩ := DataW.trod_bool Tryd.underlying4 h2
      simp at e2
      subst e2
      obtain ⟨a0, a1, a2, a3, a4, rfl, rfl, rfl, rfl, rfl, wa⟩ := change_of h3
      obtain ⟨e0, e1, e2, e3, e4, rfl, rfl, rfl, rfl, rfl, we⟩ := change_of h4
      exact ⟨s0, s1, s2, d0, d1, d2, bo, a0, a1, a2, a3, a4, e0, e1, e2, e3, e4, rfl, ⟨ws0, ws2, wd0, wd2⟩, wa, we⟩
end
end Go.Proofs.YtnbjneknicppcaaDoor.Open

namespace Go.Proofs.YtnbjneknicppcaaDoor.Fn
open Go.RowKit Go.Proofs.YtnbjneknicppcaaDoorW.PrintWords Go.Proofs.YtnbjneknicppcaaDoorW.PrintLast Go.Proofs.YtnbjneknicppcaaDoorW.PrintMore
attribute [local go_sem] min2_int min_two
set_option linter.unusedVariables false
set_option linter.unusedSimpArgs false
def errW : Option Int → Value
  | none => .nilIface
  | some c => .iface 119 (.int .i64 c)
theorem errW_none : errW none = .nilIface := rfl
theorem errW_some (c : Int) : errW (some c) = .iface 119 (.int .i64 c) := rfl
end Go.Proofs.YtnbjneknicppcaaDoor.Fn

namespace Go.Proofs
open Go.Shelf
def Tryd.lays137_ren : Go.Shelf.Ren := ⟨fun | 137 => 72 | 217 => 80 | 266 => 89 | n => n, fun | 9 => 9 | 5 => 5 | 3 => 3 | n => n, fun | n => n⟩
theorem Tryd.lays137 : Go.Proofs.Lays.n137 Tryd.prog Tryd.lays137_ren := {
  mixed := by kernel_rfl
  f137 := Tryd.func72.trans (congrArg some (by kernel_rfl))
  f217 := Tryd.func80.trans (congrArg some (by kernel_rfl))
  f266 := Tryd.func89.trans (congrArg some (by kernel_rfl))
  t3 := Tryd.underlying3
  a3 := Tryd.isAgg3
  z3 := Tryd.sizeOf3
  v3 := Tryd.zeroValue3
  t5 := Tryd.underlying5
  a5 := Tryd.isAgg5
  z5 := Tryd.sizeOf5
  v5 := Tryd.zeroValue5
  t9 := Tryd.underlying9
  a9 := Tryd.isAgg9
  z9 := Tryd.sizeOf9
  v9 := Tryd.zeroValue9 }
open Go.RowKit in
/-- strings.IndexByte: "IndexByte returns the index of the first instance of c in s, or -1 if c is not present in s.": IT RETURNS 'Lib.indexByte s c'; the world is as it was. (LAID: no walk: one application.) -/
theorem Tryd.strings_IndexByte (s : ByteArray) (c : Int) (w : World) :
    Calls Tryd.prog 72 #[.string s, .int .u8 c] w fun e w' => e = .returned (.int .i64 (Lib.indexByte s.data.toList c.toNat.toUInt8)) ∧ w' = w := Any.strings_IndexByte Tryd.lays137 s c w
def Tryd.lays172_ren : Go.Shelf.Ren := ⟨fun | 172 => 74 | 244 => 82 | 245 => 83 | 247 => 93 | 279 => 94 | 280 => 95 | 281 => 96 | 282 => 97 | 287 => 101 | 316 => 102 | 171 => 45 | 205 => 103 | 321 => 104 | 322 => 105 | 243 => 60 | 246 => 69 | 283 => 75 | 284 => 76 | 285 => 77 | 286 => 78 | 129 => 85 | 317 => 84 | 318 => 86 | 319 => 87 | 320 => 88 | 337 => 98 | 338 => 99 | n => n, fun | 9 => 9 | 3 => 3 | 75 => 77 | 76 => 78 | 4 => 4 | 5 => 5 | 167 => 119 | 37 => 46 | 0 => 0 | 85 => 120 | 2 => 2 | 168 => 122 | 53 => 106 | 175 => 128 | 46 => 117 | 210 => 131 | 127 => 82 | 145 => 138 | 143 => 136 | 21 => 21 | 171 => 105 | 173 => 109 | 212 => 114 | 51 => 115 | 20 => 20 | 213 => 116 | 232 => 133 | 233 => 134 | 80 => 58 | n => n, fun | 15 => 2 | 16 => 3 | 17 => 0 | 18 => 4 | 19 => 5 | n => n⟩
theorem Tryd.lays172 : Go.Proofs.Lays.n172 Tryd.prog Tryd.lays172_ren := {
  mixed := by kernel_rfl
  f129 := Tryd.func85.trans (congrArg some (by kernel_rfl))
  f171 := Tryd.func45.trans (congrArg some (by kernel_rfl))
  f172 := Tryd.func74.trans (congrArg some (by kernel_rfl))
  f205 := Tryd.func103.trans (congrArg some (by kernel_rfl))
  f243 := Tryd.func60.trans (congrArg some (by kernel_rfl))
  f244 := Tryd.func82.trans (congrArg some (by kernel_rfl))
  f245 := Tryd.func83.trans (congrArg some (by kernel_rfl))
  f246 := Tryd.func69.trans (congrArg some (by kernel_rfl))
  f247 := Tryd.func93.trans (congrArg some (by kernel_rfl))
  f279 := Tryd.func94.trans (congrArg some (by kernel_rfl))
  f280 := Tryd.func95.trans (congrArg some (by kernel_rfl))
  f281 := Tryd.func96.trans (congrArg some (by kernel_rfl))
  f282 := Tryd.func97.trans (congrArg some (by kernel_rfl))
  f283 := Tryd.func75.trans (congrArg some (by kernel_rfl))
  f284 := Tryd.func76.trans (congrArg some (by kernel_rfl))
  f285 := Tryd.func77.trans (congrArg some (by kernel_rfl))
  f286 := Tryd.func78.trans (congrArg some (by kernel_rfl))
  f287 := Tryd.func101.trans (congrArg some (by kernel_rfl))
  f316 := Tryd.func102.trans (congrArg some (by kernel_rfl))
  f317 := Tryd.func84.trans (congrArg some (by kernel_rfl))
  f318 := Tryd.func86.trans (congrArg some (by kernel_rfl))
  f319 := Tryd.func87.trans (congrArg some (by kernel_rfl))
  f320 := Tryd.func88.trans (congrArg some (by kernel_rfl))
  f321 := Tryd.func104.trans (congrArg some (by kernel_rfl))
  f322 := Tryd.func105.trans (congrArg some (by kernel_rfl))
  f337 := Tryd.func98.trans (congrArg some (by kernel_rfl))
  f338 := Tryd.func99.trans (congrArg some (by kernel_rfl))
  t0 := Tryd.underlying0
  a0 := Tryd.isAgg0
  z0 := Tryd.sizeOf0
  v0 := Tryd.zeroValue0
  t2 := Tryd.underlying2
  a2 := Tryd.isAgg2
  z2 := Tryd.sizeOf2
  v2 := Tryd.zeroValue2
  t3 := Tryd.underlying3
  a3 := Tryd.isAgg3
  z3 := Tryd.sizeOf3
  v3 := Tryd.zeroValue3
  t4 := Tryd.underlying4
  a4 := Tryd.isAgg4
  z4 := Tryd.sizeOf4
  v4 := Tryd.zeroValue4
  t5 := Tryd.underlying5
  a5 := Tryd.isAgg5
  z5 := Tryd.sizeOf5
  v5 := Tryd.zeroValue5
  t9 := Tryd.underlying9
  a9 := Tryd.isAgg9
  z9 := Tryd.sizeOf9
  v9 := Tryd.zeroValue9
  t20 := Tryd.underlying20
  a20 := Tryd.isAgg20
  z20 := Tryd.sizeOf20
  v20 := Tryd.zeroValue20
  t21 := Tryd.underlying21
  a21 := Tryd.isAgg21
  z21 := Tryd.sizeOf21
  v21 := Tryd.zeroValue21
  t37 := Tryd.underlying46
  a37 := Tryd.isAgg46
  z37 := Tryd.sizeOf46
  v37 := Tryd.zeroValue46
  t46 := Tryd.underlying117
  a46 := Tryd.isAgg117
  z46 := Tryd.sizeOf117
  v46 := Tryd.zeroValue117
  t51 := Tryd.underlying115
  a51 := Tryd.isAgg115
  z51 := Tryd.sizeOf115
  v51 := Tryd.zeroValue115
  t53 := Tryd.underlying106
  a53 := Tryd.isAgg106
  z53 := Tryd.sizeOf106
  v53 := Tryd.zeroValue106
  t75 := Tryd.underlying77
  a75 := Tryd.isAgg77
  z75 := Tryd.sizeOf77
  v75 := Tryd.zeroValue77
  t76 := Tryd.underlying78
  a76 := Tryd.isAgg78
  z76 := Tryd.sizeOf78
  v76 := Tryd.zeroValue78
  t85 := Tryd.underlying120
  a85 := Tryd.isAgg120
  z85 := Tryd.sizeOf120
  v85 := Tryd.zeroValue120
  t127 := Tryd.underlying82
  a127 := Tryd.isAgg82
  z127 := Tryd.sizeOf82
  v127 := Tryd.zeroValue82
  t143 := Tryd.underlying136
  a143 := Tryd.isAgg136
  z143 := Tryd.sizeOf136
  v143 := Tryd.zeroValue136
  t145 := Tryd.underlying138
  a145 := Tryd.isAgg138
  z145 := Tryd.sizeOf138
  v145 := Tryd.zeroValue138
  t167 := Tryd.underlying119
  a167 := Tryd.isAgg119
  z167 := Tryd.sizeOf119
  v167 := Tryd.zeroValue119
  t168 := Tryd.underlying122
  a168 := Tryd.isAgg122
  z168 := Tryd.sizeOf122
  v168 := Tryd.zeroValue122
  t171 := Tryd.underlying105
  a171 := Tryd.isAgg105
  z171 := Tryd.sizeOf105
  v171 := Tryd.zeroValue105
  t173 := Tryd.underlying109
  a173 := Tryd.isAgg109
  z173 := Tryd.sizeOf109
  v173 := Tryd.zeroValue109
  t175 := Tryd.underlying128
  a175 := Tryd.isAgg128
  z175 := Tryd.sizeOf128
  v175 := Tryd.zeroValue128
  t210 := Tryd.underlying131
  a210 := Tryd.isAgg131
  z210 := Tryd.sizeOf131
  v210 := Tryd.zeroValue131
  t212 := Tryd.underlying114
  a212 := Tryd.isAgg114
  z212 := Tryd.sizeOf114
  v212 := Tryd.zeroValue114
  t213 := Tryd.underlying116
  a213 := Tryd.isAgg116
  z213 := Tryd.sizeOf116
  t232 := Tryd.underlying133
  a232 := Tryd.isAgg133
  z232 := Tryd.sizeOf133
  v232 := Tryd.zeroValue133
  t233 := Tryd.underlying134
  a233 := Tryd.isAgg134
  z233 := Tryd.sizeOf134
  v233 := Tryd.zeroValue134
  g15 := by kernel_rfl
  g16 := by kernel_rfl
  g17 := by kernel_rfl
  g18 := by kernel_rfl
  g19 := by kernel_rfl }
open Go.RowKit in
/-- strconv.Atoi: "Atoi is equivalent to ParseInt(s, 10, 0), converted to type int.": AT A DECIMAL NUMERAL OF AT MOST 18 BYTES: its value, and a nil error. The world behind the call: the one new row that the library's '[]byte(s)' lays. (LAID: no walk: one application.) -/
theorem Tryd.strconv_Atoi (s : ByteArray) (n : Int) (hl : s.size ≤ 18) (h : Lib.atoi s.data.toList = some n) (w : World) :
    Calls Tryd.prog 74 #[.string s] w fun e w' => e = .returned (.tuple #[.int .i64 n, .nilIface]) ∧ ∃ t, w' = Lib.bytesWorld w 5 t := Any.strconv_Atoi Tryd.lays172 s n hl h w
def Tryd.laysM246_ren : Go.Shelf.Ren := ⟨fun | 246 => 69 | 283 => 75 | 284 => 76 | 285 => 77 | 286 => 78 | 129 => 85 | 317 => 84 | 318 => 86 | 319 => 87 | 320 => 88 | 337 => 98 | 338 => 99 | n => n, fun | 2 => 2 | 3 => 3 | 9 => 9 | 4 => 4 | 171 => 105 | 0 => 0 | 53 => 106 | 37 => 46 | 5 => 5 | 173 => 109 | 212 => 114 | 51 => 115 | 20 => 20 | 213 => 116 | 46 => 117 | 232 => 133 | 233 => 134 | n => n, fun | 17 => 0 | 18 => 4 | 19 => 5 | n => n⟩
def Tryd.laysM243_ren : Go.Shelf.Ren := ⟨fun | 243 => 60 | 246 => 69 | 283 => 75 | 284 => 76 | 285 => 77 | 286 => 78 | 129 => 85 | 317 => 84 | 318 => 86 | 319 => 87 | 320 => 88 | 337 => 98 | 338 => 99 | n => n, fun | 3 => 3 | 9 => 9 | 2 => 2 | 4 => 4 | 171 => 105 | 0 => 0 | 53 => 106 | 37 => 46 | 5 => 5 | 173 => 109 | 212 => 114 | 51 => 115 | 20 => 20 | 213 => 116 | 46 => 117 | 232 => 133 | 233 => 134 | n => n, fun | 17 => 0 | 18 => 4 | 19 => 5 | n => n⟩
def Tryd.laysM171_ren : Go.Shelf.Ren := ⟨fun | 171 => 45 | 243 => 60 | 246 => 69 | 283 => 75 | 284 => 76 | 285 => 77 | 286 => 78 | 129 => 85 | 317 => 84 | 318 => 86 | 319 => 87 | 320 => 88 | 337 => 98 | 338 => 99 | n => n, fun | 3 => 3 | 9 => 9 | 2 => 2 | 4 => 4 | 171 => 105 | 0 => 0 | 53 => 106 | 37 => 46 | 5 => 5 | 173 => 109 | 212 => 114 | 51 => 115 | 20 => 20 | 213 => 116 | 46 => 117 | 232 => 133 | 233 => 134 | n => n, fun | 17 => 0 | 18 => 4 | 19 => 5 | n => n⟩
theorem Tryd.laysM171 : Go.Proofs.LaysM.n171 Tryd.prog Tryd.laysM171_ren := {
  mixed := by kernel_rfl
  f129 := Tryd.func85.trans (congrArg some (by kernel_rfl))
  f171 := Tryd.func45.trans (congrArg some (by kernel_rfl))
  f243 := Tryd.func60.trans (congrArg some (by kernel_rfl))
  f246 := Tryd.func69.trans (congrArg some (by kernel_rfl))
  f283 := Tryd.func75.trans (congrArg some (by kernel_rfl))
  f284 := Tryd.func76.trans (congrArg some (by kernel_rfl))
  f285 := Tryd.func77.trans (congrArg some (by kernel_rfl))
  f286 := Tryd.func78.trans (congrArg some (by kernel_rfl))
  f317 := Tryd.func84.trans (congrArg some (by kernel_rfl))
  f318 := Tryd.func86.trans (congrArg some (by kernel_rfl))
  f319 := Tryd.func87.trans (congrArg some (by kernel_rfl))
  f320 := Tryd.func88.trans (congrArg some (by kernel_rfl))
  f337 := Tryd.func98.trans (congrArg some (by kernel_rfl))
  f338 := Tryd.func99.trans (congrArg some (by kernel_rfl))
  t0 := Tryd.underlying0
  a0 := Tryd.isAgg0
  z0 := Tryd.sizeOf0
  v0 := Tryd.zeroValue0
  t2 := Tryd.underlying2
  a2 := Tryd.isAgg2
  z2 := Tryd.sizeOf2
  v2 := Tryd.zeroValue2
  t3 := Tryd.underlying3
  a3 := Tryd.isAgg3
  z3 := Tryd.sizeOf3
  v3 := Tryd.zeroValue3
  t4 := Tryd.underlying4
  a4 := Tryd.isAgg4
  z4 := Tryd.sizeOf4
  v4 := Tryd.zeroValue4
  t5 := Tryd.underlying5
  a5 := Tryd.isAgg5
  z5 := Tryd.sizeOf5
  v5 := Tryd.zeroValue5
  t9 := Tryd.underlying9
  a9 := Tryd.isAgg9
  z9 := Tryd.sizeOf9
  v9 := Tryd.zeroValue9
  t20 := Tryd.underlying20
  a20 := Tryd.isAgg20
  z20 := Tryd.sizeOf20
  v20 := Tryd.zeroValue20
  t37 := Tryd.underlying46
  a37 := Tryd.isAgg46
  z37 := Tryd.sizeOf46
  v37 := Tryd.zeroValue46
  t46 := Tryd.underlying117
  a46 := Tryd.isAgg117
  z46 := Tryd.sizeOf117
  v46 := Tryd.zeroValue117
  t51 := Tryd.underlying115
  a51 := Tryd.isAgg115
  z51 := Tryd.sizeOf115
  v51 := Tryd.zeroValue115
  t53 := Tryd.underlying106
  a53 := Tryd.isAgg106
  z53 := Tryd.sizeOf106
  v53 := Tryd.zeroValue106
  t171 := Tryd.underlying105
  a171 := Tryd.isAgg105
  z171 := Tryd.sizeOf105
  v171 := Tryd.zeroValue105
  t173 := Tryd.underlying109
  a173 := Tryd.isAgg109
  z173 := Tryd.sizeOf109
  v173 := Tryd.zeroValue109
  t212 := Tryd.underlying114
  a212 := Tryd.isAgg114
  z212 := Tryd.sizeOf114
  v212 := Tryd.zeroValue114
  t213 := Tryd.underlying116
  a213 := Tryd.isAgg116
  z213 := Tryd.sizeOf116
  t232 := Tryd.underlying133
  a232 := Tryd.isAgg133
  z232 := Tryd.sizeOf133
  v232 := Tryd.zeroValue133
  t233 := Tryd.underlying134
  a233 := Tryd.isAgg134
  z233 := Tryd.sizeOf134
  v233 := Tryd.zeroValue134
  g17 := by kernel_rfl
  g18 := by kernel_rfl
  g19 := by kernel_rfl
  i0 := by kernel_rfl
  i2 := by kernel_rfl
  i3 := by kernel_rfl
  i4 := by kernel_rfl
  i5 := by kernel_rfl
  i9 := by kernel_rfl
  i20 := by kernel_rfl
  i37 := by kernel_rfl
  i46 := by kernel_rfl
  i51 := by kernel_rfl
  i53 := by kernel_rfl
  i171 := by kernel_rfl
  i173 := by kernel_rfl
  i212 := by kernel_rfl
  i232 := by kernel_rfl
  i233 := by kernel_rfl
  m17 := by kernel_rfl
  m18 := by kernel_rfl
  m19 := by kernel_rfl }
open Go.RowKit Go.Sort Go.Lib in
/-- strconv.Itoa: "Itoa is equivalent to FormatInt(int64(i), 10).": i's DECIMAL NUMERAL ('Lib.itoa': a '-' where i is negative, then the digits), FOR EVERY int. The world behind the call: the world before it, new blocks behind the heap (the library's 'var a [24]byte'), draws. (LAID: no walk: one application.) -/
theorem Tryd.strconv_Itoa (n : Int) (h0 : -9223372036854775808 ≤ n) (h1 : n ≤ 9223372036854775807) (w : World) (htab : Lib.TabIs Tryd.prog w "internal/strconv.uint64pow10" .u64 Lib.pow10Tab) :
    Calls Tryd.prog 45 #[.int .i64 n] w fun e w' => e = .returned (.string ⟨(Lib.itoa n).toArray⟩) ∧ ∃ k os, w' = grow (w.drewN k) os := Any.strconv_Itoa Tryd.laysM171 n h0 h1 w htab
def Tryd.laysC172_ren : Go.Shelf.Ren := ⟨fun | 172 => 74 | 244 => 82 | 245 => 83 | 247 => 93 | 279 => 94 | 280 => 95 | 281 => 96 | 282 => 97 | 287 => 101 | 316 => 102 | 171 => 45 | 205 => 103 | 321 => 104 | 322 => 105 | 243 => 60 | 246 => 69 | 283 => 75 | 284 => 76 | 285 => 77 | 286 => 78 | 129 => 85 | 317 => 84 | 318 => 86 | 319 => 87 | 320 => 88 | 337 => 98 | 338 => 99 | n => n, fun | 9 => 9 | 3 => 3 | 75 => 77 | 76 => 78 | 4 => 4 | 5 => 5 | 167 => 119 | 37 => 46 | 0 => 0 | 85 => 120 | 2 => 2 | 168 => 122 | 53 => 106 | 175 => 128 | 46 => 117 | 210 => 131 | 127 => 82 | 145 => 138 | 143 => 136 | 21 => 21 | 171 => 105 | 173 => 109 | 212 => 114 | 51 => 115 | 20 => 20 | 213 => 116 | 232 => 133 | 233 => 134 | 80 => 58 | n => n, fun | 15 => 2 | 16 => 3 | 17 => 0 | 18 => 4 | 19 => 5 | n => n⟩
theorem Tryd.laysC172 : Go.Proofs.LaysC.n172 Tryd.prog Tryd.laysC172_ren := {
  mixed := by kernel_rfl
  f129 := Tryd.func85.trans (congrArg some (by kernel_rfl))
  f171 := Tryd.func45.trans (congrArg some (by kernel_rfl))
  f172 := Tryd.func74.trans (congrArg some (by kernel_rfl))
  f205 := Tryd.func103.trans (congrArg some (by kernel_rfl))
  f243 := Tryd.func60.trans (congrArg some (by kernel_rfl))
  f244 := Tryd.func82.trans (congrArg some (by kernel_rfl))
  f245 := Tryd.func83.trans (congrArg some (by kernel_rfl))
  f246 := Tryd.func69.trans (congrArg some (by kernel_rfl))
  f247 := Tryd.func93.trans (congrArg some (by kernel_rfl))
  f279 := Tryd.func94.trans (congrArg some (by kernel_rfl))
  f280 := Tryd.func95.trans (congrArg some (by kernel_rfl))
  f281 := Tryd.func96.trans (congrArg some (by kernel_rfl))
  f282 := Tryd.func97.trans (congrArg some (by kernel_rfl))
  f283 := Tryd.func75.trans (congrArg some (by kernel_rfl))
  f284 := Tryd.func76.trans (congrArg some (by kernel_rfl))
  f285 := Tryd.func77.trans (congrArg some (by kernel_rfl))
  f286 := Tryd.func78.trans (congrArg some (by kernel_rfl))
  f287 := Tryd.func101.trans (congrArg some (by kernel_rfl))
  f316 := Tryd.func102.trans (congrArg some (by kernel_rfl))
  f317 := Tryd.func84.trans (congrArg some (by kernel_rfl))
  f318 := Tryd.func86.trans (congrArg some (by kernel_rfl))
  f319 := Tryd.func87.trans (congrArg some (by kernel_rfl))
  f320 := Tryd.func88.trans (congrArg some (by kernel_rfl))
  f321 := Tryd.func104.trans (congrArg some (by kernel_rfl))
  f322 := Tryd.func105.trans (congrArg some (by kernel_rfl))
  f337 := Tryd.func98.trans (congrArg some (by kernel_rfl))
  f338 := Tryd.func99.trans (congrArg some (by kernel_rfl))
  t0 := Tryd.underlying0
  a0 := Tryd.isAgg0
  z0 := Tryd.sizeOf0
  v0 := Tryd.zeroValue0
  t2 := Tryd.underlying2
  a2 := Tryd.isAgg2
  z2 := Tryd.sizeOf2
  v2 := Tryd.zeroValue2
  t3 := Tryd.underlying3
  a3 := Tryd.isAgg3
  z3 := Tryd.sizeOf3
  v3 := Tryd.zeroValue3
  t4 := Tryd.underlying4
  a4 := Tryd.isAgg4
  z4 := Tryd.sizeOf4
  v4 := Tryd.zeroValue4
  t5 := Tryd.underlying5
  a5 := Tryd.isAgg5
  z5 := Tryd.sizeOf5
  v5 := Tryd.zeroValue5
  t9 := Tryd.underlying9
  a9 := Tryd.isAgg9
  z9 := Tryd.sizeOf9
  v9 := Tryd.zeroValue9
  t20 := Tryd.underlying20
  a20 := Tryd.isAgg20
  z20 := Tryd.sizeOf20
  v20 := Tryd.zeroValue20
  t21 := Tryd.underlying21
  a21 := Tryd.isAgg21
  z21 := Tryd.sizeOf21
  v21 := Tryd.zeroValue21
  t37 := Tryd.underlying46
  a37 := Tryd.isAgg46
  z37 := Tryd.sizeOf46
  v37 := Tryd.zeroValue46
  t46 := Tryd.underlying117
  a46 := Tryd.isAgg117
  z46 := Tryd.sizeOf117
  v46 := Tryd.zeroValue117
  t51 := Tryd.underlying115
  a51 := Tryd.isAgg115
  z51 := Tryd.sizeOf115
  v51 := Tryd.zeroValue115
  t53 := Tryd.underlying106
  a53 := Tryd.isAgg106
  z53 := Tryd.sizeOf106
  v53 := Tryd.zeroValue106
  t75 := Tryd.underlying77
  a75 := Tryd.isAgg77
  z75 := Tryd.sizeOf77
  v75 := Tryd.zeroValue77
  t76 := Tryd.underlying78
  a76 := Tryd.isAgg78
  z76 := Tryd.sizeOf78
  v76 := Tryd.zeroValue78
  t85 := Tryd.underlying120
  a85 := Tryd.isAgg120
  z85 := Tryd.sizeOf120
  v85 := Tryd.zeroValue120
  t127 := Tryd.underlying82
  a127 := Tryd.isAgg82
  z127 := Tryd.sizeOf82
  v127 := Tryd.zeroValue82
  t143 := Tryd.underlying136
  a143 := Tryd.isAgg136
  z143 := Tryd.sizeOf136
  v143 := Tryd.zeroValue136
  t145 := Tryd.underlying138
  a145 := Tryd.isAgg138
  z145 := Tryd.sizeOf138
  v145 := Tryd.zeroValue138
  t167 := Tryd.underlying119
  a167 := Tryd.isAgg119
  z167 := Tryd.sizeOf119
  v167 := Tryd.zeroValue119
  t168 := Tryd.underlying122
  a168 := Tryd.isAgg122
  z168 := Tryd.sizeOf122
  v168 := Tryd.zeroValue122
  t171 := Tryd.underlying105
  a171 := Tryd.isAgg105
  z171 := Tryd.sizeOf105
  v171 := Tryd.zeroValue105
  t173 := Tryd.underlying109
  a173 := Tryd.isAgg109
  z173 := Tryd.sizeOf109
  v173 := Tryd.zeroValue109
  t175 := Tryd.underlying128
  a175 := Tryd.isAgg128
  z175 := Tryd.sizeOf128
  v175 := Tryd.zeroValue128
  t210 := Tryd.underlying131
  a210 := Tryd.isAgg131
  z210 := Tryd.sizeOf131
  v210 := Tryd.zeroValue131
  t212 := Tryd.underlying114
  a212 := Tryd.isAgg114
  z212 := Tryd.sizeOf114
  v212 := Tryd.zeroValue114
  t213 := Tryd.underlying116
  a213 := Tryd.isAgg116
  z213 := Tryd.sizeOf116
  t232 := Tryd.underlying133
  a232 := Tryd.isAgg133
  z232 := Tryd.sizeOf133
  v232 := Tryd.zeroValue133
  t233 := Tryd.underlying134
  a233 := Tryd.isAgg134
  z233 := Tryd.sizeOf134
  v233 := Tryd.zeroValue134
  g15 := by kernel_rfl
  g16 := by kernel_rfl
  g17 := by kernel_rfl
  g18 := by kernel_rfl
  g19 := by kernel_rfl
  t80 := Tryd.underlying58
  a80 := Tryd.isAgg58
  z80 := Tryd.sizeOf58
  v80 := Tryd.zeroValue58
  i0 := by kernel_rfl
  i2 := by kernel_rfl
  i3 := by kernel_rfl
  i4 := by kernel_rfl
  i5 := by kernel_rfl
  i9 := by kernel_rfl
  i20 := by kernel_rfl
  i21 := by kernel_rfl
  i37 := by kernel_rfl
  i46 := by kernel_rfl
  i51 := by kernel_rfl
  i53 := by kernel_rfl
  i75 := by kernel_rfl
  i76 := by kernel_rfl
  i80 := by kernel_rfl
  i85 := by kernel_rfl
  i127 := by kernel_rfl
  i143 := by kernel_rfl
  i145 := by kernel_rfl
  i167 := by kernel_rfl
  i168 := by kernel_rfl
  i171 := by kernel_rfl
  i173 := by kernel_rfl
  i175 := by kernel_rfl
  i210 := by kernel_rfl
  i212 := by kernel_rfl
  i232 := by kernel_rfl
  i233 := by kernel_rfl
  m15 := by kernel_rfl
  m16 := by kernel_rfl
  m17 := by kernel_rfl
  m18 := by kernel_rfl
  m19 := by kernel_rfl
  c0 := by kernel_rfl
  c2 := by kernel_rfl
  c3 := by kernel_rfl
  c4 := by kernel_rfl
  c5 := by kernel_rfl
  c9 := by kernel_rfl
  c20 := by kernel_rfl
  c21 := by kernel_rfl
  c37 := by kernel_rfl
  c46 := by kernel_rfl
  c51 := by kernel_rfl
  c53 := by kernel_rfl
  c75 := by kernel_rfl
  c76 := by kernel_rfl
  c80 := by kernel_rfl
  c85 := by kernel_rfl
  c127 := by kernel_rfl
  c143 := by kernel_rfl
  c145 := by kernel_rfl
  c167 := by kernel_rfl
  c168 := by kernel_rfl
  c171 := by kernel_rfl
  c173 := by kernel_rfl
  c175 := by kernel_rfl
  c210 := by kernel_rfl
  c212 := by kernel_rfl
  c213 := by kernel_rfl
  c232 := by kernel_rfl
  c233 := by kernel_rfl }
open Go.RowKit in
theorem Tryd.strconv_Atoi_err_var (s : ByteArray) (hl : s.size ≤ 18) (h : Lib.atoi s.data.toList = none) (tp : TypeId) (p : Value) (w : World) (hvar : w.var? Tryd.prog "strconv.ErrSyntax" = some #[.iface tp p]) :
    Calls Tryd.prog 74 #[.string s] w fun e w' => ∃ N, e = .returned (.tuple #[.int .i64 0, .iface 122 (.pointer (some ⟨N, 0, none⟩))]) ∧ w.heap.size ≤ N ∧ w'.heap[N]? = some (.cells #[.string ⟨#[65, 116, 111, 105]⟩, .string s, .iface tp p] 131 (0, 0)) ∧ Below w.heap.size w w' := Any.strconv_Atoi_err_var Tryd.laysC172 s hl h tp p w hvar
def Tryd.lays219_ren : Go.Shelf.Ren := ⟨fun | 219 => 81 | 217 => 80 | 225 => 90 | 224 => 91 | 267 => 92 | 266 => 89 | 314 => 100 | n => n, fun | 9 => 9 | 3 => 3 | 4 => 4 | 5 => 5 | 46 => 117 | 146 => 126 | 51 => 115 | n => n, fun | 1 => 1 | n => n⟩
theorem Tryd.lays219 : Go.Proofs.Lays.n219 Tryd.prog Tryd.lays219_ren := {
  mixed := by kernel_rfl
  f217 := Tryd.func80.trans (congrArg some (by kernel_rfl))
  f219 := Tryd.func81.trans (congrArg some (by kernel_rfl))
  f224 := Tryd.func91.trans (congrArg some (by kernel_rfl))
  f225 := Tryd.func90.trans (congrArg some (by kernel_rfl))
  f266 := Tryd.func89.trans (congrArg some (by kernel_rfl))
  f267 := Tryd.func92.trans (congrArg some (by kernel_rfl))
  f314 := Tryd.func100.trans (congrArg some (by kernel_rfl))
  t3 := Tryd.underlying3
  a3 := Tryd.isAgg3
  z3 := Tryd.sizeOf3
  v3 := Tryd.zeroValue3
  t4 := Tryd.underlying4
  a4 := Tryd.isAgg4
  z4 := Tryd.sizeOf4
  v4 := Tryd.zeroValue4
  t5 := Tryd.underlying5
  a5 := Tryd.isAgg5
  z5 := Tryd.sizeOf5
  v5 := Tryd.zeroValue5
  t9 := Tryd.underlying9
  a9 := Tryd.isAgg9
  z9 := Tryd.sizeOf9
  v9 := Tryd.zeroValue9
  t46 := Tryd.underlying117
  a46 := Tryd.isAgg117
  z46 := Tryd.sizeOf117
  v46 := Tryd.zeroValue117
  t51 := Tryd.underlying115
  a51 := Tryd.isAgg115
  z51 := Tryd.sizeOf115
  v51 := Tryd.zeroValue115
  t146 := Tryd.underlying126
  a146 := Tryd.isAgg126
  z146 := Tryd.sizeOf126
  v146 := Tryd.zeroValue126
  g1 := by kernel_rfl }
open Go.RowKit Go.Lib in
/-- internal/stringslite.Index (what strings.Index calls) AT A substr OF ONE BYTE c: IT RETURNS 'Lib.indexByte s c'; the world is as it was. (LAID: no walk: one application.) -/
theorem Tryd.stringslite_Index_one (s : ByteArray) (c : UInt8) (w : World) :
    Calls Tryd.prog 81 #[.string s, .string ⟨#[c]⟩] w fun e w' => e = .returned (.int .i64 (Lib.indexByte s.data.toList c)) ∧ w' = w := Any.stringslite_Index_one Tryd.lays219 s c w
def Tryd.laysGw17_ren : Go.Shelf.Ren := ⟨fun | 17 => 48 | 15 => 61 | 20 => 70 | n => n, fun | 9 => 9 | 23 => 84 | 4 => 4 | 3 => 3 | 0 => 0 | 21 => 21 | n => n, fun | n => n⟩
theorem Tryd.laysGw17 : Go.Proofs.LaysGw.n17 Tryd.prog Tryd.laysGw17_ren := {
  mixed := by kernel_rfl
  f15 := Tryd.func61.trans (congrArg some (by kernel_rfl))
  f17 := Tryd.func48.trans (congrArg some (by kernel_rfl))
  f20 := Tryd.func70.trans (congrArg some (by kernel_rfl))
  t0 := Tryd.underlying0
  a0 := Tryd.isAgg0
  z0 := Tryd.sizeOf0
  v0 := Tryd.zeroValue0
  i0 := by kernel_rfl
  t3 := Tryd.underlying3
  a3 := Tryd.isAgg3
  z3 := Tryd.sizeOf3
  v3 := Tryd.zeroValue3
  i3 := by kernel_rfl
  t4 := Tryd.underlying4
  a4 := Tryd.isAgg4
  z4 := Tryd.sizeOf4
  v4 := Tryd.zeroValue4
  i4 := by kernel_rfl
  t9 := Tryd.underlying9
  a9 := Tryd.isAgg9
  z9 := Tryd.sizeOf9
  v9 := Tryd.zeroValue9
  i9 := by kernel_rfl
  t21 := Tryd.underlying21
  a21 := Tryd.isAgg21
  z21 := Tryd.sizeOf21
  v21 := Tryd.zeroValue21
  i21 := by kernel_rfl
  t23 := Tryd.underlying84
  a23 := Tryd.isAgg84
  z23 := Tryd.sizeOf84
  v23 := Tryd.zeroValue84
  i23 := by kernel_rfl }
def Tryd.lays206_ren : Go.Shelf.Ren := ⟨fun | 206 => 67 | n => n, fun | 9 => 9 | 4 => 4 | 3 => 3 | n => n, fun | n => n⟩
theorem Tryd.lays206 : Go.Proofs.Lays.n206 Tryd.prog Tryd.lays206_ren := {
  mixed := by kernel_rfl
  f206 := Tryd.func67.trans (congrArg some (by kernel_rfl))
  t3 := Tryd.underlying3
  a3 := Tryd.isAgg3
  z3 := Tryd.sizeOf3
  v3 := Tryd.zeroValue3
  t4 := Tryd.underlying4
  a4 := Tryd.isAgg4
  z4 := Tryd.sizeOf4
  v4 := Tryd.zeroValue4
  t9 := Tryd.underlying9
  a9 := Tryd.isAgg9
  z9 := Tryd.sizeOf9
  v9 := Tryd.zeroValue9 }
open Go.RowKit Go.Lib in
/-- internal/stringslite.HasPrefix (what strings.HasPrefix calls). (LAID: no walk: one application.) -/
theorem Tryd.stringslite_HasPrefix (s p : ByteArray) (w : World) :
    Calls Tryd.prog 67 #[.string s, .string p] w fun e w' => e = .returned (.bool (Lib.hasPrefix s.data.toList p.data.toList)) ∧ w' = w := Any.stringslite_HasPrefix Tryd.lays206 s p w
def Tryd.lays99_ren : Go.Shelf.Ren := ⟨fun | 99 => 54 | 206 => 67 | n => n, fun | 9 => 9 | 4 => 4 | 3 => 3 | n => n, fun | n => n⟩
theorem Tryd.lays99 : Go.Proofs.Lays.n99 Tryd.prog Tryd.lays99_ren := {
  mixed := by kernel_rfl
  f99 := Tryd.func54.trans (congrArg some (by kernel_rfl))
  f206 := Tryd.func67.trans (congrArg some (by kernel_rfl))
  t3 := Tryd.underlying3
  a3 := Tryd.isAgg3
  z3 := Tryd.sizeOf3
  v3 := Tryd.zeroValue3
  t4 := Tryd.underlying4
  a4 := Tryd.isAgg4
  z4 := Tryd.sizeOf4
  v4 := Tryd.zeroValue4
  t9 := Tryd.underlying9
  a9 := Tryd.isAgg9
  z9 := Tryd.sizeOf9
  v9 := Tryd.zeroValue9 }
open Go.RowKit Go.Lib in
/-- strings.HasPrefix: "HasPrefix reports whether the string s begins with prefix.": IT RETURNS 'Lib.hasPrefix s prefix'; the world is as it was. (LAID: no walk: one application.) -/
theorem Tryd.strings_HasPrefix (s p : ByteArray) (w : World) :
    Calls Tryd.prog 54 #[.string s, .string p] w fun e w' => e = .returned (.bool (Lib.hasPrefix s.data.toList p.data.toList)) ∧ w' = w := Any.strings_HasPrefix Tryd.lays99 s p w
open Go.RowKit Go.Lib in
theorem Tryd.strings_ContainsFunc_grows (g : Nat) (lb : Array Value) (eg : ∀ args w, (callFunc g args).run Tryd.prog w = .ok (.enter g args) w) (p : Nat → Bool) (s : ByteArray) (w : World) (hp : PredGrows Tryd.prog g lb p w) :
    Calls Tryd.prog 48 #[.string s, .func (.func g) #[] lb] w fun e w' => e = .returned (.bool (decide (0 ≤ Lib.idxFunc p true s))) ∧ Below w.heap.size w w' := Any.strings_ContainsFunc_grows Tryd.laysGw17 g lb eg p s w hp
end Go.Proofs

namespace Go.Proofs.YtnbjneknicppcaaDoor.Fn
set_option linter.unusedVariables false
set_option linter.unusedSimpArgs false
open Go.RowKit Go.Proofs.YtnbjneknicppcaaDoorW.PrintWords Go.Proofs.YtnbjneknicppcaaDoorW.PrintLast Go.Lib
theorem dec_pos (s : ByteArray) (pos : Nat) (h : pos < s.size) : 1 ≤ (Utf8.decode s pos).2 := by
  by_cases ha : (s[pos]'h).toNat < 128
  · rw [decode_ascii s pos h ha]
    exact Nat.le_refl _
  · exact (decode_high s pos h (by omega)).2
def hasRuneB (s : ByteArray) (c : Int) : Bool := decide (0 ≤ idxFunc (fun r => decide ((r : Int) = c)) true s)
theorem idx_hit (p : Nat → Bool) (s : ByteArray) (f pos : Nat) (h : pos < s.size) (hp : p (Utf8.decode s pos).1 = true) : 0 ≤ idxFuncFrom p true s (f + 1) pos := by
  unfold idxFuncFrom
  rw [if_pos h, if_pos hp]
  omega
theorem idx_miss (p : Nat → Bool) (s : ByteArray) (f pos : Nat) (h : pos < s.size) (hp : p (Utf8.decode s pos).1 = false) : idxFuncFrom p true s (f + 1) pos = idxFuncFrom p true s f (pos + (Utf8.decode s pos).2) := by
  conv => lhs; unfold idxFuncFrom
  rw [if_pos h, if_neg (by rw [hp]; decide)]
set_option maxRecDepth 1000000 in
theorem hasRune_calls (s : ByteArray) (c : Int) (w : World) :
    Calls Tryd.prog 47 #[.string s, .int .i32 c] w fun e w' => e = .returned (.bool (hasRuneB s c)) ∧ Below w.heap.size w w' := by
  go_enter Tryd.func47, Tryd.ntmps47
  go_wp2
  go_loopw [4] (fun _ w' => ∃ (pos b : Nat), w' = w.iter s pos ∧ Aside0 (decide (0 ≤ idxFuncFrom (fun r => decide ((r : Int) = c)) true s b pos) = hasRuneB s c) ∧ s.size ≤ pos + b) (fun _ w' => s.size - w'.iterPos w.heap.size)
  case atStart => exact ⟨0, s.size, rfl, ⟨rfl⟩, by omega⟩
  case round =>
    obtain ⟨pos, b, rfl, hc, hb⟩ := hrel
    by_cases hp : pos < s.size
    · have hnx : ∀ ty, (Instr.next (.pointer (some ⟨w.heap.size, 0, none⟩)) true ty).run Tryd.prog (w.iter s pos) = _ := fun ty => run_next_any w s pos ty hp
      obtain ⟨b, rfl⟩ : ∃ b', b = b' + 1 := ⟨b - 1, by omega⟩
      have hdp := dec_pos s pos hp
      by_cases hq : ((Utf8.decode s pos).1 : Int) = c
      · have hq1 : (((Utf8.decode s pos).1 : Int) == c) = true := by simpa using hq
        have hpos := idx_hit (fun r => decide ((r : Int) = c)) s b pos hp (by simpa using hq)
        have HR : Aside0 (hasRuneB s c = true) := ⟨by rw [← hc.out]; simpa using hpos⟩
        clear hc hq hpos hdp
        go_wp2
        go_ret
        exact ⟨congrArg (fun b => Ending.returned (.bool b)) HR.out.symm, below_alloc (Below.refl _ _) _⟩
      · have hq1 : (((Utf8.decode s pos).1 : Int) == c) = false := by simpa using hq
        have HS : Aside0 (decide (0 ≤ idxFuncFrom (fun r => decide ((r : Int) = c)) true s b (pos + (Utf8.decode s pos).2)) = hasRuneB s c) := ⟨by rw [← hc.out, idx_miss _ _ _ _ hp (by simpa using hq)]⟩
        clear hc hq
        go_wp2
        go_roundw
        case rel => exact ⟨_, b, rfl, HS, by omega⟩
        case measure =>
          simp
          omega
    · have hnx : ∀ ty, (Instr.next (.pointer (some ⟨w.heap.size, 0, none⟩)) true ty).run Tryd.prog (w.iter s pos) = _ := fun ty => run_next_end w s pos ty hp
      go_wp2
      go_ret
      have h1 := hc.out
      rw [idxFuncFrom_end _ _ _ _ _ hp] at h1
      exact ⟨by rw [← h1]; rfl, below_alloc (Below.refl _ _) _⟩
theorem idx_ascii (p : Nat → Bool) (s : ByteArray) (hs : ∀ i (h : i < s.size), (s[i]'h).toNat < 128) : ∀ (f pos : Nat), s.size ≤ pos + f →
    (0 ≤ idxFuncFrom p true s f pos ↔ ∃ i, ∃ h : i < s.size, pos ≤ i ∧ p (s[i]'h).toNat = true)
  | 0, pos, hf => by
    refine ⟨fun h => absurd h (by simp [idxFuncFrom]), fun ⟨i, h, h1, _⟩ => by omega⟩
  | f + 1, pos, hf => by
    by_cases hp : pos < s.size
    · have hd := decode_ascii s pos hp (hs pos hp)
      by_cases hq : p (s[pos]'hp).toNat = true
      · exact ⟨fun _ => ⟨pos, hp, Nat.le_refl _, hq⟩, fun _ => idx_hit p s f pos hp (by rw [hd]; exact hq)⟩
      · rw [idx_miss p s f pos hp (by rw [hd]; simpa using hq), hd, idx_ascii p s hs f (pos + 1) (by omega)]
        constructor
        · rintro ⟨i, h, h1, h2⟩; exact ⟨i, h, by omega, h2⟩
        · rintro ⟨i, h, h1, h2⟩
          by_cases e : i = pos
          · subst e; exact absurd h2 hq
          · exact ⟨i, h, by omega, h2⟩
    · rw [idxFuncFrom_end _ _ _ _ _ hp]
      exact ⟨fun h => by omega, fun ⟨i, h, h1, _⟩ => by omega⟩
theorem idx_any (p : Nat → Bool) (hp' : ∀ r, 128 ≤ r → p r = true) (s : ByteArray) : ∀ (f pos : Nat), s.size ≤ pos + f →
    (0 ≤ idxFuncFrom p true s f pos ↔ ∃ i, ∃ h : i < s.size, pos ≤ i ∧ p (s[i]'h).toNat = true)
  | 0, pos, hf => by
    refine ⟨fun h => absurd h (by simp [idxFuncFrom]), fun ⟨i, h, h1, _⟩ => by omega⟩
  | f + 1, pos, hf => by
    by_cases hp : pos < s.size
    · by_cases ha : (s[pos]'hp).toNat < 128
      · have hd := decode_ascii s pos hp ha
        by_cases hq : p (s[pos]'hp).toNat = true
        · exact ⟨fun _ => ⟨pos, hp, Nat.le_refl _, hq⟩, fun _ => idx_hit p s f pos hp (by rw [hd]; exact hq)⟩
        · rw [idx_miss p s f pos hp (by rw [hd]; simpa using hq), hd, idx_any p hp' s f (pos + 1) (by omega)]
          constructor
          · rintro ⟨i, h, h1, h2⟩; exact ⟨i, h, by omega, h2⟩
          · rintro ⟨i, h, h1, h2⟩
            by_cases e : i = pos
            · subst e; exact absurd h2 hq
            · exact ⟨i, h, by omega, h2⟩
      · exact ⟨fun _ => ⟨pos, hp, Nat.le_refl _, hp' _ (by omega)⟩, fun _ => idx_hit p s f pos hp (hp' _ (decode_high s pos hp (by omega)).1)⟩
    · rw [idxFuncFrom_end _ _ _ _ _ hp]
      exact ⟨fun h => by omega, fun ⟨i, h, h1, _⟩ => by omega⟩
def setS : ByteArray := ⟨#[97, 98, 99, 100, 101, 102, 103, 104, 105, 106, 107, 108, 109, 110, 111, 112, 113, 114, 115, 116, 117, 118, 119, 120, 121, 122, 65, 66, 67, 68, 69, 70, 71, 72, 73, 74, 75, 76, 77, 78, 79, 80, 81, 82, 83, 84, 85, 86, 87, 88, 89, 90, 48, 49, 50, 51, 52, 53, 54, 55, 56, 57, 43, 45]⟩
def inSet (r : Nat) : Bool := (decide (97 ≤ r) && decide (r ≤ 122)) || (decide (65 ≤ r) && decide (r ≤ 90)) || (decide (48 ≤ r) && decide (r ≤ 57)) || r == 43 || r == 45
theorem hasRune_set (r : Nat) : hasRuneB setS (r : Int) = inSet r := by
  by_cases hr : r < 128
  · have h : ∀ r : Fin 128, hasRuneB setS ((r.val : Nat) : Int) = inSet r.val := by decide +kernel
    exact h ⟨r, hr⟩
  · have hs : ∀ i (h : i < setS.size), (setS[i]'h).toNat < 128 := by decide +kernel
    have h1 : hasRuneB setS (r : Int) = false := by
      unfold hasRuneB idxFunc
      rw [decide_eq_false_iff_not, idx_ascii _ setS hs _ _ (by omega)]
      rintro ⟨i, h, _, h2⟩
      have := hs i h
      simp at h2
      omega
    rw [h1]
    simp [inSet]
    omega
def namedB (s : ByteArray) : Bool := decide (3 ≤ s.size) && decide (s.size ≤ 20) && s.data.toList.all fun c => inSet c.toNat
def posix_named.f (s : ByteArray) : Option Bool := some (namedB s)
theorem strange_pays (w : World) : PredGrows Tryd.prog 46 #[] (fun r => !inSet r) w := fun W x _ _ => by
  have hset := hasRune_set x
  have HS : Aside0 (hasRuneB setS (x : Int) = inSet x) := ⟨hset⟩
  clear hset
  have hcall := fun W => hasRune_calls setS (x : Int) W
  unfold setS at hcall
  go_enter Tryd.func46, Tryd.ntmps46
  go_wp2_with (go_at_call 47; refine (hcall _).mono ?_; rintro e w' ⟨rfl, hb⟩)
  go_ret
  refine ⟨?_, by assumption⟩
  have := HS.out
  unfold setS at this
  rw [← this]
  rfl
theorem strange_in (s : ByteArray) : decide (0 ≤ idxFunc (fun r => !inSet r) true s) = !(s.data.toList.all fun c => inSet c.toNat) := by
  have h := idx_any (fun r => !inSet r) (fun r h => by simp [inSet]; omega) s s.size 0 (by omega)
  rw [Bool.eq_iff_iff, decide_eq_true_iff]
  unfold idxFunc
  rw [h]
  simp only [Bool.not_eq_true', List.all_eq_false, Array.mem_toList_iff, Array.mem_iff_getElem]
  constructor
  · rintro ⟨i, h, _, h2⟩; exact ⟨_, ⟨i, h, rfl⟩, by rw [show s.data[i] = s[i] from rfl, h2]; decide⟩
  · rintro ⟨_, ⟨i, h, rfl⟩, h2⟩; exact ⟨i, h, Nat.zero_le _, by rw [show s[i] = s.data[i] from rfl]; simpa using h2⟩
theorem posix_named.calls (a0 : ByteArray) (r : Bool) (w : World) (h : posix_named.f a0 = some r) :
    Calls Tryd.prog 29 #[.string a0] w fun e w' => e = .returned (.bool r) ∧ Below w.heap.size w w' := by
  obtain rfl := Option.some.inj h
  clear h
  have hC := fun W => Tryd.strings_ContainsFunc_grows 46 #[] (enters_of Tryd.func46 (by kernel_rfl) rfl) (fun r => !inSet r) a0 W (strange_pays W)
  rw [strange_in] at hC
  by_cases h1 : 3 ≤ a0.size
  · by_cases h2 : a0.size ≤ 20
    · have hr : namedB a0 = a0.data.toList.all fun c => inSet c.toNat := by simp [namedB, h1, h2]
      rw [hr]
      clear hr
      generalize (a0.data.toList.all fun c => inSet c.toNat) = b at hC ⊢
      have d1 : (3 : Int) ≤ (a0.size : Int) := by omega
      have d2 : (a0.size : Int) ≤ 20 := by omega
      clear h1 h2
      go_enter Tryd.func29, Tryd.ntmps29
      go_wp2_with (go_at_call 48; refine (hC _).mono ?_; rintro e w' ⟨rfl, hb⟩)
      go_ret
      exact ⟨by simp, by assumption⟩
    · have hr : namedB a0 = false := by simp [namedB, h2]
      rw [hr]
      have d1 : (3 : Int) ≤ (a0.size : Int) := by omega
      have d2 : 20 < (a0.size : Int) := by omega
      clear h1 h2 hr hC
      go_enter Tryd.func29, Tryd.ntmps29
      go_wp2
      go_ret
      exact ⟨rfl, Below.refl _ _⟩
  · have hr : namedB a0 = false := by simp [namedB, h1]
    rw [hr]
    have d1 : (a0.size : Int) < 3 := by omega
    clear h1 hr hC
    go_enter Tryd.func29, Tryd.ntmps29
    go_wp2
    go_ret
    exact ⟨rfl, Below.refl _ _⟩
end Go.Proofs.YtnbjneknicppcaaDoor.Fn

namespace Go.Proofs.YtnbjneknicppcaaDoor.Fn
set_option linter.unusedVariables false
set_option linter.unusedSimpArgs false
open Go.RowKit
def IsI64 (a : Int) : Prop := -9223372036854775808 ≤ a ∧ a ≤ 9223372036854775807
theorem w64 {a : Int} (h : IsI64 a) : wrap64 a = a := by unfold IsI64 at h; unfold wrap64; omega
end Go.Proofs.YtnbjneknicppcaaDoor.Fn

namespace Go.Proofs.YtnbjneknicppcaaDoor.Fn
open Go.RowKit Go.Proofs.YtnbjneknicppcaaDoorW.PrintWords Go.Proofs.YtnbjneknicppcaaDoorW.PrintLast Go.Proofs.YtnbjneknicppcaaDoorW.PrintMore
attribute [local go_sem] min2_int min_two
set_option linter.unusedVariables false
set_option linter.unusedSimpArgs false
theorem eqA23 (d : Nat) (w : World) (x0 y0 : Int) (x1 y1 : Bool) (x2 y2 : ByteArray) :
    (Op.equalIn (d + 2) 23 (.agg #[.int .i64 x0, .bool x1, .string x2]) (.agg #[.int .i64 y0, .bool y1, .string y2])).run Tryd.prog w = .ok (x0 == y0 && (x1 == y1 && (x2.toList == y2.toList))) w := by
  refine eqA_of Tryd.underlying23 (by kernel_rfl) ?_
  refine eqf_cons (by rfl) (by go_simp; rfl) (by go_simp; rfl) (by go_simp) ?_
  refine eqf_cons (by rfl) (by go_simp; rfl) (by go_simp; rfl) (by go_simp) ?_
  exact eqf_last (by rfl) (by go_simp; rfl) (by go_simp; rfl) (by go_simp)
end Go.Proofs.YtnbjneknicppcaaDoor.Fn

namespace Go.Proofs.YtnbjneknicppcaaDoor.Fn
open Go.RowKit Go.Proofs.YtnbjneknicppcaaDoorW.PrintWords Go.Proofs.YtnbjneknicppcaaDoorW.PrintLast Go.Proofs.YtnbjneknicppcaaDoorW.PrintMore
attribute [local go_sem] min2_int min_two
set_option linter.unusedVariables false
set_option linter.unusedSimpArgs false
theorem eqA25 (d : Nat) (w : World) (x0 y0 : Int) (x1 y1 : Int) (x2 y2 : Int) (x3 y3 : Int) (x4 y4 : Int) :
    (Op.equalIn (d + 2) 25 (.agg #[.int .i64 x0, .int .i64 x1, .int .i64 x2, .int .i64 x3, .int .i64 x4]) (.agg #[.int .i64 y0, .int .i64 y1, .int .i64 y2, .int .i64 y3, .int .i64 y4])).run Tryd.prog w = .ok (x0 == y0 && (x1 == y1 && (x2 == y2 && (x3 == y3 && (x4 == y4))))) w := by
  refine eqA_of Tryd.underlying25 (by kernel_rfl) ?_
  refine eqf_cons (by rfl) (by go_simp; rfl) (by go_simp; rfl) (by go_simp) ?_
  refine eqf_cons (by rfl) (by go_simp; rfl) (by go_simp; rfl) (by go_simp) ?_
  refine eqf_cons (by rfl) (by go_simp; rfl) (by go_simp; rfl) (by go_simp) ?_
  refine eqf_cons (by rfl) (by go_simp; rfl) (by go_simp; rfl) (by go_simp) ?_
  exact eqf_last (by rfl) (by go_simp; rfl) (by go_simp; rfl) (by go_simp)
end Go.Proofs.YtnbjneknicppcaaDoor.Fn

namespace Go.Proofs.YtnbjneknicppcaaDoor.Fn
open Go.RowKit Go.Proofs.YtnbjneknicppcaaDoorW.PrintWords Go.Proofs.YtnbjneknicppcaaDoorW.PrintLast Go.Proofs.YtnbjneknicppcaaDoorW.PrintMore
attribute [local go_sem] min2_int min_two
set_option linter.unusedVariables false
set_option linter.unusedSimpArgs false
theorem eqA27 (d : Nat) (w : World) (x0 y0 : Int) (x1 y1 : Bool) (x2 y2 : ByteArray) (x3 y3 : Int) (x4 y4 : Bool) (x5 y5 : ByteArray) (x6 y6 : Bool) (x7 y7 : Int) (x8 y8 : Int) (x9 y9 : Int) (x10 y10 : Int) (x11 y11 : Int) (x12 y12 : Int) (x13 y13 : Int) (x14 y14 : Int) (x15 y15 : Int) (x16 y16 : Int) :
    (Op.equalIn (d + 3) 27 (.agg #[.int .i64 x0, .bool x1, .string x2, .int .i64 x3, .bool x4, .string x5, .bool x6, .int .i64 x7, .int .i64 x8, .int .i64 x9, .int .i64 x10, .int .i64 x11, .int .i64 x12, .int .i64 x13, .int .i64 x14, .int .i64 x15, .int .i64 x16]) (.agg #[.int .i64 y0, .bool y1, .string y2, .int .i64 y3, .bool y4, .string y5, .bool y6, .int .i64 y7, .int .i64 y8, .int .i64 y9, .int .i64 y10, .int .i64 y11, .int .i64 y12, .int .i64 y13, .int .i64 y14, .int .i64 y15, .int .i64 y16])).run Tryd.prog w = .ok ((x0 == y0 && (x1 == y1 && (x2.toList == y2.toList))) && ((x3 == y3 && (x4 == y4 && (x5.toList == y5.toList))) && (x6 == y6 && ((x7 == y7 && (x8 == y8 && (x9 == y9 && (x10 == y10 && (x11 == y11))))) && ((x12 == y12 && (x13 == y13 && (x14 == y14 && (x15 == y15 && (x16 == y16)))))))))) w := by
  refine eqA_of Tryd.underlying27 (by kernel_rfl) ?_
  refine eqf_cons (by rfl) (by go_simp) (by go_simp) (eqA23 (d + 0) w _ _ _ _ _ _) ?_
  refine eqf_cons (by rfl) (by go_simp) (by go_simp) (eqA23 (d + 0) w _ _ _ _ _ _) ?_
  refine eqf_cons (by rfl) (by go_simp; rfl) (by go_simp; rfl) (by go_simp) ?_
  refine eqf_cons (by rfl) (by go_simp) (by go_simp) (eqA25 (d + 0) w _ _ _ _ _ _ _ _ _ _) ?_
  exact eqf_last (by rfl) (by go_simp) (by go_simp) (eqA25 (d + 0) w _ _ _ _ _ _ _ _ _ _)
end Go.Proofs.YtnbjneknicppcaaDoor.Fn

namespace Go.Proofs.YtnbjneknicppcaaDoor.Fn
open Go.RowKit Go.Proofs.YtnbjneknicppcaaDoorW.PrintWords Go.Proofs.YtnbjneknicppcaaDoorW.PrintLast Go.Proofs.YtnbjneknicppcaaDoorW.PrintMore
attribute [local go_sem] min2_int min_two
set_option linter.unusedVariables false
set_option linter.unusedSimpArgs false
/-! ### posix_within: function 30 -/
def posix_within.f (a0 : Int) (a1 : Int) (a2 : Int) : Option (Bool) := if a0 ≥ a1 then (some (decide (a0 ≤ a2))) else (some false)
set_option maxHeartbeats 8000000 in
set_option maxRecDepth 100000 in
theorem posix_within.calls (a0 : Int) (a1 : Int) (a2 : Int) (r : Bool) (w : World) (h : posix_within.f a0 a1 a2 = some r) :
    Calls Tryd.prog 30 #[.int .i64 a0, .int .i64 a1, .int .i64 a2] w fun e w' => e = .returned (.bool r) ∧ Drawn0 w w' := by
  have H : (if a0 ≥ a1 then (some (decide (a0 ≤ a2))) else (some false)) = some r := h
  clear h
  by_cases c4 : a0 ≥ a1
  · rw [if_pos c4] at H
    have c4b0 : decide (a1 ≤ a0) = true := decide_eq_true c4
    clear c4
    obtain rfl := Option.some.inj H
    go_enter Tryd.func30, Tryd.ntmps30
    go_wp2
    go_ret
    exact ⟨by first | rfl | (simp; done) | (simp [*]; done), by repeat (first | exact Drawn0.refl _ | apply Drawn0.step)⟩
  · rw [if_neg c4] at H
    have c4b0 : decide (a1 ≤ a0) = false := decide_eq_false c4
    clear c4
    obtain rfl := Option.some.inj H
    go_enter Tryd.func30, Tryd.ntmps30
    go_wp2
    go_ret
    exact ⟨by first | rfl | (simp; done) | (simp [*]; done), by repeat (first | exact Drawn0.refl _ | apply Drawn0.step)⟩
end Go.Proofs.YtnbjneknicppcaaDoor.Fn

namespace Go.Proofs.YtnbjneknicppcaaDoor.Fn
open Go.RowKit Go.Proofs.YtnbjneknicppcaaDoorW.PrintWords Go.Proofs.YtnbjneknicppcaaDoorW.PrintLast Go.Proofs.YtnbjneknicppcaaDoorW.PrintMore
attribute [local go_sem] min2_int min_two
set_option linter.unusedVariables false
set_option linter.unusedSimpArgs false
/-! ### posix_changes: function 31 -/
mutual
def posix_changes.j0 : Nat → Bool → Int → Int → Int → Int → Int → Option (Bool)
  | 0, _, _, _, _, _, _ => none
  | k + 1, x18, x102000, x102001, x102002, x102003, x102004 => if x18 = true then (some false) else (if x102002 = 0 then (posix_changes.j1 k (x102003 == 0) x102000 x102001 x102002 x102003 x102004) else (posix_changes.j1 k false x102000 x102001 x102002 x102003 x102004))
def posix_changes.j1 : Nat → Bool → Int → Int → Int → Int → Int → Option (Bool)
  | 0, _, _, _, _, _, _ => none
  | k + 1, x5, x102000, x102001, x102002, x102003, x102004 => if x102000 = 1 then (if x5 = true then ((posix_within.f x102001 1 365).bind fun t104 => (some t104)) else (some false)) else (if x102000 = 2 then (if x5 = true then ((posix_within.f x102001 0 365).bind fun t105 => (some t105)) else (some false)) else (if x102000 = 3 then ((posix_within.f x102001 1 12).bind fun t106 => (if t106 = true then ((posix_within.f x102002 1 5).bind fun t107 => (if t107 = true then ((posix_within.f x102003 0 6).bind fun t108 => (some t108)) else (some false))) else (some false))) else (some false)))
end
def posix_changes.f (k : Nat) (a0_0 : Int) (a0_1 : Int) (a0_2 : Int) (a0_3 : Int) (a0_4 : Int) (a1 : Bool) : Option (Bool) := (posix_within.f a0_4 0 89999).bind fun t102 => (if t102 = true then (posix_changes.j0 k false a0_0 a0_1 a0_2 a0_3 a0_4) else (if a1 = true then ((posix_within.f a0_4 (-604799) 604799).bind fun t103 => (posix_changes.j0 k (!t103) a0_0 a0_1 a0_2 a0_3 a0_4)) else (posix_changes.j0 k (!false) a0_0 a0_1 a0_2 a0_3 a0_4)))
theorem posix_changes.mono_l : ∀ k, (∀ y0 y1 y2 y3 y4 y5, LeO (posix_changes.j0 k y0 y1 y2 y3 y4 y5) (posix_changes.j0 (k + 1) y0 y1 y2 y3 y4 y5)) ∧ (∀ y0 y1 y2 y3 y4 y5, LeO (posix_changes.j1 k y0 y1 y2 y3 y4 y5) (posix_changes.j1 (k + 1) y0 y1 y2 y3 y4 y5))
  | 0 => ⟨fun _ _ _ _ _ _ r h => by simp [posix_changes.j0] at h, fun _ _ _ _ _ _ r h => by simp [posix_changes.j1] at h⟩
  | k + 1 => by
    obtain ⟨ih0, ih1⟩ := posix_changes.mono_l k
    refine ⟨?_, ?_⟩
    · intro y0 y1 y2 y3 y4 y5
      unfold posix_changes.j0
      repeat' first
      | (with_reducible exact ih0 _ _ _ _ _ _)
      | (with_reducible exact ih1 _ _ _ _ _ _)
      | (with_reducible exact LeO.refl _)
      | (with_reducible exact LeO.none _)
      | (with_reducible refine LeO.ite ?_ ?_)
      | (with_reducible refine LeO.bind ?_ (fun _ => ?_))
      | exact ih0 _ _ _ _ _ _
      | exact ih1 _ _ _ _ _ _
      | exact LeO.none _
      | refine LeO.ite ?_ ?_
      | refine LeO.bind ?_ (fun _ => ?_)
    · intro y0 y1 y2 y3 y4 y5
      unfold posix_changes.j1
      repeat' first
      | (with_reducible exact ih0 _ _ _ _ _ _)
      | (with_reducible exact ih1 _ _ _ _ _ _)
      | (with_reducible exact LeO.refl _)
      | (with_reducible exact LeO.none _)
      | (with_reducible refine LeO.ite ?_ ?_)
      | (with_reducible refine LeO.bind ?_ (fun _ => ?_))
      | exact ih0 _ _ _ _ _ _
      | exact ih1 _ _ _ _ _ _
      | exact LeO.none _
      | refine LeO.ite ?_ ?_
      | refine LeO.bind ?_ (fun _ => ?_)
theorem posix_changes.mono : ∀ a0 a1 a2 a3 a4 a5 k, LeO (posix_changes.f k a0 a1 a2 a3 a4 a5) (posix_changes.f (k + 1) a0 a1 a2 a3 a4 a5) := by
  intro a0 a1 a2 a3 a4 a5 k
  obtain ⟨ih0, ih1⟩ := posix_changes.mono_l k
  unfold posix_changes.f
  repeat' first
      | (with_reducible exact ih0 _ _ _ _ _ _)
      | (with_reducible exact ih1 _ _ _ _ _ _)
      | (with_reducible exact LeO.refl _)
      | (with_reducible exact LeO.none _)
      | (with_reducible refine LeO.ite ?_ ?_)
      | (with_reducible refine LeO.bind ?_ (fun _ => ?_))
      | exact ih0 _ _ _ _ _ _
      | exact ih1 _ _ _ _ _ _
      | exact LeO.none _
      | refine LeO.ite ?_ ?_
      | refine LeO.bind ?_ (fun _ => ?_)
set_option maxHeartbeats 8000000 in
set_option maxRecDepth 100000 in
theorem posix_changes.calls (k : Nat) (a0_0 : Int) (a0_1 : Int) (a0_2 : Int) (a0_3 : Int) (a0_4 : Int) (a1 : Bool) (r : Bool) (w : World) (h : posix_changes.f k a0_0 a0_1 a0_2 a0_3 a0_4 a1 = some r) :
    Calls Tryd.prog 31 #[.agg #[.int .i64 a0_0, .int .i64 a0_1, .int .i64 a0_2, .int .i64 a0_3, .int .i64 a0_4], .bool a1] w fun e w' => e = .returned (.bool r) ∧ Below w.heap.size w w' := by
  have hu25 := Tryd.underlying25
  have HB := Aside0.mk (Below.refl w.heap.size w)
  have H : ((posix_within.f a0_4 0 89999).bind fun t102 => (if t102 = true then (posix_changes.j0 k false a0_0 a0_1 a0_2 a0_3 a0_4) else (if a1 = true then ((posix_within.f a0_4 (-604799) 604799).bind fun t103 => (posix_changes.j0 k (!t103) a0_0 a0_1 a0_2 a0_3 a0_4)) else (posix_changes.j0 k (!false) a0_0 a0_1 a0_2 a0_3 a0_4)))) = some r := h
  clear h
  have HC3 := Aside0.mk H
  clear H
  go_enter Tryd.func31, Tryd.ntmps31
  go_upto_region 1 with (first | ((with_reducible refine gate_dst (N := 2) rfl ?_); refine box_event ?hg (N := 2) ?hd (cs := #[.int .i64 a0_0, .int .i64 a0_1, .int .i64 a0_2, .int .i64 a0_3, .int .i64 a0_4]) (t := 25) ?hr ?_; (case hd => rfl); (case hg => rfl); (case hr => first | (go_simp; done) | (go_simp; rfl)); intro gb101 hg w4 hbox hb; have n0_ := Aside0.mk (below_step (by repeat (first | (with_reducible first | exact HB.out | apply below_alloc | apply pw_below_drewN | apply below_drew1) | exact HB.out)) hb); have n1_ := Aside0.mk (hbox); have n2_ := Aside0.mk ((by rw [hg]; exact (below_size (by repeat (first | (with_reducible first | exact HB.out | apply below_alloc | apply pw_below_drewN | apply below_drew1) | exact HB.out))) : w.heap.size ≤ gb101)); have n3_ := Aside0.mk ((by rw [hg]; exact (below_size (by repeat (first | (with_reducible first | exact HB.out | apply below_alloc | apply pw_below_drewN | apply below_drew1) | exact HB.out))) : w.heap.size ≤ gb101)); clear HB; have HB := n0_; have BK101 := n1_; have GW101 := n2_; have GE101 := n3_; clear n0_ n1_ n2_ n3_; clear hb hbox hg))
  (try simp only [Act.put, List.setIfInBounds_toArray, List.set_cons_zero, List.set_cons_succ])
  go_cut [18] (fun v18 wc => ∃ (kq : Nat) (x18_2 : Bool), v18 = .bool x18_2 ∧ Aside0 (posix_changes.j0 kq x18_2 a0_0 a0_1 a0_2 a0_3 a0_4 = some r) ∧ Aside0 (kq ≤ k) ∧ Aside0 (wc.heap[gb101]? = some (.cells #[.int .i64 a0_0, .int .i64 a0_1, .int .i64 a0_2, .int .i64 a0_3, .int .i64 a0_4] 25 (0, 0))) ∧ Aside0 (Below w.heap.size w wc))
  case first =>
    have H := HC3.out
    clear HC3
    replace H := Option.bind_eq_some_iff.mp H
    obtain ⟨t102, A50, H⟩ := H
    replace H : (if t102 = true then (posix_changes.j0 k false a0_0 a0_1 a0_2 a0_3 a0_4) else (if a1 = true then ((posix_within.f a0_4 (-604799) 604799).bind fun t103 => (posix_changes.j0 k (!t103) a0_0 a0_1 a0_2 a0_3 a0_4)) else (posix_changes.j0 k (!false) a0_0 a0_1 a0_2 a0_3 a0_4))) = some r := H
    have A5 := Aside0.mk A50
    clear A50
    by_cases c6 : t102 = true
    · subst c6
      have H1 : (posix_changes.j0 k false a0_0 a0_1 a0_2 a0_3 a0_4) = some r := by rw [if_pos rfl] at H; exact H
      clear H
      have H := H1
      clear H1
      have H' := Aside0.mk H
      clear H
      have hcz7_0 : w4.cell? ⟨gb101, 0, none⟩ = some (.int .i64 a0_0) := (blk_cell BK101.out 0).trans rfl
      have hcz7_1 : w4.cell? ⟨gb101, 1, none⟩ = some (.int .i64 a0_1) := (blk_cell BK101.out 1).trans rfl
      have hcz7_2 : w4.cell? ⟨gb101, 2, none⟩ = some (.int .i64 a0_2) := (blk_cell BK101.out 2).trans rfl
      have hcz7_3 : w4.cell? ⟨gb101, 3, none⟩ = some (.int .i64 a0_3) := (blk_cell BK101.out 3).trans rfl
      have hcz7_4 : w4.cell? ⟨gb101, 4, none⟩ = some (.int .i64 a0_4) := (blk_cell BK101.out 4).trans rfl
      have hfz7_0 := blk_frozen BK101.out 0
      have hfz7_1 := blk_frozen BK101.out 1
      have hfz7_2 := blk_frozen BK101.out 2
      have hfz7_3 := blk_frozen BK101.out 3
      have hfz7_4 := blk_frozen BK101.out 4
      go_wp2_with (first | ((with_reducible refine gate_callee (f := 30) rfl ?_); refine goesL_ (some 8) rfl rfl Tryd.func30 (by kernel_rfl) rfl #[.int .i64 a0_4, .int .i64 0, .int .i64 89999] rfl (by (try simp only [List.map_toArray, List.map_cons, List.map_nil]); first | done | rfl | (simp only [List.length_drop, List.length_take]; rfl)) ?_; (with_reducible refine (posix_within.calls a0_4 0 89999 true _ A5.out).mono ?_); rintro e w' ⟨rfl, ⟨nd, rfl⟩⟩; refine ⟨_, rfl, ?_⟩))
      go_meet
      case rel => exact ⟨_, (false), (by first | rfl | (simp; done) | (simp [*]; done)), H', ⟨by first | omega | exact Nat.le_refl _⟩, ⟨by (with_reducible repeat (first | refine blk_drewN ?_ _ | refine blk_drew ?_ | refine blk_alloc ?_ _)); exact BK101.out⟩, ⟨by repeat (first | (with_reducible first | exact HB.out | apply below_alloc | apply pw_below_drewN | apply below_drew1 | refine below_set ?_ GE101.out) | exact HB.out)⟩⟩
    · replace c6 := Bool.eq_false_iff.mpr c6
      subst c6
      have H1 : (if a1 = true then ((posix_within.f a0_4 (-604799) 604799).bind fun t103 => (posix_changes.j0 k (!t103) a0_0 a0_1 a0_2 a0_3 a0_4)) else (posix_changes.j0 k (!false) a0_0 a0_1 a0_2 a0_3 a0_4)) = some r := by rw [if_neg (show ¬ (false = true) by decide)] at H; exact H
      clear H
      have H := H1
      clear H1
      by_cases c8 : a1 = true
      · subst c8
        have H1 : ((posix_within.f a0_4 (-604799) 604799).bind fun t103 => (posix_changes.j0 k (!t103) a0_0 a0_1 a0_2 a0_3 a0_4)) = some r := by rw [if_pos rfl] at H; exact H
        clear H
        have H := H1
        clear H1
        replace H := Option.bind_eq_some_iff.mp H
        obtain ⟨t103, A90, H⟩ := H
        replace H : (posix_changes.j0 k (!t103) a0_0 a0_1 a0_2 a0_3 a0_4) = some r := H
        have A9 := Aside0.mk A90
        clear A90
        have H' := Aside0.mk H
        clear H
        have hcz10_0 : w4.cell? ⟨gb101, 0, none⟩ = some (.int .i64 a0_0) := (blk_cell BK101.out 0).trans rfl
        have hcz10_1 : w4.cell? ⟨gb101, 1, none⟩ = some (.int .i64 a0_1) := (blk_cell BK101.out 1).trans rfl
        have hcz10_2 : w4.cell? ⟨gb101, 2, none⟩ = some (.int .i64 a0_2) := (blk_cell BK101.out 2).trans rfl
        have hcz10_3 : w4.cell? ⟨gb101, 3, none⟩ = some (.int .i64 a0_3) := (blk_cell BK101.out 3).trans rfl
        have hcz10_4 : w4.cell? ⟨gb101, 4, none⟩ = some (.int .i64 a0_4) := (blk_cell BK101.out 4).trans rfl
        have hfz10_0 := blk_frozen BK101.out 0
        have hfz10_1 := blk_frozen BK101.out 1
        have hfz10_2 := blk_frozen BK101.out 2
        have hfz10_3 := blk_frozen BK101.out 3
        have hfz10_4 := blk_frozen BK101.out 4
        go_wp2_with (first | ((with_reducible refine gate_callee (f := 30) rfl ?_); refine goesL_ (some 8) rfl rfl Tryd.func30 (by kernel_rfl) rfl #[.int .i64 a0_4, .int .i64 0, .int .i64 89999] rfl (by (try simp only [List.map_toArray, List.map_cons, List.map_nil]); first | done | rfl | (simp only [List.length_drop, List.length_take]; rfl)) ?_; (with_reducible refine (posix_within.calls a0_4 0 89999 false _ A5.out).mono ?_); rintro e w' ⟨rfl, ⟨nd, rfl⟩⟩; refine ⟨_, rfl, ?_⟩) | (go_at_call 30; (with_reducible refine (posix_within.calls a0_4 (-604799) 604799 t103 _ A9.out).mono ?_); rintro e w' ⟨rfl, ⟨nd, rfl⟩⟩))
        go_meet
        case rel => exact ⟨_, (!t103), (by first | rfl | (simp; done) | (simp [*]; done)), H', ⟨by first | omega | exact Nat.le_refl _⟩, ⟨by (with_reducible repeat (first | refine blk_drewN ?_ _ | refine blk_drew ?_ | refine blk_alloc ?_ _)); exact BK101.out⟩, ⟨by repeat (first | (with_reducible first | exact HB.out | apply below_alloc | apply pw_below_drewN | apply below_drew1 | refine below_set ?_ GE101.out) | exact HB.out)⟩⟩
      · replace c8 := Bool.eq_false_iff.mpr c8
        subst c8
        have H1 : (posix_changes.j0 k (!false) a0_0 a0_1 a0_2 a0_3 a0_4) = some r := by rw [if_neg (show ¬ (false = true) by decide)] at H; exact H
        clear H
        have H := H1
        clear H1
        have H' := Aside0.mk H
        clear H
        have hcz11_0 : w4.cell? ⟨gb101, 0, none⟩ = some (.int .i64 a0_0) := (blk_cell BK101.out 0).trans rfl
        have hcz11_1 : w4.cell? ⟨gb101, 1, none⟩ = some (.int .i64 a0_1) := (blk_cell BK101.out 1).trans rfl
        have hcz11_2 : w4.cell? ⟨gb101, 2, none⟩ = some (.int .i64 a0_2) := (blk_cell BK101.out 2).trans rfl
        have hcz11_3 : w4.cell? ⟨gb101, 3, none⟩ = some (.int .i64 a0_3) := (blk_cell BK101.out 3).trans rfl
        have hcz11_4 : w4.cell? ⟨gb101, 4, none⟩ = some (.int .i64 a0_4) := (blk_cell BK101.out 4).trans rfl
        have hfz11_0 := blk_frozen BK101.out 0
        have hfz11_1 := blk_frozen BK101.out 1
        have hfz11_2 := blk_frozen BK101.out 2
        have hfz11_3 := blk_frozen BK101.out 3
        have hfz11_4 := blk_frozen BK101.out 4
        go_wp2_with (first | ((with_reducible refine gate_callee (f := 30) rfl ?_); refine goesL_ (some 8) rfl rfl Tryd.func30 (by kernel_rfl) rfl #[.int .i64 a0_4, .int .i64 0, .int .i64 89999] rfl (by (try simp only [List.map_toArray, List.map_cons, List.map_nil]); first | done | rfl | (simp only [List.length_drop, List.length_take]; rfl)) ?_; (with_reducible refine (posix_within.calls a0_4 0 89999 false _ A5.out).mono ?_); rintro e w' ⟨rfl, ⟨nd, rfl⟩⟩; refine ⟨_, rfl, ?_⟩))
        go_meet
        case rel => exact ⟨_, (!false), (by first | rfl | (simp; done) | (simp [*]; done)), H', ⟨by first | omega | exact Nat.le_refl _⟩, ⟨by (with_reducible repeat (first | refine blk_drewN ?_ _ | refine blk_drew ?_ | refine blk_alloc ?_ _)); exact BK101.out⟩, ⟨by repeat (first | (with_reducible first | exact HB.out | apply below_alloc | apply pw_below_drewN | apply below_drew1 | refine below_set ?_ GE101.out) | exact HB.out)⟩⟩
  case rest =>
    clear HC3
    try clear p2
    try clear c3
    try clear c6
    try clear c8
    try clear hcz10_0
    try clear hcz10_1
    try clear hcz10_2
    try clear hcz10_3
    try clear hcz10_4
    try clear hcz11_0
    try clear hcz11_1
    try clear hcz11_2
    try clear hcz11_3
    try clear hcz11_4
    try clear hcz7_0
    try clear hcz7_1
    try clear hcz7_2
    try clear hcz7_3
    try clear hcz7_4
    try clear hfz10_0
    try clear hfz10_1
    try clear hfz10_2
    try clear hfz10_3
    try clear hfz10_4
    try clear hfz11_0
    try clear hfz11_1
    try clear hfz11_2
    try clear hfz11_3
    try clear hfz11_4
    try clear hfz7_0
    try clear hfz7_1
    try clear hfz7_2
    try clear hfz7_3
    try clear hfz7_4
    obtain ⟨kq, x18_2, rfl, HA, HJ2, BK101, HB⟩ := hcut
    cases kq with
    | zero => exact absurd HA.out (by simp [posix_changes.j0])
    | succ kj2 =>
      have H := HA.out
      clear HA
      simp only [posix_changes.j0] at H
      by_cases c12 : x18_2 = true
      · subst c12
        have H1 : (some false) = some r := by rw [if_pos rfl] at H; exact H
        clear H
        have H := H1
        clear H1
        obtain rfl := Option.some.inj H
        go_wp2
        go_ret
        exact ⟨by first | rfl | (simp [errW_none, errW_some] <;> rfl) | (simp [*, errW_none, errW_some] <;> rfl), by repeat (first | (with_reducible first | exact HB.out | apply below_alloc | apply pw_below_drewN | apply below_drew1 | refine below_set ?_ GE101.out) | exact HB.out)⟩
      · replace c12 := Bool.eq_false_iff.mpr c12
        subst c12
        have H1 : (if a0_2 = 0 then (posix_changes.j1 kj2 (a0_3 == 0) a0_0 a0_1 a0_2 a0_3 a0_4) else (posix_changes.j1 kj2 false a0_0 a0_1 a0_2 a0_3 a0_4)) = some r := by rw [if_neg (show ¬ (false = true) by decide)] at H; exact H
        clear H
        have H := H1
        clear H1
        have HC13 := Aside0.mk H
        clear H
        go_upto_region 3 with (fail)
        go_cut [5] (fun v5 wc => ∃ (kq : Nat) (x5_12 : Bool), v5 = .bool x5_12 ∧ Aside0 (posix_changes.j1 kq x5_12 a0_0 a0_1 a0_2 a0_3 a0_4 = some r) ∧ Aside0 (kq ≤ kj2) ∧ Aside0 (wc.heap[gb101]? = some (.cells #[.int .i64 a0_0, .int .i64 a0_1, .int .i64 a0_2, .int .i64 a0_3, .int .i64 a0_4] 25 (0, 0))) ∧ Aside0 (Below w.heap.size w wc))
        case first =>
          have H := HC13.out
          clear HC13
          by_cases c14 : a0_2 = 0
          · rw [if_pos c14] at H
            have c14b0 : (a0_2 == 0) = true := beq_iff_eq.mpr c14
            have c14b1 : (a0_2 != 0) = false := bne_eq_false_iff_eq.mpr c14
            clear c14
            (first | rw [c14b0] | (simp only [i64_w, i32_w]; rw [c14b0]) | skip)
            have H' := Aside0.mk H
            clear H
            have hcz15_0 : wc.cell? ⟨gb101, 0, none⟩ = some (.int .i64 a0_0) := (blk_cell BK101.out 0).trans rfl
            have hcz15_1 : wc.cell? ⟨gb101, 1, none⟩ = some (.int .i64 a0_1) := (blk_cell BK101.out 1).trans rfl
            have hcz15_2 : wc.cell? ⟨gb101, 2, none⟩ = some (.int .i64 a0_2) := (blk_cell BK101.out 2).trans rfl
            have hcz15_3 : wc.cell? ⟨gb101, 3, none⟩ = some (.int .i64 a0_3) := (blk_cell BK101.out 3).trans rfl
            have hcz15_4 : wc.cell? ⟨gb101, 4, none⟩ = some (.int .i64 a0_4) := (blk_cell BK101.out 4).trans rfl
            have hfz15_0 := blk_frozen BK101.out 0
            have hfz15_1 := blk_frozen BK101.out 1
            have hfz15_2 := blk_frozen BK101.out 2
            have hfz15_3 := blk_frozen BK101.out 3
            have hfz15_4 := blk_frozen BK101.out 4
            go_wp2
            go_meet
            case rel => exact ⟨_, ((a0_3 == 0)), (by first | rfl | (simp; done) | (simp [*]; done)), H', ⟨by have := HJ2.out; first | omega | exact Nat.le_refl _⟩, ⟨by (with_reducible repeat (first | refine blk_drewN ?_ _ | refine blk_drew ?_ | refine blk_alloc ?_ _)); exact BK101.out⟩, ⟨by repeat (first | (with_reducible first | exact HB.out | apply below_alloc | apply pw_below_drewN | apply below_drew1 | refine below_set ?_ GE101.out) | exact HB.out)⟩⟩
          · rw [if_neg c14] at H
            have c14b0 : (a0_2 == 0) = false := beq_eq_false_iff_ne.mpr c14
            have c14b1 : (a0_2 != 0) = true := bne_iff_ne.mpr c14
            (first | rw [c14b0] | (simp only [i64_w, i32_w]; rw [c14b0]) | skip)
            have H' := Aside0.mk H
            clear H
            have hcz16_0 : wc.cell? ⟨gb101, 0, none⟩ = some (.int .i64 a0_0) := (blk_cell BK101.out 0).trans rfl
            have hcz16_1 : wc.cell? ⟨gb101, 1, none⟩ = some (.int .i64 a0_1) := (blk_cell BK101.out 1).trans rfl
            have hcz16_2 : wc.cell? ⟨gb101, 2, none⟩ = some (.int .i64 a0_2) := (blk_cell BK101.out 2).trans rfl
            have hcz16_3 : wc.cell? ⟨gb101, 3, none⟩ = some (.int .i64 a0_3) := (blk_cell BK101.out 3).trans rfl
            have hcz16_4 : wc.cell? ⟨gb101, 4, none⟩ = some (.int .i64 a0_4) := (blk_cell BK101.out 4).trans rfl
            have hfz16_0 := blk_frozen BK101.out 0
            have hfz16_1 := blk_frozen BK101.out 1
            have hfz16_2 := blk_frozen BK101.out 2
            have hfz16_3 := blk_frozen BK101.out 3
            have hfz16_4 := blk_frozen BK101.out 4
            go_wp2
            go_meet
            case rel => exact ⟨_, (false), (by first | rfl | (simp; done) | (simp [*]; done)), H', ⟨by have := HJ2.out; first | omega | exact Nat.le_refl _⟩, ⟨by (with_reducible repeat (first | refine blk_drewN ?_ _ | refine blk_drew ?_ | refine blk_alloc ?_ _)); exact BK101.out⟩, ⟨by repeat (first | (with_reducible first | exact HB.out | apply below_alloc | apply pw_below_drewN | apply below_drew1 | refine below_set ?_ GE101.out) | exact HB.out)⟩⟩
        case rest =>
          clear HC13
          try clear c1
          try clear p2
          try clear c3
          try clear c6
          try clear c8
          try clear c12
          try clear c14
          try clear c14b0
          try clear c14b1
          try clear hcz10_0
          try clear hcz10_1
          try clear hcz10_2
          try clear hcz10_3
          try clear hcz10_4
          try clear hcz11_0
          try clear hcz11_1
          try clear hcz11_2
          try clear hcz11_3
          try clear hcz11_4
          try clear hcz15_0
          try clear hcz15_1
          try clear hcz15_2
          try clear hcz15_3
          try clear hcz15_4
          try clear hcz16_0
          try clear hcz16_1
          try clear hcz16_2
          try clear hcz16_3
          try clear hcz16_4
          try clear hcz7_0
          try clear hcz7_1
          try clear hcz7_2
          try clear hcz7_3
          try clear hcz7_4
          try clear hfz10_0
          try clear hfz10_1
          try clear hfz10_2
          try clear hfz10_3
          try clear hfz10_4
          try clear hfz11_0
          try clear hfz11_1
          try clear hfz11_2
          try clear hfz11_3
          try clear hfz11_4
          try clear hfz15_0
          try clear hfz15_1
          try clear hfz15_2
          try clear hfz15_3
          try clear hfz15_4
          try clear hfz16_0
          try clear hfz16_1
          try clear hfz16_2
          try clear hfz16_3
          try clear hfz16_4
          try clear hfz7_0
          try clear hfz7_1
          try clear hfz7_2
          try clear hfz7_3
          try clear hfz7_4
          try clear p2
          obtain ⟨kq, x5_12, rfl, HA, HJ12, BK101, HB⟩ := hcut
          cases kq with
          | zero => exact absurd HA.out (by simp [posix_changes.j1])
          | succ kj12 =>
            have H := HA.out
            clear HA
            simp only [posix_changes.j1] at H
            by_cases c17 : a0_0 = 1
            · rw [if_pos c17] at H
              have c17b0 : (a0_0 == 1) = true := beq_iff_eq.mpr c17
              have c17b1 : (a0_0 != 1) = false := bne_eq_false_iff_eq.mpr c17
              clear c17
              by_cases c18 : x5_12 = true
              · subst c18
                have H1 : ((posix_within.f a0_1 1 365).bind fun t104 => (some t104)) = some r := by rw [if_pos rfl] at H; exact H
                clear H
                have H := H1
                clear H1
                replace H := Option.bind_eq_some_iff.mp H
                obtain ⟨t104, A190, H⟩ := H
                replace H : (some t104) = some r := H
                have A19 := Aside0.mk A190
                clear A190
                obtain rfl := Option.some.inj H
                have hcz20_0 : wc.cell? ⟨gb101, 0, none⟩ = some (.int .i64 a0_0) := (blk_cell BK101.out 0).trans rfl
                have hcz20_1 : wc.cell? ⟨gb101, 1, none⟩ = some (.int .i64 a0_1) := (blk_cell BK101.out 1).trans rfl
                have hcz20_2 : wc.cell? ⟨gb101, 2, none⟩ = some (.int .i64 a0_2) := (blk_cell BK101.out 2).trans rfl
                have hcz20_3 : wc.cell? ⟨gb101, 3, none⟩ = some (.int .i64 a0_3) := (blk_cell BK101.out 3).trans rfl
                have hcz20_4 : wc.cell? ⟨gb101, 4, none⟩ = some (.int .i64 a0_4) := (blk_cell BK101.out 4).trans rfl
                have hfz20_0 := blk_frozen BK101.out 0
                have hfz20_1 := blk_frozen BK101.out 1
                have hfz20_2 := blk_frozen BK101.out 2
                have hfz20_3 := blk_frozen BK101.out 3
                have hfz20_4 := blk_frozen BK101.out 4
                go_wp2_with (first | (go_at_call 30; (with_reducible refine (posix_within.calls a0_1 1 365 t104 _ A19.out).mono ?_); rintro e w' ⟨rfl, ⟨nd, rfl⟩⟩))
                go_ret
                exact ⟨by first | rfl | (simp [errW_none, errW_some] <;> rfl) | (simp [*, errW_none, errW_some] <;> rfl), by repeat (first | (with_reducible first | exact HB.out | apply below_alloc | apply pw_below_drewN | apply below_drew1 | refine below_set ?_ GE101.out) | exact HB.out)⟩
              · replace c18 := Bool.eq_false_iff.mpr c18
                subst c18
                have H1 : (some false) = some r := by rw [if_neg (show ¬ (false = true) by decide)] at H; exact H
                clear H
                have H := H1
                clear H1
                obtain rfl := Option.some.inj H
                have hcz21_0 : wc.cell? ⟨gb101, 0, none⟩ = some (.int .i64 a0_0) := (blk_cell BK101.out 0).trans rfl
                have hcz21_1 : wc.cell? ⟨gb101, 1, none⟩ = some (.int .i64 a0_1) := (blk_cell BK101.out 1).trans rfl
                have hcz21_2 : wc.cell? ⟨gb101, 2, none⟩ = some (.int .i64 a0_2) := (blk_cell BK101.out 2).trans rfl
                have hcz21_3 : wc.cell? ⟨gb101, 3, none⟩ = some (.int .i64 a0_3) := (blk_cell BK101.out 3).trans rfl
                have hcz21_4 : wc.cell? ⟨gb101, 4, none⟩ = some (.int .i64 a0_4) := (blk_cell BK101.out 4).trans rfl
                have hfz21_0 := blk_frozen BK101.out 0
                have hfz21_1 := blk_frozen BK101.out 1
                have hfz21_2 := blk_frozen BK101.out 2
                have hfz21_3 := blk_frozen BK101.out 3
                have hfz21_4 := blk_frozen BK101.out 4
                go_wp2
                go_ret
                exact ⟨by first | rfl | (simp [errW_none, errW_some] <;> rfl) | (simp [*, errW_none, errW_some] <;> rfl), by repeat (first | (with_reducible first | exact HB.out | apply below_alloc | apply pw_below_drewN | apply below_drew1 | refine below_set ?_ GE101.out) | exact HB.out)⟩
            · rw [if_neg c17] at H
              have c17b0 : (a0_0 == 1) = false := beq_eq_false_iff_ne.mpr c17
              have c17b1 : (a0_0 != 1) = true := bne_iff_ne.mpr c17
              by_cases c22 : a0_0 = 2
              · rw [if_pos c22] at H
                have c22b0 : (a0_0 == 2) = true := beq_iff_eq.mpr c22
                have c22b1 : (a0_0 != 2) = false := bne_eq_false_iff_eq.mpr c22
                clear c22
                by_cases c23 : x5_12 = true
                · subst c23
                  have H1 : ((posix_within.f a0_1 0 365).bind fun t105 => (some t105)) = some r := by rw [if_pos rfl] at H; exact H
                  clear H
                  have H := H1
                  clear H1
                  replace H := Option.bind_eq_some_iff.mp H
                  obtain ⟨t105, A240, H⟩ := H
                  replace H : (some t105) = some r := H
                  have A24 := Aside0.mk A240
                  clear A240
                  obtain rfl := Option.some.inj H
                  have hcz25_0 : wc.cell? ⟨gb101, 0, none⟩ = some (.int .i64 a0_0) := (blk_cell BK101.out 0).trans rfl
                  have hcz25_1 : wc.cell? ⟨gb101, 1, none⟩ = some (.int .i64 a0_1) := (blk_cell BK101.out 1).trans rfl
                  have hcz25_2 : wc.cell? ⟨gb101, 2, none⟩ = some (.int .i64 a0_2) := (blk_cell BK101.out 2).trans rfl
                  have hcz25_3 : wc.cell? ⟨gb101, 3, none⟩ = some (.int .i64 a0_3) := (blk_cell BK101.out 3).trans rfl
                  have hcz25_4 : wc.cell? ⟨gb101, 4, none⟩ = some (.int .i64 a0_4) := (blk_cell BK101.out 4).trans rfl
                  have hfz25_0 := blk_frozen BK101.out 0
                  have hfz25_1 := blk_frozen BK101.out 1
                  have hfz25_2 := blk_frozen BK101.out 2
                  have hfz25_3 := blk_frozen BK101.out 3
                  have hfz25_4 := blk_frozen BK101.out 4
                  go_wp2_with (first | (go_at_call 30; (with_reducible refine (posix_within.calls a0_1 0 365 t105 _ A24.out).mono ?_); rintro e w' ⟨rfl, ⟨nd, rfl⟩⟩))
                  go_ret
                  exact ⟨by first | rfl | (simp [errW_none, errW_some] <;> rfl) | (simp [*, errW_none, errW_some] <;> rfl), by repeat (first | (with_reducible first | exact HB.out | apply below_alloc | apply pw_below_drewN | apply below_drew1 | refine below_set ?_ GE101.out) | exact HB.out)⟩
                · replace c23 := Bool.eq_false_iff.mpr c23
                  subst c23
                  have H1 : (some false) = some r := by rw [if_neg (show ¬ (false = true) by decide)] at H; exact H
                  clear H
                  have H := H1
                  clear H1
                  obtain rfl := Option.some.inj H
                  have hcz26_0 : wc.cell? ⟨gb101, 0, none⟩ = some (.int .i64 a0_0) := (blk_cell BK101.out 0).trans rfl
                  have hcz26_1 : wc.cell? ⟨gb101, 1, none⟩ = some (.int .i64 a0_1) := (blk_cell BK101.out 1).trans rfl
                  have hcz26_2 : wc.cell? ⟨gb101, 2, none⟩ = some (.int .i64 a0_2) := (blk_cell BK101.out 2).trans rfl
                  have hcz26_3 : wc.cell? ⟨gb101, 3, none⟩ = some (.int .i64 a0_3) := (blk_cell BK101.out 3).trans rfl
                  have hcz26_4 : wc.cell? ⟨gb101, 4, none⟩ = some (.int .i64 a0_4) := (blk_cell BK101.out 4).trans rfl
                  have hfz26_0 := blk_frozen BK101.out 0
                  have hfz26_1 := blk_frozen BK101.out 1
                  have hfz26_2 := blk_frozen BK101.out 2
                  have hfz26_3 := blk_frozen BK101.out 3
                  have hfz26_4 := blk_frozen BK101.out 4
                  go_wp2
                  go_ret
                  exact ⟨by first | rfl | (simp [errW_none, errW_some] <;> rfl) | (simp [*, errW_none, errW_some] <;> rfl), by repeat (first | (with_reducible first | exact HB.out | apply below_alloc | apply pw_below_drewN | apply below_drew1 | refine below_set ?_ GE101.out) | exact HB.out)⟩
              · rw [if_neg c22] at H
                have c22b0 : (a0_0 == 2) = false := beq_eq_false_iff_ne.mpr c22
                have c22b1 : (a0_0 != 2) = true := bne_iff_ne.mpr c22
                by_cases c27 : a0_0 = 3
                · rw [if_pos c27] at H
                  have c27b0 : (a0_0 == 3) = true := beq_iff_eq.mpr c27
                  have c27b1 : (a0_0 != 3) = false := bne_eq_false_iff_eq.mpr c27
                  clear c27
                  replace H := Option.bind_eq_some_iff.mp H
                  obtain ⟨t106, A280, H⟩ := H
                  replace H : (if t106 = true then ((posix_within.f a0_2 1 5).bind fun t107 => (if t107 = true then ((posix_within.f a0_3 0 6).bind fun t108 => (some t108)) else (some false))) else (some false)) = some r := H
                  have A28 := Aside0.mk A280
                  clear A280
                  by_cases c29 : t106 = true
                  · subst c29
                    have H1 : ((posix_within.f a0_2 1 5).bind fun t107 => (if t107 = true then ((posix_within.f a0_3 0 6).bind fun t108 => (some t108)) else (some false))) = some r := by rw [if_pos rfl] at H; exact H
                    clear H
                    have H := H1
                    clear H1
                    replace H := Option.bind_eq_some_iff.mp H
                    obtain ⟨t107, A300, H⟩ := H
                    replace H : (if t107 = true then ((posix_within.f a0_3 0 6).bind fun t108 => (some t108)) else (some false)) = some r := H
                    have A30 := Aside0.mk A300
                    clear A300
                    by_cases c31 : t107 = true
                    · subst c31
                      have H1 : ((posix_within.f a0_3 0 6).bind fun t108 => (some t108)) = some r := by rw [if_pos rfl] at H; exact H
                      clear H
                      have H := H1
                      clear H1
                      replace H := Option.bind_eq_some_iff.mp H
                      obtain ⟨t108, A320, H⟩ := H
                      replace H : (some t108) = some r := H
                      have A32 := Aside0.mk A320
                      clear A320
                      obtain rfl := Option.some.inj H
                      have hcz33_0 : wc.cell? ⟨gb101, 0, none⟩ = some (.int .i64 a0_0) := (blk_cell BK101.out 0).trans rfl
                      have hcz33_1 : wc.cell? ⟨gb101, 1, none⟩ = some (.int .i64 a0_1) := (blk_cell BK101.out 1).trans rfl
                      have hcz33_2 : wc.cell? ⟨gb101, 2, none⟩ = some (.int .i64 a0_2) := (blk_cell BK101.out 2).trans rfl
                      have hcz33_3 : wc.cell? ⟨gb101, 3, none⟩ = some (.int .i64 a0_3) := (blk_cell BK101.out 3).trans rfl
                      have hcz33_4 : wc.cell? ⟨gb101, 4, none⟩ = some (.int .i64 a0_4) := (blk_cell BK101.out 4).trans rfl
                      have hfz33_0 := blk_frozen BK101.out 0
                      have hfz33_1 := blk_frozen BK101.out 1
                      have hfz33_2 := blk_frozen BK101.out 2
                      have hfz33_3 := blk_frozen BK101.out 3
                      have hfz33_4 := blk_frozen BK101.out 4
                      go_wp2_with (first | ((with_reducible refine gate_callee (f := 30) rfl ?_); refine goesL_ (some 49) rfl rfl Tryd.func30 (by kernel_rfl) rfl #[.int .i64 a0_1, .int .i64 1, .int .i64 12] rfl (by (try simp only [List.map_toArray, List.map_cons, List.map_nil]); first | done | rfl | (simp only [List.length_drop, List.length_take]; rfl)) ?_; (with_reducible refine (posix_within.calls a0_1 1 12 true _ A28.out).mono ?_); rintro e w' ⟨rfl, ⟨nd, rfl⟩⟩; refine ⟨_, rfl, ?_⟩) | (go_at_call 30; (with_reducible refine (posix_within.calls a0_2 1 5 true _ A30.out).mono ?_); rintro e w' ⟨rfl, ⟨nd, rfl⟩⟩) | (go_at_call 30; (with_reducible refine (posix_within.calls a0_3 0 6 t108 _ A32.out).mono ?_); rintro e w' ⟨rfl, ⟨nd, rfl⟩⟩))
                      go_ret
                      exact ⟨by first | rfl | (simp [errW_none, errW_some] <;> rfl) | (simp [*, errW_none, errW_some] <;> rfl), by repeat (first | (with_reducible first | exact HB.out | apply below_alloc | apply pw_below_drewN | apply below_drew1 | refine below_set ?_ GE101.out) | exact HB.out)⟩
                    · replace c31 := Bool.eq_false_iff.mpr c31
                      subst c31
                      have H1 : (some false) = some r := by rw [if_neg (show ¬ (false = true) by decide)] at H; exact H
                      clear H
                      have H := H1
                      clear H1
                      obtain rfl := Option.some.inj H
                      have hcz34_0 : wc.cell? ⟨gb101, 0, none⟩ = some (.int .i64 a0_0) := (blk_cell BK101.out 0).trans rfl
                      have hcz34_1 : wc.cell? ⟨gb101, 1, none⟩ = some (.int .i64 a0_1) := (blk_cell BK101.out 1).trans rfl
                      have hcz34_2 : wc.cell? ⟨gb101, 2, none⟩ = some (.int .i64 a0_2) := (blk_cell BK101.out 2).trans rfl
                      have hcz34_3 : wc.cell? ⟨gb101, 3, none⟩ = some (.int .i64 a0_3) := (blk_cell BK101.out 3).trans rfl
                      have hcz34_4 : wc.cell? ⟨gb101, 4, none⟩ = some (.int .i64 a0_4) := (blk_cell BK101.out 4).trans rfl
                      have hfz34_0 := blk_frozen BK101.out 0
                      have hfz34_1 := blk_frozen BK101.out 1
                      have hfz34_2 := blk_frozen BK101.out 2
                      have hfz34_3 := blk_frozen BK101.out 3
                      have hfz34_4 := blk_frozen BK101.out 4
                      go_wp2_with (first | ((with_reducible refine gate_callee (f := 30) rfl ?_); refine goesL_ (some 49) rfl rfl Tryd.func30 (by kernel_rfl) rfl #[.int .i64 a0_1, .int .i64 1, .int .i64 12] rfl (by (try simp only [List.map_toArray, List.map_cons, List.map_nil]); first | done | rfl | (simp only [List.length_drop, List.length_take]; rfl)) ?_; (with_reducible refine (posix_within.calls a0_1 1 12 true _ A28.out).mono ?_); rintro e w' ⟨rfl, ⟨nd, rfl⟩⟩; refine ⟨_, rfl, ?_⟩) | (go_at_call 30; (with_reducible refine (posix_within.calls a0_2 1 5 false _ A30.out).mono ?_); rintro e w' ⟨rfl, ⟨nd, rfl⟩⟩))
                      go_ret
                      exact ⟨by first | rfl | (simp [errW_none, errW_some] <;> rfl) | (simp [*, errW_none, errW_some] <;> rfl), by repeat (first | (with_reducible first | exact HB.out | apply below_alloc | apply pw_below_drewN | apply below_drew1 | refine below_set ?_ GE101.out) | exact HB.out)⟩
                  · replace c29 := Bool.eq_false_iff.mpr c29
                    subst c29
                    have H1 : (some false) = some r := by rw [if_neg (show ¬ (false = true) by decide)] at H; exact H
                    clear H
                    have H := H1
                    clear H1
                    obtain rfl := Option.some.inj H
                    have hcz35_0 : wc.cell? ⟨gb101, 0, none⟩ = some (.int .i64 a0_0) := (blk_cell BK101.out 0).trans rfl
                    have hcz35_1 : wc.cell? ⟨gb101, 1, none⟩ = some (.int .i64 a0_1) := (blk_cell BK101.out 1).trans rfl
                    have hcz35_2 : wc.cell? ⟨gb101, 2, none⟩ = some (.int .i64 a0_2) := (blk_cell BK101.out 2).trans rfl
                    have hcz35_3 : wc.cell? ⟨gb101, 3, none⟩ = some (.int .i64 a0_3) := (blk_cell BK101.out 3).trans rfl
                    have hcz35_4 : wc.cell? ⟨gb101, 4, none⟩ = some (.int .i64 a0_4) := (blk_cell BK101.out 4).trans rfl
                    have hfz35_0 := blk_frozen BK101.out 0
                    have hfz35_1 := blk_frozen BK101.out 1
                    have hfz35_2 := blk_frozen BK101.out 2
                    have hfz35_3 := blk_frozen BK101.out 3
                    have hfz35_4 := blk_frozen BK101.out 4
                    go_wp2_with (first | ((with_reducible refine gate_callee (f := 30) rfl ?_); refine goesL_ (some 49) rfl rfl Tryd.func30 (by kernel_rfl) rfl #[.int .i64 a0_1, .int .i64 1, .int .i64 12] rfl (by (try simp only [List.map_toArray, List.map_cons, List.map_nil]); first | done | rfl | (simp only [List.length_drop, List.length_take]; rfl)) ?_; (with_reducible refine (posix_within.calls a0_1 1 12 false _ A28.out).mono ?_); rintro e w' ⟨rfl, ⟨nd, rfl⟩⟩; refine ⟨_, rfl, ?_⟩))
                    go_ret
                    exact ⟨by first | rfl | (simp [errW_none, errW_some] <;> rfl) | (simp [*, errW_none, errW_some] <;> rfl), by repeat (first | (with_reducible first | exact HB.out | apply below_alloc | apply pw_below_drewN | apply below_drew1 | refine below_set ?_ GE101.out) | exact HB.out)⟩
                · rw [if_neg c27] at H
                  have c27b0 : (a0_0 == 3) = false := beq_eq_false_iff_ne.mpr c27
                  have c27b1 : (a0_0 != 3) = true := bne_iff_ne.mpr c27
                  obtain rfl := Option.some.inj H
                  have hcz36_0 : wc.cell? ⟨gb101, 0, none⟩ = some (.int .i64 a0_0) := (blk_cell BK101.out 0).trans rfl
                  have hcz36_1 : wc.cell? ⟨gb101, 1, none⟩ = some (.int .i64 a0_1) := (blk_cell BK101.out 1).trans rfl
                  have hcz36_2 : wc.cell? ⟨gb101, 2, none⟩ = some (.int .i64 a0_2) := (blk_cell BK101.out 2).trans rfl
                  have hcz36_3 : wc.cell? ⟨gb101, 3, none⟩ = some (.int .i64 a0_3) := (blk_cell BK101.out 3).trans rfl
                  have hcz36_4 : wc.cell? ⟨gb101, 4, none⟩ = some (.int .i64 a0_4) := (blk_cell BK101.out 4).trans rfl
                  have hfz36_0 := blk_frozen BK101.out 0
                  have hfz36_1 := blk_frozen BK101.out 1
                  have hfz36_2 := blk_frozen BK101.out 2
                  have hfz36_3 := blk_frozen BK101.out 3
                  have hfz36_4 := blk_frozen BK101.out 4
                  go_wp2
                  go_ret
                  exact ⟨by first | rfl | (simp [errW_none, errW_some] <;> rfl) | (simp [*, errW_none, errW_some] <;> rfl), by repeat (first | (with_reducible first | exact HB.out | apply below_alloc | apply pw_below_drewN | apply below_drew1 | refine below_set ?_ GE101.out) | exact HB.out)⟩
end Go.Proofs.YtnbjneknicppcaaDoor.Fn

namespace Go.Proofs.YtnbjneknicppcaaDoor.Fn
open Go.RowKit Go.Proofs.YtnbjneknicppcaaDoorW.PrintWords Go.Proofs.YtnbjneknicppcaaDoorW.PrintLast Go.Proofs.YtnbjneknicppcaaDoorW.PrintMore
attribute [local go_sem] min2_int min_two
set_option linter.unusedVariables false
set_option linter.unusedSimpArgs false
attribute [local go_sem high] eqA27
/-! ### posix_Right: function 16 -/
def posix_Right.j0 : Nat → Bool → Bool → Int → Bool → ByteArray → Int → Bool → ByteArray → Bool → Int → Int → Int → Int → Int → Int → Int → Int → Int → Int → Option (Bool)
  | 0, _, _, _, _, _, _, _, _, _, _, _, _, _, _, _, _, _, _, _ => none
  | k + 1, x1, x21, x110000, x110001, x110002, x110003, x110004, x110005, x110006, x110007, x110008, x110009, x110010, x110011, x110012, x110013, x110014, x110015, x110016 => if x21 = true then (some false) else (if x110006 = true then (if x110004 = true then ((posix_named.f x110005).bind fun t112 => (if t112 = true then ((posix_within.f x110003 (-89999) 89999).bind fun t113 => (if t113 = true then ((posix_changes.f k x110007 x110008 x110009 x110010 x110011 x1).bind fun t114 => (if t114 = true then ((posix_changes.f k x110012 x110013 x110014 x110015 x110016 x1).bind fun t115 => (some t115)) else (some false))) else (some false))) else (some false))) else (some false)) else (some ((x110003 == 0 && (!x110004 && (x110005.toList.isEmpty))) && (!x110006 && ((x110007 == 0 && (x110008 == 0 && (x110009 == 0 && (x110010 == 0 && (x110011 == 0))))) && ((x110012 == 0 && (x110013 == 0 && (x110014 == 0 && (x110015 == 0 && (x110016 == 0)))))))))))
def posix_Right.f (k : Nat) (a0_0 : Int) (a0_1 : Bool) (a0_2 : ByteArray) (a0_3 : Int) (a0_4 : Bool) (a0_5 : ByteArray) (a0_6 : Bool) (a0_7 : Int) (a0_8 : Int) (a0_9 : Int) (a0_10 : Int) (a0_11 : Int) (a0_12 : Int) (a0_13 : Int) (a0_14 : Int) (a0_15 : Int) (a0_16 : Int) (a1 : Bool) : Option (Bool) := if a0_1 = true then (posix_Right.j0 k a1 true a0_0 a0_1 a0_2 a0_3 a0_4 a0_5 a0_6 a0_7 a0_8 a0_9 a0_10 a0_11 a0_12 a0_13 a0_14 a0_15 a0_16) else ((posix_named.f a0_2).bind fun t110 => (if t110 = true then ((posix_within.f a0_0 (-89999) 89999).bind fun t111 => (posix_Right.j0 k a1 (!t111) a0_0 a0_1 a0_2 a0_3 a0_4 a0_5 a0_6 a0_7 a0_8 a0_9 a0_10 a0_11 a0_12 a0_13 a0_14 a0_15 a0_16)) else (posix_Right.j0 k a1 true a0_0 a0_1 a0_2 a0_3 a0_4 a0_5 a0_6 a0_7 a0_8 a0_9 a0_10 a0_11 a0_12 a0_13 a0_14 a0_15 a0_16)))
theorem posix_Right.mono_l : ∀ k, (∀ y0 y1 y2 y3 y4 y5 y6 y7 y8 y9 y10 y11 y12 y13 y14 y15 y16 y17 y18, LeO (posix_Right.j0 k y0 y1 y2 y3 y4 y5 y6 y7 y8 y9 y10 y11 y12 y13 y14 y15 y16 y17 y18) (posix_Right.j0 (k + 1) y0 y1 y2 y3 y4 y5 y6 y7 y8 y9 y10 y11 y12 y13 y14 y15 y16 y17 y18))
  | 0 => fun _ _ _ _ _ _ _ _ _ _ _ _ _ _ _ _ _ _ _ r h => by simp [posix_Right.j0] at h
  | k + 1 => by
    have ih0 := posix_Right.mono_l k
    · intro y0 y1 y2 y3 y4 y5 y6 y7 y8 y9 y10 y11 y12 y13 y14 y15 y16 y17 y18
      unfold posix_Right.j0
      repeat' first
      | (with_reducible exact ih0 _ _ _ _ _ _ _ _ _ _ _ _ _ _ _ _ _ _ _)
      | (with_reducible exact posix_changes.mono _ _ _ _ _ _ _)
      | (with_reducible exact LeO.refl _)
      | (with_reducible exact LeO.none _)
      | (with_reducible refine LeO.ite ?_ ?_)
      | (with_reducible refine LeO.bind ?_ (fun _ => ?_))
      | exact ih0 _ _ _ _ _ _ _ _ _ _ _ _ _ _ _ _ _ _ _
      | exact posix_changes.mono _ _ _ _ _ _ _
      | exact LeO.none _
      | refine LeO.ite ?_ ?_
      | refine LeO.bind ?_ (fun _ => ?_)
theorem posix_Right.mono : ∀ a0 a1 a2 a3 a4 a5 a6 a7 a8 a9 a10 a11 a12 a13 a14 a15 a16 a17 k, LeO (posix_Right.f k a0 a1 a2 a3 a4 a5 a6 a7 a8 a9 a10 a11 a12 a13 a14 a15 a16 a17) (posix_Right.f (k + 1) a0 a1 a2 a3 a4 a5 a6 a7 a8 a9 a10 a11 a12 a13 a14 a15 a16 a17) := by
  intro a0 a1 a2 a3 a4 a5 a6 a7 a8 a9 a10 a11 a12 a13 a14 a15 a16 a17 k
  have ih0 := posix_Right.mono_l k
  unfold posix_Right.f
  repeat' first
      | (with_reducible exact ih0 _ _ _ _ _ _ _ _ _ _ _ _ _ _ _ _ _ _ _)
      | (with_reducible exact posix_changes.mono _ _ _ _ _ _ _)
      | (with_reducible exact LeO.refl _)
      | (with_reducible exact LeO.none _)
      | (with_reducible refine LeO.ite ?_ ?_)
      | (with_reducible refine LeO.bind ?_ (fun _ => ?_))
      | exact ih0 _ _ _ _ _ _ _ _ _ _ _ _ _ _ _ _ _ _ _
      | exact posix_changes.mono _ _ _ _ _ _ _
      | exact LeO.none _
      | refine LeO.ite ?_ ?_
      | refine LeO.bind ?_ (fun _ => ?_)
set_option maxHeartbeats 8000000 in
set_option maxRecDepth 100000 in
theorem posix_Right.calls (k : Nat) (a0_0 : Int) (a0_1 : Bool) (a0_2 : ByteArray) (a0_3 : Int) (a0_4 : Bool) (a0_5 : ByteArray) (a0_6 : Bool) (a0_7 : Int) (a0_8 : Int) (a0_9 : Int) (a0_10 : Int) (a0_11 : Int) (a0_12 : Int) (a0_13 : Int) (a0_14 : Int) (a0_15 : Int) (a0_16 : Int) (a1 : Bool) (r : Bool) (w : World) (h : posix_Right.f k a0_0 a0_1 a0_2 a0_3 a0_4 a0_5 a0_6 a0_7 a0_8 a0_9 a0_10 a0_11 a0_12 a0_13 a0_14 a0_15 a0_16 a1 = some r) :
    Calls Tryd.prog 16 #[.agg #[.int .i64 a0_0, .bool a0_1, .string a0_2, .int .i64 a0_3, .bool a0_4, .string a0_5, .bool a0_6, .int .i64 a0_7, .int .i64 a0_8, .int .i64 a0_9, .int .i64 a0_10, .int .i64 a0_11, .int .i64 a0_12, .int .i64 a0_13, .int .i64 a0_14, .int .i64 a0_15, .int .i64 a0_16], .bool a1] w fun e w' => e = .returned (.bool r) ∧ Below w.heap.size w w' := by
  have hu27 := Tryd.underlying27
  have hu23 := Tryd.underlying23
  have hu25 := Tryd.underlying25
  have HB := Aside0.mk (Below.refl w.heap.size w)
  have H : (if a0_1 = true then (posix_Right.j0 k a1 true a0_0 a0_1 a0_2 a0_3 a0_4 a0_5 a0_6 a0_7 a0_8 a0_9 a0_10 a0_11 a0_12 a0_13 a0_14 a0_15 a0_16) else ((posix_named.f a0_2).bind fun t110 => (if t110 = true then ((posix_within.f a0_0 (-89999) 89999).bind fun t111 => (posix_Right.j0 k a1 (!t111) a0_0 a0_1 a0_2 a0_3 a0_4 a0_5 a0_6 a0_7 a0_8 a0_9 a0_10 a0_11 a0_12 a0_13 a0_14 a0_15 a0_16)) else (posix_Right.j0 k a1 true a0_0 a0_1 a0_2 a0_3 a0_4 a0_5 a0_6 a0_7 a0_8 a0_9 a0_10 a0_11 a0_12 a0_13 a0_14 a0_15 a0_16)))) = some r := h
  clear h
  have HC3 := Aside0.mk H
  clear H
  go_enter Tryd.func16, Tryd.ntmps16
  go_upto_region 1 with (first | ((with_reducible refine gate_dst (N := 2) rfl ?_); refine box_event ?hg (N := 2) ?hd (cs := #[.int .i64 a0_0, .bool a0_1, .string a0_2, .int .i64 a0_3, .bool a0_4, .string a0_5, .bool a0_6, .int .i64 a0_7, .int .i64 a0_8, .int .i64 a0_9, .int .i64 a0_10, .int .i64 a0_11, .int .i64 a0_12, .int .i64 a0_13, .int .i64 a0_14, .int .i64 a0_15, .int .i64 a0_16]) (t := 27) ?hr ?_; (case hd => rfl); (case hg => rfl); (case hr => first | (go_simp; done) | (go_simp; rfl)); intro gb109 hg w4 hbox hb; have n0_ := Aside0.mk (below_step (by repeat (first | (with_reducible first | exact HB.out | apply below_alloc | apply pw_below_drewN | apply below_drew1) | exact HB.out)) hb); have n1_ := Aside0.mk (hbox); have n2_ := Aside0.mk ((by rw [hg]; exact (below_size (by repeat (first | (with_reducible first | exact HB.out | apply below_alloc | apply pw_below_drewN | apply below_drew1) | exact HB.out))) : w.heap.size ≤ gb109)); have n3_ := Aside0.mk ((by rw [hg]; exact (below_size (by repeat (first | (with_reducible first | exact HB.out | apply below_alloc | apply pw_below_drewN | apply below_drew1) | exact HB.out))) : w.heap.size ≤ gb109)); clear HB; have HB := n0_; have BK109 := n1_; have GW109 := n2_; have GE109 := n3_; clear n0_ n1_ n2_ n3_; clear hb hbox hg))
  (try simp only [Act.put, List.setIfInBounds_toArray, List.set_cons_zero, List.set_cons_succ])
  go_cut [21] (fun v21 wc => ∃ (kq : Nat) (x21_2 : Bool), v21 = .bool x21_2 ∧ Aside0 (posix_Right.j0 kq a1 x21_2 a0_0 a0_1 a0_2 a0_3 a0_4 a0_5 a0_6 a0_7 a0_8 a0_9 a0_10 a0_11 a0_12 a0_13 a0_14 a0_15 a0_16 = some r) ∧ Aside0 (kq ≤ k) ∧ Aside0 (wc.heap[gb109]? = some (.cells #[.int .i64 a0_0, .bool a0_1, .string a0_2, .int .i64 a0_3, .bool a0_4, .string a0_5, .bool a0_6, .int .i64 a0_7, .int .i64 a0_8, .int .i64 a0_9, .int .i64 a0_10, .int .i64 a0_11, .int .i64 a0_12, .int .i64 a0_13, .int .i64 a0_14, .int .i64 a0_15, .int .i64 a0_16] 27 (0, 0))) ∧ Aside0 (Below w.heap.size w wc))
  case first =>
    have H := HC3.out
    clear HC3
    by_cases c5 : a0_1 = true
    · subst c5
      have H1 : (posix_Right.j0 k a1 true a0_0 true a0_2 a0_3 a0_4 a0_5 a0_6 a0_7 a0_8 a0_9 a0_10 a0_11 a0_12 a0_13 a0_14 a0_15 a0_16) = some r := by rw [if_pos rfl] at H; exact H
      clear H
      have H := H1
      clear H1
      have H' := Aside0.mk H
      clear H
      have hcz6_0 : w4.cell? ⟨gb109, 0, none⟩ = some (.int .i64 a0_0) := (blk_cell BK109.out 0).trans rfl
      have hcz6_1 : w4.cell? ⟨gb109, 1, none⟩ = some (.bool true) := (blk_cell BK109.out 1).trans rfl
      have hcz6_2 : w4.cell? ⟨gb109, 2, none⟩ = some (.string a0_2) := (blk_cell BK109.out 2).trans rfl
      have hcz6_3 : w4.cell? ⟨gb109, 3, none⟩ = some (.int .i64 a0_3) := (blk_cell BK109.out 3).trans rfl
      have hcz6_4 : w4.cell? ⟨gb109, 4, none⟩ = some (.bool a0_4) := (blk_cell BK109.out 4).trans rfl
      have hcz6_5 : w4.cell? ⟨gb109, 5, none⟩ = some (.string a0_5) := (blk_cell BK109.out 5).trans rfl
      have hcz6_6 : w4.cell? ⟨gb109, 6, none⟩ = some (.bool a0_6) := (blk_cell BK109.out 6).trans rfl
      have hcz6_7 : w4.cell? ⟨gb109, 7, none⟩ = some (.int .i64 a0_7) := (blk_cell BK109.out 7).trans rfl
      have hcz6_8 : w4.cell? ⟨gb109, 8, none⟩ = some (.int .i64 a0_8) := (blk_cell BK109.out 8).trans rfl
      have hcz6_9 : w4.cell? ⟨gb109, 9, none⟩ = some (.int .i64 a0_9) := (blk_cell BK109.out 9).trans rfl
      have hcz6_10 : w4.cell? ⟨gb109, 10, none⟩ = some (.int .i64 a0_10) := (blk_cell BK109.out 10).trans rfl
      have hcz6_11 : w4.cell? ⟨gb109, 11, none⟩ = some (.int .i64 a0_11) := (blk_cell BK109.out 11).trans rfl
      have hcz6_12 : w4.cell? ⟨gb109, 12, none⟩ = some (.int .i64 a0_12) := (blk_cell BK109.out 12).trans rfl
      have hcz6_13 : w4.cell? ⟨gb109, 13, none⟩ = some (.int .i64 a0_13) := (blk_cell BK109.out 13).trans rfl
      have hcz6_14 : w4.cell? ⟨gb109, 14, none⟩ = some (.int .i64 a0_14) := (blk_cell BK109.out 14).trans rfl
      have hcz6_15 : w4.cell? ⟨gb109, 15, none⟩ = some (.int .i64 a0_15) := (blk_cell BK109.out 15).trans rfl
      have hcz6_16 : w4.cell? ⟨gb109, 16, none⟩ = some (.int .i64 a0_16) := (blk_cell BK109.out 16).trans rfl
      have hfz6_0 := blk_frozen BK109.out 0
      have hfz6_1 := blk_frozen BK109.out 1
      have hfz6_2 := blk_frozen BK109.out 2
      have hfz6_3 := blk_frozen BK109.out 3
      have hfz6_4 := blk_frozen BK109.out 4
      have hfz6_5 := blk_frozen BK109.out 5
      have hfz6_6 := blk_frozen BK109.out 6
      have hfz6_7 := blk_frozen BK109.out 7
      have hfz6_8 := blk_frozen BK109.out 8
      have hfz6_9 := blk_frozen BK109.out 9
      have hfz6_10 := blk_frozen BK109.out 10
      have hfz6_11 := blk_frozen BK109.out 11
      have hfz6_12 := blk_frozen BK109.out 12
      have hfz6_13 := blk_frozen BK109.out 13
      have hfz6_14 := blk_frozen BK109.out 14
      have hfz6_15 := blk_frozen BK109.out 15
      have hfz6_16 := blk_frozen BK109.out 16
      go_wp2
      go_meet
      case rel => exact ⟨_, (true), (by first | rfl | (simp; done) | (simp [*]; done)), H', ⟨by first | omega | exact Nat.le_refl _⟩, ⟨by (with_reducible repeat (first | refine blk_drewN ?_ _ | refine blk_drew ?_ | refine blk_alloc ?_ _)); exact BK109.out⟩, ⟨by repeat (first | (with_reducible first | exact HB.out | apply below_alloc | apply pw_below_drewN | apply below_drew1 | refine below_set ?_ GE109.out) | exact HB.out)⟩⟩
    · replace c5 := Bool.eq_false_iff.mpr c5
      subst c5
      have H1 : ((posix_named.f a0_2).bind fun t110 => (if t110 = true then ((posix_within.f a0_0 (-89999) 89999).bind fun t111 => (posix_Right.j0 k a1 (!t111) a0_0 false a0_2 a0_3 a0_4 a0_5 a0_6 a0_7 a0_8 a0_9 a0_10 a0_11 a0_12 a0_13 a0_14 a0_15 a0_16)) else (posix_Right.j0 k a1 true a0_0 false a0_2 a0_3 a0_4 a0_5 a0_6 a0_7 a0_8 a0_9 a0_10 a0_11 a0_12 a0_13 a0_14 a0_15 a0_16))) = some r := by rw [if_neg (show ¬ (false = true) by decide)] at H; exact H
      clear H
      have H := H1
      clear H1
      replace H := Option.bind_eq_some_iff.mp H
      obtain ⟨t110, A70, H⟩ := H
      replace H : (if t110 = true then ((posix_within.f a0_0 (-89999) 89999).bind fun t111 => (posix_Right.j0 k a1 (!t111) a0_0 false a0_2 a0_3 a0_4 a0_5 a0_6 a0_7 a0_8 a0_9 a0_10 a0_11 a0_12 a0_13 a0_14 a0_15 a0_16)) else (posix_Right.j0 k a1 true a0_0 false a0_2 a0_3 a0_4 a0_5 a0_6 a0_7 a0_8 a0_9 a0_10 a0_11 a0_12 a0_13 a0_14 a0_15 a0_16)) = some r := H
      have A7 := Aside0.mk A70
      clear A70
      by_cases c8 : t110 = true
      · subst c8
        have H1 : ((posix_within.f a0_0 (-89999) 89999).bind fun t111 => (posix_Right.j0 k a1 (!t111) a0_0 false a0_2 a0_3 a0_4 a0_5 a0_6 a0_7 a0_8 a0_9 a0_10 a0_11 a0_12 a0_13 a0_14 a0_15 a0_16)) = some r := by rw [if_pos rfl] at H; exact H
        clear H
        have H := H1
        clear H1
        replace H := Option.bind_eq_some_iff.mp H
        obtain ⟨t111, A90, H⟩ := H
        replace H : (posix_Right.j0 k a1 (!t111) a0_0 false a0_2 a0_3 a0_4 a0_5 a0_6 a0_7 a0_8 a0_9 a0_10 a0_11 a0_12 a0_13 a0_14 a0_15 a0_16) = some r := H
        have A9 := Aside0.mk A90
        clear A90
        have H' := Aside0.mk H
        clear H
        have hcz10_0 : w4.cell? ⟨gb109, 0, none⟩ = some (.int .i64 a0_0) := (blk_cell BK109.out 0).trans rfl
        have hcz10_1 : w4.cell? ⟨gb109, 1, none⟩ = some (.bool false) := (blk_cell BK109.out 1).trans rfl
        have hcz10_2 : w4.cell? ⟨gb109, 2, none⟩ = some (.string a0_2) := (blk_cell BK109.out 2).trans rfl
        have hcz10_3 : w4.cell? ⟨gb109, 3, none⟩ = some (.int .i64 a0_3) := (blk_cell BK109.out 3).trans rfl
        have hcz10_4 : w4.cell? ⟨gb109, 4, none⟩ = some (.bool a0_4) := (blk_cell BK109.out 4).trans rfl
        have hcz10_5 : w4.cell? ⟨gb109, 5, none⟩ = some (.string a0_5) := (blk_cell BK109.out 5).trans rfl
        have hcz10_6 : w4.cell? ⟨gb109, 6, none⟩ = some (.bool a0_6) := (blk_cell BK109.out 6).trans rfl
        have hcz10_7 : w4.cell? ⟨gb109, 7, none⟩ = some (.int .i64 a0_7) := (blk_cell BK109.out 7).trans rfl
        have hcz10_8 : w4.cell? ⟨gb109, 8, none⟩ = some (.int .i64 a0_8) := (blk_cell BK109.out 8).trans rfl
        have hcz10_9 : w4.cell? ⟨gb109, 9, none⟩ = some (.int .i64 a0_9) := (blk_cell BK109.out 9).trans rfl
        have hcz10_10 : w4.cell? ⟨gb109, 10, none⟩ = some (.int .i64 a0_10) := (blk_cell BK109.out 10).trans rfl
        have hcz10_11 : w4.cell? ⟨gb109, 11, none⟩ = some (.int .i64 a0_11) := (blk_cell BK109.out 11).trans rfl
        have hcz10_12 : w4.cell? ⟨gb109, 12, none⟩ = some (.int .i64 a0_12) := (blk_cell BK109.out 12).trans rfl
        have hcz10_13 : w4.cell? ⟨gb109, 13, none⟩ = some (.int .i64 a0_13) := (blk_cell BK109.out 13).trans rfl
        have hcz10_14 : w4.cell? ⟨gb109, 14, none⟩ = some (.int .i64 a0_14) := (blk_cell BK109.out 14).trans rfl
        have hcz10_15 : w4.cell? ⟨gb109, 15, none⟩ = some (.int .i64 a0_15) := (blk_cell BK109.out 15).trans rfl
        have hcz10_16 : w4.cell? ⟨gb109, 16, none⟩ = some (.int .i64 a0_16) := (blk_cell BK109.out 16).trans rfl
        have hfz10_0 := blk_frozen BK109.out 0
        have hfz10_1 := blk_frozen BK109.out 1
        have hfz10_2 := blk_frozen BK109.out 2
        have hfz10_3 := blk_frozen BK109.out 3
        have hfz10_4 := blk_frozen BK109.out 4
        have hfz10_5 := blk_frozen BK109.out 5
        have hfz10_6 := blk_frozen BK109.out 6
        have hfz10_7 := blk_frozen BK109.out 7
        have hfz10_8 := blk_frozen BK109.out 8
        have hfz10_9 := blk_frozen BK109.out 9
        have hfz10_10 := blk_frozen BK109.out 10
        have hfz10_11 := blk_frozen BK109.out 11
        have hfz10_12 := blk_frozen BK109.out 12
        have hfz10_13 := blk_frozen BK109.out 13
        have hfz10_14 := blk_frozen BK109.out 14
        have hfz10_15 := blk_frozen BK109.out 15
        have hfz10_16 := blk_frozen BK109.out 16
        go_wp2_with (first | (go_at_call 29; (with_reducible refine (posix_named.calls a0_2 true _ A7.out).mono ?_); rintro e w11 ⟨rfl, hb⟩; have n0_ := Aside0.mk (blk_below (g := gb109) (o := .cells #[.int .i64 a0_0, .bool false, .string a0_2, .int .i64 a0_3, .bool a0_4, .string a0_5, .bool a0_6, .int .i64 a0_7, .int .i64 a0_8, .int .i64 a0_9, .int .i64 a0_10, .int .i64 a0_11, .int .i64 a0_12, .int .i64 a0_13, .int .i64 a0_14, .int .i64 a0_15, .int .i64 a0_16] 27 (0, 0)) (by (with_reducible repeat (first | refine blk_drewN ?_ _ | refine blk_drew ?_ | refine blk_alloc ?_ _)); exact BK109.out) hb); have n1_ := Aside0.mk (below_step (by repeat (first | (with_reducible first | exact HB.out | apply below_alloc | apply pw_below_drewN | apply below_drew1 | refine below_set ?_ GE109.out) | exact HB.out)) hb); clear BK109; clear HB; have BK109 := n0_; have HB := n1_; clear n0_ n1_; (try clear hb); (try clear hb2); (try clear hk); (try clear hi); have hcz12_0 : w11.cell? ⟨gb109, 0, none⟩ = some (.int .i64 a0_0) := (blk_cell BK109.out 0).trans rfl; have hcz12_1 : w11.cell? ⟨gb109, 1, none⟩ = some (.bool false) := (blk_cell BK109.out 1).trans rfl; have hcz12_2 : w11.cell? ⟨gb109, 2, none⟩ = some (.string a0_2) := (blk_cell BK109.out 2).trans rfl; have hcz12_3 : w11.cell? ⟨gb109, 3, none⟩ = some (.int .i64 a0_3) := (blk_cell BK109.out 3).trans rfl; have hcz12_4 : w11.cell? ⟨gb109, 4, none⟩ = some (.bool a0_4) := (blk_cell BK109.out 4).trans rfl; have hcz12_5 : w11.cell? ⟨gb109, 5, none⟩ = some (.string a0_5) := (blk_cell BK109.out 5).trans rfl; have hcz12_6 : w11.cell? ⟨gb109, 6, none⟩ = some (.bool a0_6) := (blk_cell BK109.out 6).trans rfl; have hcz12_7 : w11.cell? ⟨gb109, 7, none⟩ = some (.int .i64 a0_7) := (blk_cell BK109.out 7).trans rfl; have hcz12_8 : w11.cell? ⟨gb109, 8, none⟩ = some (.int .i64 a0_8) := (blk_cell BK109.out 8).trans rfl; have hcz12_9 : w11.cell? ⟨gb109, 9, none⟩ = some (.int .i64 a0_9) := (blk_cell BK109.out 9).trans rfl; have hcz12_10 : w11.cell? ⟨gb109, 10, none⟩ = some (.int .i64 a0_10) := (blk_cell BK109.out 10).trans rfl; have hcz12_11 : w11.cell? ⟨gb109, 11, none⟩ = some (.int .i64 a0_11) := (blk_cell BK109.out 11).trans rfl; have hcz12_12 : w11.cell? ⟨gb109, 12, none⟩ = some (.int .i64 a0_12) := (blk_cell BK109.out 12).trans rfl; have hcz12_13 : w11.cell? ⟨gb109, 13, none⟩ = some (.int .i64 a0_13) := (blk_cell BK109.out 13).trans rfl; have hcz12_14 : w11.cell? ⟨gb109, 14, none⟩ = some (.int .i64 a0_14) := (blk_cell BK109.out 14).trans rfl; have hcz12_15 : w11.cell? ⟨gb109, 15, none⟩ = some (.int .i64 a0_15) := (blk_cell BK109.out 15).trans rfl; have hcz12_16 : w11.cell? ⟨gb109, 16, none⟩ = some (.int .i64 a0_16) := (blk_cell BK109.out 16).trans rfl; have hfz12_0 := blk_frozen BK109.out 0; have hfz12_1 := blk_frozen BK109.out 1; have hfz12_2 := blk_frozen BK109.out 2; have hfz12_3 := blk_frozen BK109.out 3; have hfz12_4 := blk_frozen BK109.out 4; have hfz12_5 := blk_frozen BK109.out 5; have hfz12_6 := blk_frozen BK109.out 6; have hfz12_7 := blk_frozen BK109.out 7; have hfz12_8 := blk_frozen BK109.out 8; have hfz12_9 := blk_frozen BK109.out 9; have hfz12_10 := blk_frozen BK109.out 10; have hfz12_11 := blk_frozen BK109.out 11; have hfz12_12 := blk_frozen BK109.out 12; have hfz12_13 := blk_frozen BK109.out 13; have hfz12_14 := blk_frozen BK109.out 14; have hfz12_15 := blk_frozen BK109.out 15; have hfz12_16 := blk_frozen BK109.out 16) | (go_at_call 30; (with_reducible refine (posix_within.calls a0_0 (-89999) 89999 t111 _ A9.out).mono ?_); rintro e w' ⟨rfl, ⟨nd, rfl⟩⟩))
        go_meet
        case rel => exact ⟨_, (!t111), (by first | rfl | (simp; done) | (simp [*]; done)), H', ⟨by first | omega | exact Nat.le_refl _⟩, ⟨by (with_reducible repeat (first | refine blk_drewN ?_ _ | refine blk_drew ?_ | refine blk_alloc ?_ _)); exact BK109.out⟩, ⟨by repeat (first | (with_reducible first | exact HB.out | apply below_alloc | apply pw_below_drewN | apply below_drew1 | refine below_set ?_ GE109.out) | exact HB.out)⟩⟩
      · replace c8 := Bool.eq_false_iff.mpr c8
        subst c8
        have H1 : (posix_Right.j0 k a1 true a0_0 false a0_2 a0_3 a0_4 a0_5 a0_6 a0_7 a0_8 a0_9 a0_10 a0_11 a0_12 a0_13 a0_14 a0_15 a0_16) = some r := by rw [if_neg (show ¬ (false = true) by decide)] at H; exact H
        clear H
        have H := H1
        clear H1
        have H' := Aside0.mk H
        clear H
        have hcz13_0 : w4.cell? ⟨gb109, 0, none⟩ = some (.int .i64 a0_0) := (blk_cell BK109.out 0).trans rfl
        have hcz13_1 : w4.cell? ⟨gb109, 1, none⟩ = some (.bool false) := (blk_cell BK109.out 1).trans rfl
        have hcz13_2 : w4.cell? ⟨gb109, 2, none⟩ = some (.string a0_2) := (blk_cell BK109.out 2).trans rfl
        have hcz13_3 : w4.cell? ⟨gb109, 3, none⟩ = some (.int .i64 a0_3) := (blk_cell BK109.out 3).trans rfl
        have hcz13_4 : w4.cell? ⟨gb109, 4, none⟩ = some (.bool a0_4) := (blk_cell BK109.out 4).trans rfl
        have hcz13_5 : w4.cell? ⟨gb109, 5, none⟩ = some (.string a0_5) := (blk_cell BK109.out 5).trans rfl
        have hcz13_6 : w4.cell? ⟨gb109, 6, none⟩ = some (.bool a0_6) := (blk_cell BK109.out 6).trans rfl
        have hcz13_7 : w4.cell? ⟨gb109, 7, none⟩ = some (.int .i64 a0_7) := (blk_cell BK109.out 7).trans rfl
        have hcz13_8 : w4.cell? ⟨gb109, 8, none⟩ = some (.int .i64 a0_8) := (blk_cell BK109.out 8).trans rfl
        have hcz13_9 : w4.cell? ⟨gb109, 9, none⟩ = some (.int .i64 a0_9) := (blk_cell BK109.out 9).trans rfl
        have hcz13_10 : w4.cell? ⟨gb109, 10, none⟩ = some (.int .i64 a0_10) := (blk_cell BK109.out 10).trans rfl
        have hcz13_11 : w4.cell? ⟨gb109, 11, none⟩ = some (.int .i64 a0_11) := (blk_cell BK109.out 11).trans rfl
        have hcz13_12 : w4.cell? ⟨gb109, 12, none⟩ = some (.int .i64 a0_12) := (blk_cell BK109.out 12).trans rfl
        have hcz13_13 : w4.cell? ⟨gb109, 13, none⟩ = some (.int .i64 a0_13) := (blk_cell BK109.out 13).trans rfl
        have hcz13_14 : w4.cell? ⟨gb109, 14, none⟩ = some (.int .i64 a0_14) := (blk_cell BK109.out 14).trans rfl
        have hcz13_15 : w4.cell? ⟨gb109, 15, none⟩ = some (.int .i64 a0_15) := (blk_cell BK109.out 15).trans rfl
        have hcz13_16 : w4.cell? ⟨gb109, 16, none⟩ = some (.int .i64 a0_16) := (blk_cell BK109.out 16).trans rfl
        have hfz13_0 := blk_frozen BK109.out 0
        have hfz13_1 := blk_frozen BK109.out 1
        have hfz13_2 := blk_frozen BK109.out 2
        have hfz13_3 := blk_frozen BK109.out 3
        have hfz13_4 := blk_frozen BK109.out 4
        have hfz13_5 := blk_frozen BK109.out 5
        have hfz13_6 := blk_frozen BK109.out 6
        have hfz13_7 := blk_frozen BK109.out 7
        have hfz13_8 := blk_frozen BK109.out 8
        have hfz13_9 := blk_frozen BK109.out 9
        have hfz13_10 := blk_frozen BK109.out 10
        have hfz13_11 := blk_frozen BK109.out 11
        have hfz13_12 := blk_frozen BK109.out 12
        have hfz13_13 := blk_frozen BK109.out 13
        have hfz13_14 := blk_frozen BK109.out 14
        have hfz13_15 := blk_frozen BK109.out 15
        have hfz13_16 := blk_frozen BK109.out 16
        go_wp2_with (first | (go_at_call 29; (with_reducible refine (posix_named.calls a0_2 false _ A7.out).mono ?_); rintro e w14 ⟨rfl, hb⟩; have n0_ := Aside0.mk (blk_below (g := gb109) (o := .cells #[.int .i64 a0_0, .bool false, .string a0_2, .int .i64 a0_3, .bool a0_4, .string a0_5, .bool a0_6, .int .i64 a0_7, .int .i64 a0_8, .int .i64 a0_9, .int .i64 a0_10, .int .i64 a0_11, .int .i64 a0_12, .int .i64 a0_13, .int .i64 a0_14, .int .i64 a0_15, .int .i64 a0_16] 27 (0, 0)) (by (with_reducible repeat (first | refine blk_drewN ?_ _ | refine blk_drew ?_ | refine blk_alloc ?_ _)); exact BK109.out) hb); have n1_ := Aside0.mk (below_step (by repeat (first | (with_reducible first | exact HB.out | apply below_alloc | apply pw_below_drewN | apply below_drew1 | refine below_set ?_ GE109.out) | exact HB.out)) hb); clear BK109; clear HB; have BK109 := n0_; have HB := n1_; clear n0_ n1_; (try clear hb); (try clear hb2); (try clear hk); (try clear hi)))
        go_meet
        case rel => exact ⟨_, (true), (by first | rfl | (simp; done) | (simp [*]; done)), H', ⟨by first | omega | exact Nat.le_refl _⟩, ⟨by (with_reducible repeat (first | refine blk_drewN ?_ _ | refine blk_drew ?_ | refine blk_alloc ?_ _)); exact BK109.out⟩, ⟨by repeat (first | (with_reducible first | exact HB.out | apply below_alloc | apply pw_below_drewN | apply below_drew1 | refine below_set ?_ GE109.out) | exact HB.out)⟩⟩
  case rest =>
    clear HC3
    try clear c1
    try clear p2
    try clear c5
    try clear c8
    try clear hcz10_0
    try clear hcz10_1
    try clear hcz10_10
    try clear hcz10_11
    try clear hcz10_12
    try clear hcz10_13
    try clear hcz10_14
    try clear hcz10_15
    try clear hcz10_16
    try clear hcz10_2
    try clear hcz10_3
    try clear hcz10_4
    try clear hcz10_5
    try clear hcz10_6
    try clear hcz10_7
    try clear hcz10_8
    try clear hcz10_9
    try clear hcz12_0
    try clear hcz12_1
    try clear hcz12_10
    try clear hcz12_11
    try clear hcz12_12
    try clear hcz12_13
    try clear hcz12_14
    try clear hcz12_15
    try clear hcz12_16
    try clear hcz12_2
    try clear hcz12_3
    try clear hcz12_4
    try clear hcz12_5
    try clear hcz12_6
    try clear hcz12_7
    try clear hcz12_8
    try clear hcz12_9
    try clear hcz13_0
    try clear hcz13_1
    try clear hcz13_10
    try clear hcz13_11
    try clear hcz13_12
    try clear hcz13_13
    try clear hcz13_14
    try clear hcz13_15
    try clear hcz13_16
    try clear hcz13_2
    try clear hcz13_3
    try clear hcz13_4
    try clear hcz13_5
    try clear hcz13_6
    try clear hcz13_7
    try clear hcz13_8
    try clear hcz13_9
    try clear hcz6_0
    try clear hcz6_1
    try clear hcz6_10
    try clear hcz6_11
    try clear hcz6_12
    try clear hcz6_13
    try clear hcz6_14
    try clear hcz6_15
    try clear hcz6_16
    try clear hcz6_2
    try clear hcz6_3
    try clear hcz6_4
    try clear hcz6_5
    try clear hcz6_6
    try clear hcz6_7
    try clear hcz6_8
    try clear hcz6_9
    try clear hfz10_0
    try clear hfz10_1
    try clear hfz10_10
    try clear hfz10_11
    try clear hfz10_12
    try clear hfz10_13
    try clear hfz10_14
    try clear hfz10_15
    try clear hfz10_16
    try clear hfz10_2
    try clear hfz10_3
    try clear hfz10_4
    try clear hfz10_5
    try clear hfz10_6
    try clear hfz10_7
    try clear hfz10_8
    try clear hfz10_9
    try clear hfz12_0
    try clear hfz12_1
    try clear hfz12_10
    try clear hfz12_11
    try clear hfz12_12
    try clear hfz12_13
    try clear hfz12_14
    try clear hfz12_15
    try clear hfz12_16
    try clear hfz12_2
    try clear hfz12_3
    try clear hfz12_4
    try clear hfz12_5
    try clear hfz12_6
    try clear hfz12_7
    try clear hfz12_8
    try clear hfz12_9
    try clear hfz13_0
    try clear hfz13_1
    try clear hfz13_10
    try clear hfz13_11
    try clear hfz13_12
    try clear hfz13_13
    try clear hfz13_14
    try clear hfz13_15
    try clear hfz13_16
    try clear hfz13_2
    try clear hfz13_3
    try clear hfz13_4
    try clear hfz13_5
    try clear hfz13_6
    try clear hfz13_7
    try clear hfz13_8
    try clear hfz13_9
    try clear hfz6_0
    try clear hfz6_1
    try clear hfz6_10
    try clear hfz6_11
    try clear hfz6_12
    try clear hfz6_13
    try clear hfz6_14
    try clear hfz6_15
    try clear hfz6_16
    try clear hfz6_2
    try clear hfz6_3
    try clear hfz6_4
    try clear hfz6_5
    try clear hfz6_6
    try clear hfz6_7
    try clear hfz6_8
    try clear hfz6_9
    obtain ⟨kq, x21_2, rfl, HA, HJ2, BK109, HB⟩ := hcut
    cases kq with
    | zero => exact absurd HA.out (by simp [posix_Right.j0])
    | succ kj2 =>
      have H := HA.out
      clear HA
      simp only [posix_Right.j0] at H
      by_cases c15 : x21_2 = true
      · subst c15
        have H1 : (some false) = some r := by rw [if_pos rfl] at H; exact H
        clear H
        have H := H1
        clear H1
        obtain rfl := Option.some.inj H
        go_wp2
        go_ret
        exact ⟨by first | rfl | (simp [errW_none, errW_some] <;> rfl) | (simp [*, errW_none, errW_some] <;> rfl), by repeat (first | (with_reducible first | exact HB.out | apply below_alloc | apply pw_below_drewN | apply below_drew1 | refine below_set ?_ GE109.out) | exact HB.out)⟩
      · replace c15 := Bool.eq_false_iff.mpr c15
        subst c15
        have H1 : (if a0_6 = true then (if a0_4 = true then ((posix_named.f a0_5).bind fun t112 => (if t112 = true then ((posix_within.f a0_3 (-89999) 89999).bind fun t113 => (if t113 = true then ((posix_changes.f kj2 a0_7 a0_8 a0_9 a0_10 a0_11 a1).bind fun t114 => (if t114 = true then ((posix_changes.f kj2 a0_12 a0_13 a0_14 a0_15 a0_16 a1).bind fun t115 => (some t115)) else (some false))) else (some false))) else (some false))) else (some false)) else (some ((a0_3 == 0 && (!a0_4 && (a0_5.toList.isEmpty))) && (!a0_6 && ((a0_7 == 0 && (a0_8 == 0 && (a0_9 == 0 && (a0_10 == 0 && (a0_11 == 0))))) && ((a0_12 == 0 && (a0_13 == 0 && (a0_14 == 0 && (a0_15 == 0 && (a0_16 == 0))))))))))) = some r := by rw [if_neg (show ¬ (false = true) by decide)] at H; exact H
        clear H
        have H := H1
        clear H1
        by_cases c16 : a0_6 = true
        · subst c16
          have H1 : (if a0_4 = true then ((posix_named.f a0_5).bind fun t112 => (if t112 = true then ((posix_within.f a0_3 (-89999) 89999).bind fun t113 => (if t113 = true then ((posix_changes.f kj2 a0_7 a0_8 a0_9 a0_10 a0_11 a1).bind fun t114 => (if t114 = true then ((posix_changes.f kj2 a0_12 a0_13 a0_14 a0_15 a0_16 a1).bind fun t115 => (some t115)) else (some false))) else (some false))) else (some false))) else (some false)) = some r := by rw [if_pos rfl] at H; exact H
          clear H
          have H := H1
          clear H1
          by_cases c17 : a0_4 = true
          · subst c17
            have H1 : ((posix_named.f a0_5).bind fun t112 => (if t112 = true then ((posix_within.f a0_3 (-89999) 89999).bind fun t113 => (if t113 = true then ((posix_changes.f kj2 a0_7 a0_8 a0_9 a0_10 a0_11 a1).bind fun t114 => (if t114 = true then ((posix_changes.f kj2 a0_12 a0_13 a0_14 a0_15 a0_16 a1).bind fun t115 => (some t115)) else (some false))) else (some false))) else (some false))) = some r := by rw [if_pos rfl] at H; exact H
            clear H
            have H := H1
            clear H1
            replace H := Option.bind_eq_some_iff.mp H
            obtain ⟨t112, A180, H⟩ := H
            replace H : (if t112 = true then ((posix_within.f a0_3 (-89999) 89999).bind fun t113 => (if t113 = true then ((posix_changes.f kj2 a0_7 a0_8 a0_9 a0_10 a0_11 a1).bind fun t114 => (if t114 = true then ((posix_changes.f kj2 a0_12 a0_13 a0_14 a0_15 a0_16 a1).bind fun t115 => (some t115)) else (some false))) else (some false))) else (some false)) = some r := H
            have A18 := Aside0.mk A180
            clear A180
            by_cases c19 : t112 = true
            · subst c19
              have H1 : ((posix_within.f a0_3 (-89999) 89999).bind fun t113 => (if t113 = true then ((posix_changes.f kj2 a0_7 a0_8 a0_9 a0_10 a0_11 a1).bind fun t114 => (if t114 = true then ((posix_changes.f kj2 a0_12 a0_13 a0_14 a0_15 a0_16 a1).bind fun t115 => (some t115)) else (some false))) else (some false))) = some r := by rw [if_pos rfl] at H; exact H
              clear H
              have H := H1
              clear H1
              replace H := Option.bind_eq_some_iff.mp H
              obtain ⟨t113, A200, H⟩ := H
              replace H : (if t113 = true then ((posix_changes.f kj2 a0_7 a0_8 a0_9 a0_10 a0_11 a1).bind fun t114 => (if t114 = true then ((posix_changes.f kj2 a0_12 a0_13 a0_14 a0_15 a0_16 a1).bind fun t115 => (some t115)) else (some false))) else (some false)) = some r := H
              have A20 := Aside0.mk A200
              clear A200
              by_cases c21 : t113 = true
              · subst c21
                have H1 : ((posix_changes.f kj2 a0_7 a0_8 a0_9 a0_10 a0_11 a1).bind fun t114 => (if t114 = true then ((posix_changes.f kj2 a0_12 a0_13 a0_14 a0_15 a0_16 a1).bind fun t115 => (some t115)) else (some false))) = some r := by rw [if_pos rfl] at H; exact H
                clear H
                have H := H1
                clear H1
                replace H := Option.bind_eq_some_iff.mp H
                obtain ⟨t114, A220, H⟩ := H
                replace H : (if t114 = true then ((posix_changes.f kj2 a0_12 a0_13 a0_14 a0_15 a0_16 a1).bind fun t115 => (some t115)) else (some false)) = some r := H
                have A22 := Aside0.mk A220
                clear A220
                by_cases c23 : t114 = true
                · subst c23
                  have H1 : ((posix_changes.f kj2 a0_12 a0_13 a0_14 a0_15 a0_16 a1).bind fun t115 => (some t115)) = some r := by rw [if_pos rfl] at H; exact H
                  clear H
                  have H := H1
                  clear H1
                  replace H := Option.bind_eq_some_iff.mp H
                  obtain ⟨t115, A240, H⟩ := H
                  replace H : (some t115) = some r := H
                  have A24 := Aside0.mk A240
                  clear A240
                  obtain rfl := Option.some.inj H
                  have hcz25_0 : wc.cell? ⟨gb109, 0, none⟩ = some (.int .i64 a0_0) := (blk_cell BK109.out 0).trans rfl
                  have hcz25_1 : wc.cell? ⟨gb109, 1, none⟩ = some (.bool a0_1) := (blk_cell BK109.out 1).trans rfl
                  have hcz25_2 : wc.cell? ⟨gb109, 2, none⟩ = some (.string a0_2) := (blk_cell BK109.out 2).trans rfl
                  have hcz25_3 : wc.cell? ⟨gb109, 3, none⟩ = some (.int .i64 a0_3) := (blk_cell BK109.out 3).trans rfl
                  have hcz25_4 : wc.cell? ⟨gb109, 4, none⟩ = some (.bool true) := (blk_cell BK109.out 4).trans rfl
                  have hcz25_5 : wc.cell? ⟨gb109, 5, none⟩ = some (.string a0_5) := (blk_cell BK109.out 5).trans rfl
                  have hcz25_6 : wc.cell? ⟨gb109, 6, none⟩ = some (.bool true) := (blk_cell BK109.out 6).trans rfl
                  have hcz25_7 : wc.cell? ⟨gb109, 7, none⟩ = some (.int .i64 a0_7) := (blk_cell BK109.out 7).trans rfl
                  have hcz25_8 : wc.cell? ⟨gb109, 8, none⟩ = some (.int .i64 a0_8) := (blk_cell BK109.out 8).trans rfl
                  have hcz25_9 : wc.cell? ⟨gb109, 9, none⟩ = some (.int .i64 a0_9) := (blk_cell BK109.out 9).trans rfl
                  have hcz25_10 : wc.cell? ⟨gb109, 10, none⟩ = some (.int .i64 a0_10) := (blk_cell BK109.out 10).trans rfl
                  have hcz25_11 : wc.cell? ⟨gb109, 11, none⟩ = some (.int .i64 a0_11) := (blk_cell BK109.out 11).trans rfl
                  have hcz25_12 : wc.cell? ⟨gb109, 12, none⟩ = some (.int .i64 a0_12) := (blk_cell BK109.out 12).trans rfl
                  have hcz25_13 : wc.cell? ⟨gb109, 13, none⟩ = some (.int .i64 a0_13) := (blk_cell BK109.out 13).trans rfl
                  have hcz25_14 : wc.cell? ⟨gb109, 14, none⟩ = some (.int .i64 a0_14) := (blk_cell BK109.out 14).trans rfl
                  have hcz25_15 : wc.cell? ⟨gb109, 15, none⟩ = some (.int .i64 a0_15) := (blk_cell BK109.out 15).trans rfl
                  have hcz25_16 : wc.cell? ⟨gb109, 16, none⟩ = some (.int .i64 a0_16) := (blk_cell BK109.out 16).trans rfl
                  have hfz25_0 := blk_frozen BK109.out 0
                  have hfz25_1 := blk_frozen BK109.out 1
                  have hfz25_2 := blk_frozen BK109.out 2
                  have hfz25_3 := blk_frozen BK109.out 3
                  have hfz25_4 := blk_frozen BK109.out 4
                  have hfz25_5 := blk_frozen BK109.out 5
                  have hfz25_6 := blk_frozen BK109.out 6
                  have hfz25_7 := blk_frozen BK109.out 7
                  have hfz25_8 := blk_frozen BK109.out 8
                  have hfz25_9 := blk_frozen BK109.out 9
                  have hfz25_10 := blk_frozen BK109.out 10
                  have hfz25_11 := blk_frozen BK109.out 11
                  have hfz25_12 := blk_frozen BK109.out 12
                  have hfz25_13 := blk_frozen BK109.out 13
                  have hfz25_14 := blk_frozen BK109.out 14
                  have hfz25_15 := blk_frozen BK109.out 15
                  have hfz25_16 := blk_frozen BK109.out 16
                  go_wp2_with (first | (go_at_call 29; (with_reducible refine (posix_named.calls a0_5 true _ A18.out).mono ?_); rintro e w26 ⟨rfl, hb⟩; have n0_ := Aside0.mk (blk_below (g := gb109) (o := .cells #[.int .i64 a0_0, .bool a0_1, .string a0_2, .int .i64 a0_3, .bool true, .string a0_5, .bool true, .int .i64 a0_7, .int .i64 a0_8, .int .i64 a0_9, .int .i64 a0_10, .int .i64 a0_11, .int .i64 a0_12, .int .i64 a0_13, .int .i64 a0_14, .int .i64 a0_15, .int .i64 a0_16] 27 (0, 0)) (by (with_reducible repeat (first | refine blk_drewN ?_ _ | refine blk_drew ?_ | refine blk_alloc ?_ _)); exact BK109.out) hb); have n1_ := Aside0.mk (below_step (by repeat (first | (with_reducible first | exact HB.out | apply below_alloc | apply pw_below_drewN | apply below_drew1 | refine below_set ?_ GE109.out) | exact HB.out)) hb); clear BK109; clear HB; have BK109 := n0_; have HB := n1_; clear n0_ n1_; (try clear hb); (try clear hb2); (try clear hk); (try clear hi); have hcz27_0 : w26.cell? ⟨gb109, 0, none⟩ = some (.int .i64 a0_0) := (blk_cell BK109.out 0).trans rfl; have hcz27_1 : w26.cell? ⟨gb109, 1, none⟩ = some (.bool a0_1) := (blk_cell BK109.out 1).trans rfl; have hcz27_2 : w26.cell? ⟨gb109, 2, none⟩ = some (.string a0_2) := (blk_cell BK109.out 2).trans rfl; have hcz27_3 : w26.cell? ⟨gb109, 3, none⟩ = some (.int .i64 a0_3) := (blk_cell BK109.out 3).trans rfl; have hcz27_4 : w26.cell? ⟨gb109, 4, none⟩ = some (.bool true) := (blk_cell BK109.out 4).trans rfl; have hcz27_5 : w26.cell? ⟨gb109, 5, none⟩ = some (.string a0_5) := (blk_cell BK109.out 5).trans rfl; have hcz27_6 : w26.cell? ⟨gb109, 6, none⟩ = some (.bool true) := (blk_cell BK109.out 6).trans rfl; have hcz27_7 : w26.cell? ⟨gb109, 7, none⟩ = some (.int .i64 a0_7) := (blk_cell BK109.out 7).trans rfl; have hcz27_8 : w26.cell? ⟨gb109, 8, none⟩ = some (.int .i64 a0_8) := (blk_cell BK109.out 8).trans rfl; have hcz27_9 : w26.cell? ⟨gb109, 9, none⟩ = some (.int .i64 a0_9) := (blk_cell BK109.out 9).trans rfl; have hcz27_10 : w26.cell? ⟨gb109, 10, none⟩ = some (.int .i64 a0_10) := (blk_cell BK109.out 10).trans rfl; have hcz27_11 : w26.cell? ⟨gb109, 11, none⟩ = some (.int .i64 a0_11) := (blk_cell BK109.out 11).trans rfl; have hcz27_12 : w26.cell? ⟨gb109, 12, none⟩ = some (.int .i64 a0_12) := (blk_cell BK109.out 12).trans rfl; have hcz27_13 : w26.cell? ⟨gb109, 13, none⟩ = some (.int .i64 a0_13) := (blk_cell BK109.out 13).trans rfl; have hcz27_14 : w26.cell? ⟨gb109, 14, none⟩ = some (.int .i64 a0_14) := (blk_cell BK109.out 14).trans rfl; have hcz27_15 : w26.cell? ⟨gb109, 15, none⟩ = some (.int .i64 a0_15) := (blk_cell BK109.out 15).trans rfl; have hcz27_16 : w26.cell? ⟨gb109, 16, none⟩ = some (.int .i64 a0_16) := (blk_cell BK109.out 16).trans rfl; have hfz27_0 := blk_frozen BK109.out 0; have hfz27_1 := blk_frozen BK109.out 1; have hfz27_2 := blk_frozen BK109.out 2; have hfz27_3 := blk_frozen BK109.out 3; have hfz27_4 := blk_frozen BK109.out 4; have hfz27_5 := blk_frozen BK109.out 5; have hfz27_6 := blk_frozen BK109.out 6; have hfz27_7 := blk_frozen BK109.out 7; have hfz27_8 := blk_frozen BK109.out 8; have hfz27_9 := blk_frozen BK109.out 9; have hfz27_10 := blk_frozen BK109.out 10; have hfz27_11 := blk_frozen BK109.out 11; have hfz27_12 := blk_frozen BK109.out 12; have hfz27_13 := blk_frozen BK109.out 13; have hfz27_14 := blk_frozen BK109.out 14; have hfz27_15 := blk_frozen BK109.out 15; have hfz27_16 := blk_frozen BK109.out 16) | (go_at_call 30; (with_reducible refine (posix_within.calls a0_3 (-89999) 89999 true _ A20.out).mono ?_); rintro e w' ⟨rfl, ⟨nd, rfl⟩⟩) | (go_at_call 31; (with_reducible refine (posix_changes.calls kj2 a0_7 a0_8 a0_9 a0_10 a0_11 a1 true _ A22.out).mono ?_); rintro e w28 ⟨rfl, hb⟩; have n0_ := Aside0.mk (blk_below (g := gb109) (o := .cells #[.int .i64 a0_0, .bool a0_1, .string a0_2, .int .i64 a0_3, .bool true, .string a0_5, .bool true, .int .i64 a0_7, .int .i64 a0_8, .int .i64 a0_9, .int .i64 a0_10, .int .i64 a0_11, .int .i64 a0_12, .int .i64 a0_13, .int .i64 a0_14, .int .i64 a0_15, .int .i64 a0_16] 27 (0, 0)) (by (with_reducible repeat (first | refine blk_drewN ?_ _ | refine blk_drew ?_ | refine blk_alloc ?_ _)); exact BK109.out) hb); have n1_ := Aside0.mk (below_step (by repeat (first | (with_reducible first | exact HB.out | apply below_alloc | apply pw_below_drewN | apply below_drew1 | refine below_set ?_ GE109.out) | exact HB.out)) hb); clear BK109; clear HB; have BK109 := n0_; have HB := n1_; clear n0_ n1_; (try clear hb); (try clear hb2); (try clear hk); (try clear hi); have hcz29_0 : w28.cell? ⟨gb109, 0, none⟩ = some (.int .i64 a0_0) := (blk_cell BK109.out 0).trans rfl; have hcz29_1 : w28.cell? ⟨gb109, 1, none⟩ = some (.bool a0_1) := (blk_cell BK109.out 1).trans rfl; have hcz29_2 : w28.cell? ⟨gb109, 2, none⟩ = some (.string a0_2) := (blk_cell BK109.out 2).trans rfl; have hcz29_3 : w28.cell? ⟨gb109, 3, none⟩ = some (.int .i64 a0_3) := (blk_cell BK109.out 3).trans rfl; have hcz29_4 : w28.cell? ⟨gb109, 4, none⟩ = some (.bool true) := (blk_cell BK109.out 4).trans rfl; have hcz29_5 : w28.cell? ⟨gb109, 5, none⟩ = some (.string a0_5) := (blk_cell BK109.out 5).trans rfl; have hcz29_6 : w28.cell? ⟨gb109, 6, none⟩ = some (.bool true) := (blk_cell BK109.out 6).trans rfl; have hcz29_7 : w28.cell? ⟨gb109, 7, none⟩ = some (.int .i64 a0_7) := (blk_cell BK109.out 7).trans rfl; have hcz29_8 : w28.cell? ⟨gb109, 8, none⟩ = some (.int .i64 a0_8) := (blk_cell BK109.out 8).trans rfl; have hcz29_9 : w28.cell? ⟨gb109, 9, none⟩ = some (.int .i64 a0_9) := (blk_cell BK109.out 9).trans rfl; have hcz29_10 : w28.cell? ⟨gb109, 10, none⟩ = some (.int .i64 a0_10) := (blk_cell BK109.out 10).trans rfl; have hcz29_11 : w28.cell? ⟨gb109, 11, none⟩ = some (.int .i64 a0_11) := (blk_cell BK109.out 11).trans rfl; have hcz29_12 : w28.cell? ⟨gb109, 12, none⟩ = some (.int .i64 a0_12) := (blk_cell BK109.out 12).trans rfl; have hcz29_13 : w28.cell? ⟨gb109, 13, none⟩ = some (.int .i64 a0_13) := (blk_cell BK109.out 13).trans rfl; have hcz29_14 : w28.cell? ⟨gb109, 14, none⟩ = some (.int .i64 a0_14) := (blk_cell BK109.out 14).trans rfl; have hcz29_15 : w28.cell? ⟨gb109, 15, none⟩ = some (.int .i64 a0_15) := (blk_cell BK109.out 15).trans rfl; have hcz29_16 : w28.cell? ⟨gb109, 16, none⟩ = some (.int .i64 a0_16) := (blk_cell BK109.out 16).trans rfl; have hfz29_0 := blk_frozen BK109.out 0; have hfz29_1 := blk_frozen BK109.out 1; have hfz29_2 := blk_frozen BK109.out 2; have hfz29_3 := blk_frozen BK109.out 3; have hfz29_4 := blk_frozen BK109.out 4; have hfz29_5 := blk_frozen BK109.out 5; have hfz29_6 := blk_frozen BK109.out 6; have hfz29_7 := blk_frozen BK109.out 7; have hfz29_8 := blk_frozen BK109.out 8; have hfz29_9 := blk_frozen BK109.out 9; have hfz29_10 := blk_frozen BK109.out 10; have hfz29_11 := blk_frozen BK109.out 11; have hfz29_12 := blk_frozen BK109.out 12; have hfz29_13 := blk_frozen BK109.out 13; have hfz29_14 := blk_frozen BK109.out 14; have hfz29_15 := blk_frozen BK109.out 15; have hfz29_16 := blk_frozen BK109.out 16) | (go_at_call 31; (with_reducible refine (posix_changes.calls kj2 a0_12 a0_13 a0_14 a0_15 a0_16 a1 t115 _ A24.out).mono ?_); rintro e w30 ⟨rfl, hb⟩; have n0_ := Aside0.mk (blk_below (g := gb109) (o := .cells #[.int .i64 a0_0, .bool a0_1, .string a0_2, .int .i64 a0_3, .bool true, .string a0_5, .bool true, .int .i64 a0_7, .int .i64 a0_8, .int .i64 a0_9, .int .i64 a0_10, .int .i64 a0_11, .int .i64 a0_12, .int .i64 a0_13, .int .i64 a0_14, .int .i64 a0_15, .int .i64 a0_16] 27 (0, 0)) (by (with_reducible repeat (first | refine blk_drewN ?_ _ | refine blk_drew ?_ | refine blk_alloc ?_ _)); exact BK109.out) hb); have n1_ := Aside0.mk (below_step (by repeat (first | (with_reducible first | exact HB.out | apply below_alloc | apply pw_below_drewN | apply below_drew1 | refine below_set ?_ GE109.out) | exact HB.out)) hb); clear BK109; clear HB; have BK109 := n0_; have HB := n1_; clear n0_ n1_; (try clear hb); (try clear hb2); (try clear hk); (try clear hi)))
                  go_ret
                  exact ⟨by first | rfl | (simp [errW_none, errW_some] <;> rfl) | (simp [*, errW_none, errW_some] <;> rfl), by repeat (first | (with_reducible first | exact HB.out | apply below_alloc | apply pw_below_drewN | apply below_drew1 | refine below_set ?_ GE109.out) | exact HB.out)⟩
                · replace c23 := Bool.eq_false_iff.mpr c23
                  subst c23
                  have H1 : (some false) = some r := by rw [if_neg (show ¬ (false = true) by decide)] at H; exact H
                  clear H
                  have H := H1
                  clear H1
                  obtain rfl := Option.some.inj H
                  have hcz31_0 : wc.cell? ⟨gb109, 0, none⟩ = some (.int .i64 a0_0) := (blk_cell BK109.out 0).trans rfl
                  have hcz31_1 : wc.cell? ⟨gb109, 1, none⟩ = some (.bool a0_1) := (blk_cell BK109.out 1).trans rfl
                  have hcz31_2 : wc.cell? ⟨gb109, 2, none⟩ = some (.string a0_2) := (blk_cell BK109.out 2).trans rfl
                  have hcz31_3 : wc.cell? ⟨gb109, 3, none⟩ = some (.int .i64 a0_3) := (blk_cell BK109.out 3).trans rfl
                  have hcz31_4 : wc.cell? ⟨gb109, 4, none⟩ = some (.bool true) := (blk_cell BK109.out 4).trans rfl
                  have hcz31_5 : wc.cell? ⟨gb109, 5, none⟩ = some (.string a0_5) := (blk_cell BK109.out 5).trans rfl
                  have hcz31_6 : wc.cell? ⟨gb109, 6, none⟩ = some (.bool true) := (blk_cell BK109.out 6).trans rfl
                  have hcz31_7 : wc.cell? ⟨gb109, 7, none⟩ = some (.int .i64 a0_7) := (blk_cell BK109.out 7).trans rfl
                  have hcz31_8 : wc.cell? ⟨gb109, 8, none⟩ = some (.int .i64 a0_8) := (blk_cell BK109.out 8).trans rfl
                  have hcz31_9 : wc.cell? ⟨gb109, 9, none⟩ = some (.int .i64 a0_9) := (blk_cell BK109.out 9).trans rfl
                  have hcz31_10 : wc.cell? ⟨gb109, 10, none⟩ = some (.int .i64 a0_10) := (blk_cell BK109.out 10).trans rfl
                  have hcz31_11 : wc.cell? ⟨gb109, 11, none⟩ = some (.int .i64 a0_11) := (blk_cell BK109.out 11).trans rfl
                  have hcz31_12 : wc.cell? ⟨gb109, 12, none⟩ = some (.int .i64 a0_12) := (blk_cell BK109.out 12).trans rfl
                  have hcz31_13 : wc.cell? ⟨gb109, 13, none⟩ = some (.int .i64 a0_13) := (blk_cell BK109.out 13).trans rfl
                  have hcz31_14 : wc.cell? ⟨gb109, 14, none⟩ = some (.int .i64 a0_14) := (blk_cell BK109.out 14).trans rfl
                  have hcz31_15 : wc.cell? ⟨gb109, 15, none⟩ = some (.int .i64 a0_15) := (blk_cell BK109.out 15).trans rfl
                  have hcz31_16 : wc.cell? ⟨gb109, 16, none⟩ = some (.int .i64 a0_16) := (blk_cell BK109.out 16).trans rfl
                  have hfz31_0 := blk_frozen BK109.out 0
                  have hfz31_1 := blk_frozen BK109.out 1
                  have hfz31_2 := blk_frozen BK109.out 2
                  have hfz31_3 := blk_frozen BK109.out 3
                  have hfz31_4 := blk_frozen BK109.out 4
                  have hfz31_5 := blk_frozen BK109.out 5
                  have hfz31_6 := blk_frozen BK109.out 6
                  have hfz31_7 := blk_frozen BK109.out 7
                  have hfz31_8 := blk_frozen BK109.out 8
                  have hfz31_9 := blk_frozen BK109.out 9
                  have hfz31_10 := blk_frozen BK109.out 10
                  have hfz31_11 := blk_frozen BK109.out 11
                  have hfz31_12 := blk_frozen BK109.out 12
                  have hfz31_13 := blk_frozen BK109.out 13
                  have hfz31_14 := blk_frozen BK109.out 14
                  have hfz31_15 := blk_frozen BK109.out 15
                  have hfz31_16 := blk_frozen BK109.out 16
                  go_wp2_with (first | (go_at_call 29; (with_reducible refine (posix_named.calls a0_5 true _ A18.out).mono ?_); rintro e w32 ⟨rfl, hb⟩; have n0_ := Aside0.mk (blk_below (g := gb109) (o := .cells #[.int .i64 a0_0, .bool a0_1, .string a0_2, .int .i64 a0_3, .bool true, .string a0_5, .bool true, .int .i64 a0_7, .int .i64 a0_8, .int .i64 a0_9, .int .i64 a0_10, .int .i64 a0_11, .int .i64 a0_12, .int .i64 a0_13, .int .i64 a0_14, .int .i64 a0_15, .int .i64 a0_16] 27 (0, 0)) (by (with_reducible repeat (first | refine blk_drewN ?_ _ | refine blk_drew ?_ | refine blk_alloc ?_ _)); exact BK109.out) hb); have n1_ := Aside0.mk (below_step (by repeat (first | (with_reducible first | exact HB.out | apply below_alloc | apply pw_below_drewN | apply below_drew1 | refine below_set ?_ GE109.out) | exact HB.out)) hb); clear BK109; clear HB; have BK109 := n0_; have HB := n1_; clear n0_ n1_; (try clear hb); (try clear hb2); (try clear hk); (try clear hi); have hcz33_0 : w32.cell? ⟨gb109, 0, none⟩ = some (.int .i64 a0_0) := (blk_cell BK109.out 0).trans rfl; have hcz33_1 : w32.cell? ⟨gb109, 1, none⟩ = some (.bool a0_1) := (blk_cell BK109.out 1).trans rfl; have hcz33_2 : w32.cell? ⟨gb109, 2, none⟩ = some (.string a0_2) := (blk_cell BK109.out 2).trans rfl; have hcz33_3 : w32.cell? ⟨gb109, 3, none⟩ = some (.int .i64 a0_3) := (blk_cell BK109.out 3).trans rfl; have hcz33_4 : w32.cell? ⟨gb109, 4, none⟩ = some (.bool true) := (blk_cell BK109.out 4).trans rfl; have hcz33_5 : w32.cell? ⟨gb109, 5, none⟩ = some (.string a0_5) := (blk_cell BK109.out 5).trans rfl; have hcz33_6 : w32.cell? ⟨gb109, 6, none⟩ = some (.bool true) := (blk_cell BK109.out 6).trans rfl; have hcz33_7 : w32.cell? ⟨gb109, 7, none⟩ = some (.int .i64 a0_7) := (blk_cell BK109.out 7).trans rfl; have hcz33_8 : w32.cell? ⟨gb109, 8, none⟩ = some (.int .i64 a0_8) := (blk_cell BK109.out 8).trans rfl; have hcz33_9 : w32.cell? ⟨gb109, 9, none⟩ = some (.int .i64 a0_9) := (blk_cell BK109.out 9).trans rfl; have hcz33_10 : w32.cell? ⟨gb109, 10, none⟩ = some (.int .i64 a0_10) := (blk_cell BK109.out 10).trans rfl; have hcz33_11 : w32.cell? ⟨gb109, 11, none⟩ = some (.int .i64 a0_11) := (blk_cell BK109.out 11).trans rfl; have hcz33_12 : w32.cell? ⟨gb109, 12, none⟩ = some (.int .i64 a0_12) := (blk_cell BK109.out 12).trans rfl; have hcz33_13 : w32.cell? ⟨gb109, 13, none⟩ = some (.int .i64 a0_13) := (blk_cell BK109.out 13).trans rfl; have hcz33_14 : w32.cell? ⟨gb109, 14, none⟩ = some (.int .i64 a0_14) := (blk_cell BK109.out 14).trans rfl; have hcz33_15 : w32.cell? ⟨gb109, 15, none⟩ = some (.int .i64 a0_15) := (blk_cell BK109.out 15).trans rfl; have hcz33_16 : w32.cell? ⟨gb109, 16, none⟩ = some (.int .i64 a0_16) := (blk_cell BK109.out 16).trans rfl; have hfz33_0 := blk_frozen BK109.out 0; have hfz33_1 := blk_frozen BK109.out 1; have hfz33_2 := blk_frozen BK109.out 2; have hfz33_3 := blk_frozen BK109.out 3; have hfz33_4 := blk_frozen BK109.out 4; have hfz33_5 := blk_frozen BK109.out 5; have hfz33_6 := blk_frozen BK109.out 6; have hfz33_7 := blk_frozen BK109.out 7; have hfz33_8 := blk_frozen BK109.out 8; have hfz33_9 := blk_frozen BK109.out 9; have hfz33_10 := blk_frozen BK109.out 10; have hfz33_11 := blk_frozen BK109.out 11; have hfz33_12 := blk_frozen BK109.out 12; have hfz33_13 := blk_frozen BK109.out 13; have hfz33_14 := blk_frozen BK109.out 14; have hfz33_15 := blk_frozen BK109.out 15; have hfz33_16 := blk_frozen BK109.out 16) | (go_at_call 30; (with_reducible refine (posix_within.calls a0_3 (-89999) 89999 true _ A20.out).mono ?_); rintro e w' ⟨rfl, ⟨nd, rfl⟩⟩) | (go_at_call 31; (with_reducible refine (posix_changes.calls kj2 a0_7 a0_8 a0_9 a0_10 a0_11 a1 false _ A22.out).mono ?_); rintro e w34 ⟨rfl, hb⟩; have n0_ := Aside0.mk (blk_below (g := gb109) (o := .cells #[.int .i64 a0_0, .bool a0_1, .string a0_2, .int .i64 a0_3, .bool true, .string a0_5, .bool true, .int .i64 a0_7, .int .i64 a0_8, .int .i64 a0_9, .int .i64 a0_10, .int .i64 a0_11, .int .i64 a0_12, .int .i64 a0_13, .int .i64 a0_14, .int .i64 a0_15, .int .i64 a0_16] 27 (0, 0)) (by (with_reducible repeat (first | refine blk_drewN ?_ _ | refine blk_drew ?_ | refine blk_alloc ?_ _)); exact BK109.out) hb); have n1_ := Aside0.mk (below_step (by repeat (first | (with_reducible first | exact HB.out | apply below_alloc | apply pw_below_drewN | apply below_drew1 | refine below_set ?_ GE109.out) | exact HB.out)) hb); clear BK109; clear HB; have BK109 := n0_; have HB := n1_; clear n0_ n1_; (try clear hb); (try clear hb2); (try clear hk); (try clear hi)))
                  go_ret
                  exact ⟨by first | rfl | (simp [errW_none, errW_some] <;> rfl) | (simp [*, errW_none, errW_some] <;> rfl), by repeat (first | (with_reducible first | exact HB.out | apply below_alloc | apply pw_below_drewN | apply below_drew1 | refine below_set ?_ GE109.out) | exact HB.out)⟩
              · replace c21 := Bool.eq_false_iff.mpr c21
                subst c21
                have H1 : (some false) = some r := by rw [if_neg (show ¬ (false = true) by decide)] at H; exact H
                clear H
                have H := H1
                clear H1
                obtain rfl := Option.some.inj H
                have hcz35_0 : wc.cell? ⟨gb109, 0, none⟩ = some (.int .i64 a0_0) := (blk_cell BK109.out 0).trans rfl
                have hcz35_1 : wc.cell? ⟨gb109, 1, none⟩ = some (.bool a0_1) := (blk_cell BK109.out 1).trans rfl
                have hcz35_2 : wc.cell? ⟨gb109, 2, none⟩ = some (.string a0_2) := (blk_cell BK109.out 2).trans rfl
                have hcz35_3 : wc.cell? ⟨gb109, 3, none⟩ = some (.int .i64 a0_3) := (blk_cell BK109.out 3).trans rfl
                have hcz35_4 : wc.cell? ⟨gb109, 4, none⟩ = some (.bool true) := (blk_cell BK109.out 4).trans rfl
                have hcz35_5 : wc.cell? ⟨gb109, 5, none⟩ = some (.string a0_5) := (blk_cell BK109.out 5).trans rfl
                have hcz35_6 : wc.cell? ⟨gb109, 6, none⟩ = some (.bool true) := (blk_cell BK109.out 6).trans rfl
                have hcz35_7 : wc.cell? ⟨gb109, 7, none⟩ = some (.int .i64 a0_7) := (blk_cell BK109.out 7).trans rfl
                have hcz35_8 : wc.cell? ⟨gb109, 8, none⟩ = some (.int .i64 a0_8) := (blk_cell BK109.out 8).trans rfl
                have hcz35_9 : wc.cell? ⟨gb109, 9, none⟩ = some (.int .i64 a0_9) := (blk_cell BK109.out 9).trans rfl
                have hcz35_10 : wc.cell? ⟨gb109, 10, none⟩ = some (.int .i64 a0_10) := (blk_cell BK109.out 10).trans rfl
                have hcz35_11 : wc.cell? ⟨gb109, 11, none⟩ = some (.int .i64 a0_11) := (blk_cell BK109.out 11).trans rfl
                have hcz35_12 : wc.cell? ⟨gb109, 12, none⟩ = some (.int .i64 a0_12) := (blk_cell BK109.out 12).trans rfl
                have hcz35_13 : wc.cell? ⟨gb109, 13, none⟩ = some (.int .i64 a0_13) := (blk_cell BK109.out 13).trans rfl
                have hcz35_14 : wc.cell? ⟨gb109, 14, none⟩ = some (.int .i64 a0_14) := (blk_cell BK109.out 14).trans rfl
                have hcz35_15 : wc.cell? ⟨gb109, 15, none⟩ = some (.int .i64 a0_15) := (blk_cell BK109.out 15).trans rfl
                have hcz35_16 : wc.cell? ⟨gb109, 16, none⟩ = some (.int .i64 a0_16) := (blk_cell BK109.out 16).trans rfl
                have hfz35_0 := blk_frozen BK109.out 0
                have hfz35_1 := blk_frozen BK109.out 1
                have hfz35_2 := blk_frozen BK109.out 2
                have hfz35_3 := blk_frozen BK109.out 3
                have hfz35_4 := blk_frozen BK109.out 4
                have hfz35_5 := blk_frozen BK109.out 5
                have hfz35_6 := blk_frozen BK109.out 6
                have hfz35_7 := blk_frozen BK109.out 7
                have hfz35_8 := blk_frozen BK109.out 8
                have hfz35_9 := blk_frozen BK109.out 9
                have hfz35_10 := blk_frozen BK109.out 10
                have hfz35_11 := blk_frozen BK109.out 11
                have hfz35_12 := blk_frozen BK109.out 12
                have hfz35_13 := blk_frozen BK109.out 13
                have hfz35_14 := blk_frozen BK109.out 14
                have hfz35_15 := blk_frozen BK109.out 15
                have hfz35_16 := blk_frozen BK109.out 16
                go_wp2_with (first | (go_at_call 29; (with_reducible refine (posix_named.calls a0_5 true _ A18.out).mono ?_); rintro e w36 ⟨rfl, hb⟩; have n0_ := Aside0.mk (blk_below (g := gb109) (o := .cells #[.int .i64 a0_0, .bool a0_1, .string a0_2, .int .i64 a0_3, .bool true, .string a0_5, .bool true, .int .i64 a0_7, .int .i64 a0_8, .int .i64 a0_9, .int .i64 a0_10, .int .i64 a0_11, .int .i64 a0_12, .int .i64 a0_13, .int .i64 a0_14, .int .i64 a0_15, .int .i64 a0_16] 27 (0, 0)) (by (with_reducible repeat (first | refine blk_drewN ?_ _ | refine blk_drew ?_ | refine blk_alloc ?_ _)); exact BK109.out) hb); have n1_ := Aside0.mk (below_step (by repeat (first | (with_reducible first | exact HB.out | apply below_alloc | apply pw_below_drewN | apply below_drew1 | refine below_set ?_ GE109.out) | exact HB.out)) hb); clear BK109; clear HB; have BK109 := n0_; have HB := n1_; clear n0_ n1_; (try clear hb); (try clear hb2); (try clear hk); (try clear hi); have hcz37_0 : w36.cell? ⟨gb109, 0, none⟩ = some (.int .i64 a0_0) := (blk_cell BK109.out 0).trans rfl; have hcz37_1 : w36.cell? ⟨gb109, 1, none⟩ = some (.bool a0_1) := (blk_cell BK109.out 1).trans rfl; have hcz37_2 : w36.cell? ⟨gb109, 2, none⟩ = some (.string a0_2) := (blk_cell BK109.out 2).trans rfl; have hcz37_3 : w36.cell? ⟨gb109, 3, none⟩ = some (.int .i64 a0_3) := (blk_cell BK109.out 3).trans rfl; have hcz37_4 : w36.cell? ⟨gb109, 4, none⟩ = some (.bool true) := (blk_cell BK109.out 4).trans rfl; have hcz37_5 : w36.cell? ⟨gb109, 5, none⟩ = some (.string a0_5) := (blk_cell BK109.out 5).trans rfl; have hcz37_6 : w36.cell? ⟨gb109, 6, none⟩ = some (.bool true) := (blk_cell BK109.out 6).trans rfl; have hcz37_7 : w36.cell? ⟨gb109, 7, none⟩ = some (.int .i64 a0_7) := (blk_cell BK109.out 7).trans rfl; have hcz37_8 : w36.cell? ⟨gb109, 8, none⟩ = some (.int .i64 a0_8) := (blk_cell BK109.out 8).trans rfl; have hcz37_9 : w36.cell? ⟨gb109, 9, none⟩ = some (.int .i64 a0_9) := (blk_cell BK109.out 9).trans rfl; have hcz37_10 : w36.cell? ⟨gb109, 10, none⟩ = some (.int .i64 a0_10) := (blk_cell BK109.out 10).trans rfl; have hcz37_11 : w36.cell? ⟨gb109, 11, none⟩ = some (.int .i64 a0_11) := (blk_cell BK109.out 11).trans rfl; have hcz37_12 : w36.cell? ⟨gb109, 12, none⟩ = some (.int .i64 a0_12) := (blk_cell BK109.out 12).trans rfl; have hcz37_13 : w36.cell? ⟨gb109, 13, none⟩ = some (.int .i64 a0_13) := (blk_cell BK109.out 13).trans rfl; have hcz37_14 : w36.cell? ⟨gb109, 14, none⟩ = some (.int .i64 a0_14) := (blk_cell BK109.out 14).trans rfl; have hcz37_15 : w36.cell? ⟨gb109, 15, none⟩ = some (.int .i64 a0_15) := (blk_cell BK109.out 15).trans rfl; have hcz37_16 : w36.cell? ⟨gb109, 16, none⟩ = some (.int .i64 a0_16) := (blk_cell BK109.out 16).trans rfl; have hfz37_0 := blk_frozen BK109.out 0; have hfz37_1 := blk_frozen BK109.out 1; have hfz37_2 := blk_frozen BK109.out 2; have hfz37_3 := blk_frozen BK109.out 3; have hfz37_4 := blk_frozen BK109.out 4; have hfz37_5 := blk_frozen BK109.out 5; have hfz37_6 := blk_frozen BK109.out 6; have hfz37_7 := blk_frozen BK109.out 7; have hfz37_8 := blk_frozen BK109.out 8; have hfz37_9 := blk_frozen BK109.out 9; have hfz37_10 := blk_frozen BK109.out 10; have hfz37_11 := blk_frozen BK109.out 11; have hfz37_12 := blk_frozen BK109.out 12; have hfz37_13 := blk_frozen BK109.out 13; have hfz37_14 := blk_frozen BK109.out 14; have hfz37_15 := blk_frozen BK109.out 15; have hfz37_16 := blk_frozen BK109.out 16) | (go_at_call 30; (with_reducible refine (posix_within.calls a0_3 (-89999) 89999 false _ A20.out).mono ?_); rintro e w' ⟨rfl, ⟨nd, rfl⟩⟩))
                go_ret
                exact ⟨by first | rfl | (simp [errW_none, errW_some] <;> rfl) | (simp [*, errW_none, errW_some] <;> rfl), by repeat (first | (with_reducible first | exact HB.out | apply below_alloc | apply pw_below_drewN | apply below_drew1 | refine below_set ?_ GE109.out) | exact HB.out)⟩
            · replace c19 := Bool.eq_false_iff.mpr c19
              subst c19
              have H1 : (some false) = some r := by rw [if_neg (show ¬ (false = true) by decide)] at H; exact H
              clear H
              have H := H1
              clear H1
              obtain rfl := Option.some.inj H
              have hcz38_0 : wc.cell? ⟨gb109, 0, none⟩ = some (.int .i64 a0_0) := (blk_cell BK109.out 0).trans rfl
              have hcz38_1 : wc.cell? ⟨gb109, 1, none⟩ = some (.bool a0_1) := (blk_cell BK109.out 1).trans rfl
              have hcz38_2 : wc.cell? ⟨gb109, 2, none⟩ = some (.string a0_2) := (blk_cell BK109.out 2).trans rfl
              have hcz38_3 : wc.cell? ⟨gb109, 3, none⟩ = some (.int .i64 a0_3) := (blk_cell BK109.out 3).trans rfl
              have hcz38_4 : wc.cell? ⟨gb109, 4, none⟩ = some (.bool true) := (blk_cell BK109.out 4).trans rfl
              have hcz38_5 : wc.cell? ⟨gb109, 5, none⟩ = some (.string a0_5) := (blk_cell BK109.out 5).trans rfl
              have hcz38_6 : wc.cell? ⟨gb109, 6, none⟩ = some (.bool true) := (blk_cell BK109.out 6).trans rfl
              have hcz38_7 : wc.cell? ⟨gb109, 7, none⟩ = some (.int .i64 a0_7) := (blk_cell BK109.out 7).trans rfl
              have hcz38_8 : wc.cell? ⟨gb109, 8, none⟩ = some (.int .i64 a0_8) := (blk_cell BK109.out 8).trans rfl
              have hcz38_9 : wc.cell? ⟨gb109, 9, none⟩ = some (.int .i64 a0_9) := (blk_cell BK109.out 9).trans rfl
              have hcz38_10 : wc.cell? ⟨gb109, 10, none⟩ = some (.int .i64 a0_10) := (blk_cell BK109.out 10).trans rfl
              have hcz38_11 : wc.cell? ⟨gb109, 11, none⟩ = some (.int .i64 a0_11) := (blk_cell BK109.out 11).trans rfl
              have hcz38_12 : wc.cell? ⟨gb109, 12, none⟩ = some (.int .i64 a0_12) := (blk_cell BK109.out 12).trans rfl
              have hcz38_13 : wc.cell? ⟨gb109, 13, none⟩ = some (.int .i64 a0_13) := (blk_cell BK109.out 13).trans rfl
              have hcz38_14 : wc.cell? ⟨gb109, 14, none⟩ = some (.int .i64 a0_14) := (blk_cell BK109.out 14).trans rfl
              have hcz38_15 : wc.cell? ⟨gb109, 15, none⟩ = some (.int .i64 a0_15) := (blk_cell BK109.out 15).trans rfl
              have hcz38_16 : wc.cell? ⟨gb109, 16, none⟩ = some (.int .i64 a0_16) := (blk_cell BK109.out 16).trans rfl
              have hfz38_0 := blk_frozen BK109.out 0
              have hfz38_1 := blk_frozen BK109.out 1
              have hfz38_2 := blk_frozen BK109.out 2
              have hfz38_3 := blk_frozen BK109.out 3
              have hfz38_4 := blk_frozen BK109.out 4
              have hfz38_5 := blk_frozen BK109.out 5
              have hfz38_6 := blk_frozen BK109.out 6
              have hfz38_7 := blk_frozen BK109.out 7
              have hfz38_8 := blk_frozen BK109.out 8
              have hfz38_9 := blk_frozen BK109.out 9
              have hfz38_10 := blk_frozen BK109.out 10
              have hfz38_11 := blk_frozen BK109.out 11
              have hfz38_12 := blk_frozen BK109.out 12
              have hfz38_13 := blk_frozen BK109.out 13
              have hfz38_14 := blk_frozen BK109.out 14
              have hfz38_15 := blk_frozen BK109.out 15
              have hfz38_16 := blk_frozen BK109.out 16
              go_wp2_with (first | (go_at_call 29; (with_reducible refine (posix_named.calls a0_5 false _ A18.out).mono ?_); rintro e w39 ⟨rfl, hb⟩; have n0_ := Aside0.mk (blk_below (g := gb109) (o := .cells #[.int .i64 a0_0, .bool a0_1, .string a0_2, .int .i64 a0_3, .bool true, .string a0_5, .bool true, .int .i64 a0_7, .int .i64 a0_8, .int .i64 a0_9, .int .i64 a0_10, .int .i64 a0_11, .int .i64 a0_12, .int .i64 a0_13, .int .i64 a0_14, .int .i64 a0_15, .int .i64 a0_16] 27 (0, 0)) (by (with_reducible repeat (first | refine blk_drewN ?_ _ | refine blk_drew ?_ | refine blk_alloc ?_ _)); exact BK109.out) hb); have n1_ := Aside0.mk (below_step (by repeat (first | (with_reducible first | exact HB.out | apply below_alloc | apply pw_below_drewN | apply below_drew1 | refine below_set ?_ GE109.out) | exact HB.out)) hb); clear BK109; clear HB; have BK109 := n0_; have HB := n1_; clear n0_ n1_; (try clear hb); (try clear hb2); (try clear hk); (try clear hi)))
              go_ret
              exact ⟨by first | rfl | (simp [errW_none, errW_some] <;> rfl) | (simp [*, errW_none, errW_some] <;> rfl), by repeat (first | (with_reducible first | exact HB.out | apply below_alloc | apply pw_below_drewN | apply below_drew1 | refine below_set ?_ GE109.out) | exact HB.out)⟩
          · replace c17 := Bool.eq_false_iff.mpr c17
            subst c17
            have H1 : (some false) = some r := by rw [if_neg (show ¬ (false = true) by decide)] at H; exact H
            clear H
            have H := H1
            clear H1
            obtain rfl := Option.some.inj H
            have hcz40_0 : wc.cell? ⟨gb109, 0, none⟩ = some (.int .i64 a0_0) := (blk_cell BK109.out 0).trans rfl
            have hcz40_1 : wc.cell? ⟨gb109, 1, none⟩ = some (.bool a0_1) := (blk_cell BK109.out 1).trans rfl
            have hcz40_2 : wc.cell? ⟨gb109, 2, none⟩ = some (.string a0_2) := (blk_cell BK109.out 2).trans rfl
            have hcz40_3 : wc.cell? ⟨gb109, 3, none⟩ = some (.int .i64 a0_3) := (blk_cell BK109.out 3).trans rfl
            have hcz40_4 : wc.cell? ⟨gb109, 4, none⟩ = some (.bool false) := (blk_cell BK109.out 4).trans rfl
            have hcz40_5 : wc.cell? ⟨gb109, 5, none⟩ = some (.string a0_5) := (blk_cell BK109.out 5).trans rfl
            have hcz40_6 : wc.cell? ⟨gb109, 6, none⟩ = some (.bool true) := (blk_cell BK109.out 6).trans rfl
            have hcz40_7 : wc.cell? ⟨gb109, 7, none⟩ = some (.int .i64 a0_7) := (blk_cell BK109.out 7).trans rfl
            have hcz40_8 : wc.cell? ⟨gb109, 8, none⟩ = some (.int .i64 a0_8) := (blk_cell BK109.out 8).trans rfl
            have hcz40_9 : wc.cell? ⟨gb109, 9, none⟩ = some (.int .i64 a0_9) := (blk_cell BK109.out 9).trans rfl
            have hcz40_10 : wc.cell? ⟨gb109, 10, none⟩ = some (.int .i64 a0_10) := (blk_cell BK109.out 10).trans rfl
            have hcz40_11 : wc.cell? ⟨gb109, 11, none⟩ = some (.int .i64 a0_11) := (blk_cell BK109.out 11).trans rfl
            have hcz40_12 : wc.cell? ⟨gb109, 12, none⟩ = some (.int .i64 a0_12) := (blk_cell BK109.out 12).trans rfl
            have hcz40_13 : wc.cell? ⟨gb109, 13, none⟩ = some (.int .i64 a0_13) := (blk_cell BK109.out 13).trans rfl
            have hcz40_14 : wc.cell? ⟨gb109, 14, none⟩ = some (.int .i64 a0_14) := (blk_cell BK109.out 14).trans rfl
            have hcz40_15 : wc.cell? ⟨gb109, 15, none⟩ = some (.int .i64 a0_15) := (blk_cell BK109.out 15).trans rfl
            have hcz40_16 : wc.cell? ⟨gb109, 16, none⟩ = some (.int .i64 a0_16) := (blk_cell BK109.out 16).trans rfl
            have hfz40_0 := blk_frozen BK109.out 0
            have hfz40_1 := blk_frozen BK109.out 1
            have hfz40_2 := blk_frozen BK109.out 2
            have hfz40_3 := blk_frozen BK109.out 3
            have hfz40_4 := blk_frozen BK109.out 4
            have hfz40_5 := blk_frozen BK109.out 5
            have hfz40_6 := blk_frozen BK109.out 6
            have hfz40_7 := blk_frozen BK109.out 7
            have hfz40_8 := blk_frozen BK109.out 8
            have hfz40_9 := blk_frozen BK109.out 9
            have hfz40_10 := blk_frozen BK109.out 10
            have hfz40_11 := blk_frozen BK109.out 11
            have hfz40_12 := blk_frozen BK109.out 12
            have hfz40_13 := blk_frozen BK109.out 13
            have hfz40_14 := blk_frozen BK109.out 14
            have hfz40_15 := blk_frozen BK109.out 15
            have hfz40_16 := blk_frozen BK109.out 16
            go_wp2
            go_ret
            exact ⟨by first | rfl | (simp [errW_none, errW_some] <;> rfl) | (simp [*, errW_none, errW_some] <;> rfl), by repeat (first | (with_reducible first | exact HB.out | apply below_alloc | apply pw_below_drewN | apply below_drew1 | refine below_set ?_ GE109.out) | exact HB.out)⟩
        · replace c16 := Bool.eq_false_iff.mpr c16
          subst c16
          have H1 : (some ((a0_3 == 0 && (!a0_4 && (a0_5.toList.isEmpty))) && (!false && ((a0_7 == 0 && (a0_8 == 0 && (a0_9 == 0 && (a0_10 == 0 && (a0_11 == 0))))) && ((a0_12 == 0 && (a0_13 == 0 && (a0_14 == 0 && (a0_15 == 0 && (a0_16 == 0)))))))))) = some r := by rw [if_neg (show ¬ (false = true) by decide)] at H; exact H
          clear H
          have H := H1
          clear H1
          obtain rfl := Option.some.inj H
          have hcz41_0 : wc.cell? ⟨gb109, 0, none⟩ = some (.int .i64 a0_0) := (blk_cell BK109.out 0).trans rfl
          have hcz41_1 : wc.cell? ⟨gb109, 1, none⟩ = some (.bool a0_1) := (blk_cell BK109.out 1).trans rfl
          have hcz41_2 : wc.cell? ⟨gb109, 2, none⟩ = some (.string a0_2) := (blk_cell BK109.out 2).trans rfl
          have hcz41_3 : wc.cell? ⟨gb109, 3, none⟩ = some (.int .i64 a0_3) := (blk_cell BK109.out 3).trans rfl
          have hcz41_4 : wc.cell? ⟨gb109, 4, none⟩ = some (.bool a0_4) := (blk_cell BK109.out 4).trans rfl
          have hcz41_5 : wc.cell? ⟨gb109, 5, none⟩ = some (.string a0_5) := (blk_cell BK109.out 5).trans rfl
          have hcz41_6 : wc.cell? ⟨gb109, 6, none⟩ = some (.bool false) := (blk_cell BK109.out 6).trans rfl
          have hcz41_7 : wc.cell? ⟨gb109, 7, none⟩ = some (.int .i64 a0_7) := (blk_cell BK109.out 7).trans rfl
          have hcz41_8 : wc.cell? ⟨gb109, 8, none⟩ = some (.int .i64 a0_8) := (blk_cell BK109.out 8).trans rfl
          have hcz41_9 : wc.cell? ⟨gb109, 9, none⟩ = some (.int .i64 a0_9) := (blk_cell BK109.out 9).trans rfl
          have hcz41_10 : wc.cell? ⟨gb109, 10, none⟩ = some (.int .i64 a0_10) := (blk_cell BK109.out 10).trans rfl
          have hcz41_11 : wc.cell? ⟨gb109, 11, none⟩ = some (.int .i64 a0_11) := (blk_cell BK109.out 11).trans rfl
          have hcz41_12 : wc.cell? ⟨gb109, 12, none⟩ = some (.int .i64 a0_12) := (blk_cell BK109.out 12).trans rfl
          have hcz41_13 : wc.cell? ⟨gb109, 13, none⟩ = some (.int .i64 a0_13) := (blk_cell BK109.out 13).trans rfl
          have hcz41_14 : wc.cell? ⟨gb109, 14, none⟩ = some (.int .i64 a0_14) := (blk_cell BK109.out 14).trans rfl
          have hcz41_15 : wc.cell? ⟨gb109, 15, none⟩ = some (.int .i64 a0_15) := (blk_cell BK109.out 15).trans rfl
          have hcz41_16 : wc.cell? ⟨gb109, 16, none⟩ = some (.int .i64 a0_16) := (blk_cell BK109.out 16).trans rfl
          have hfz41_0 := blk_frozen BK109.out 0
          have hfz41_1 := blk_frozen BK109.out 1
          have hfz41_2 := blk_frozen BK109.out 2
          have hfz41_3 := blk_frozen BK109.out 3
          have hfz41_4 := blk_frozen BK109.out 4
          have hfz41_5 := blk_frozen BK109.out 5
          have hfz41_6 := blk_frozen BK109.out 6
          have hfz41_7 := blk_frozen BK109.out 7
          have hfz41_8 := blk_frozen BK109.out 8
          have hfz41_9 := blk_frozen BK109.out 9
          have hfz41_10 := blk_frozen BK109.out 10
          have hfz41_11 := blk_frozen BK109.out 11
          have hfz41_12 := blk_frozen BK109.out 12
          have hfz41_13 := blk_frozen BK109.out 13
          have hfz41_14 := blk_frozen BK109.out 14
          have hfz41_15 := blk_frozen BK109.out 15
          have hfz41_16 := blk_frozen BK109.out 16
          go_wp2_with (first | ((with_reducible refine gate_dst (N := 25) rfl ?_); refine wpList_load_row rfl 27 _ rfl (gb109) rfl 27 #[.int .i64 a0_0, .bool a0_1, .string a0_2, .int .i64 a0_3, .bool a0_4, .string a0_5, .bool false, .int .i64 a0_7, .int .i64 a0_8, .int .i64 a0_9, .int .i64 a0_10, .int .i64 a0_11, .int .i64 a0_12, .int .i64 a0_13, .int .i64 a0_14, .int .i64 a0_15, .int .i64 a0_16] (0, 0) _ (by (with_reducible repeat (first | refine blk_drewN ?_ _ | refine blk_drew ?_ | refine blk_alloc ?_ _)); exact BK109.out) Tryd.underlying27 rfl (by kernel_rfl) ?_))
          go_ret
          exact ⟨by first | rfl | (simp [errW_none, errW_some] <;> rfl) | (simp [*, errW_none, errW_some] <;> rfl), by repeat (first | (with_reducible first | exact HB.out | apply below_alloc | apply pw_below_drewN | apply below_drew1 | refine below_set ?_ GE109.out) | exact HB.out)⟩
end Go.Proofs.YtnbjneknicppcaaDoor.Fn

namespace Go.Proofs.YtnbjneknicppcaaDoor.Fn
set_option linter.unusedVariables false
set_option linter.unusedSimpArgs false
open Go.RowKit Go.Proofs.YtnbjneknicppcaaDoorW.PrintWords Go.Proofs.YtnbjneknicppcaaDoorW.PrintLast Go.Proofs.YtnbjneknicppcaaDoorW.PrintMore
def inB (n lo hi : Int) : Bool := decide (lo ≤ n) && decide (n ≤ hi)
theorem within_eq (n lo hi : Int) : posix_within.f n lo hi = some (inB n lo hi) := by
  unfold posix_within.f inB
  by_cases h : n ≥ lo
  · rw [if_pos h]; simp; omega
  · rw [if_neg h]; simp; omega
def dateB (c0 : Int) (c1 : Int) (c2 : Int) (c3 : Int) (_c4 : Int) : Bool :=
  if c0 = 1 then (c2 == 0 && c3 == 0) && inB c1 1 365 else if c0 = 2 then (c2 == 0 && c3 == 0) && inB c1 0 365 else if c0 = 3 then inB c1 1 12 && (inB c2 1 5 && inB c3 0 6) else false
def chgB (c0 : Int) (c1 : Int) (c2 : Int) (c3 : Int) (c4 : Int) (wide : Bool) : Bool := (inB c4 0 89999 || (wide && inB c4 (-604799) 604799)) && dateB c0 c1 c2 c3 c4
theorem changes_j1 (k : Nat) (c0 : Int) (c1 : Int) (c2 : Int) (c3 : Int) (c4 : Int) : posix_changes.j1 (k + 1) (c2 == 0 && c3 == 0) c0 c1 c2 c3 c4 = some (dateB c0 c1 c2 c3 c4) := by
  simp only [posix_changes.j1, within_eq, Option.bind_some]
  unfold dateB
  split
  · cases (c2 == 0 && c3 == 0) <;> simp
  · split
    · cases (c2 == 0 && c3 == 0) <;> simp
    · split
      · cases inB c1 1 12 <;> cases inB c2 1 5 <;> simp
      · rfl
theorem changes_j0 (k : Nat) (c0 : Int) (c1 : Int) (c2 : Int) (c3 : Int) (c4 : Int) (b : Bool) : posix_changes.j0 (k + 2) b c0 c1 c2 c3 c4 = some (!b && dateB c0 c1 c2 c3 c4) := by
  have h := changes_j1 k c0 c1 c2 c3 c4
  rw [posix_changes.j0]
  cases b
  · rw [if_neg (by decide)]
    by_cases h2 : c2 = 0
    · rw [if_pos h2]
      simp only [h2, beq_self_eq_true, Bool.true_and] at h ⊢
      rw [h]
      rfl
    · rw [if_neg h2]
      have e : (c2 == 0 && c3 == 0) = false := by simp [h2]
      rw [e] at h
      rw [h]
      rfl
  · rfl
theorem changes_eq (k : Nat) (c0 : Int) (c1 : Int) (c2 : Int) (c3 : Int) (c4 : Int) (wide : Bool) : posix_changes.f (k + 2) c0 c1 c2 c3 c4 wide = some (chgB c0 c1 c2 c3 c4 wide) := by
  unfold posix_changes.f chgB
  rw [within_eq, within_eq]
  simp only [Option.bind_some, changes_j0]
  cases inB c4 0 89999 <;> cases wide <;> simp
def rightB (s0 : Int) (s1 : Bool) (s2 : ByteArray) (d0 : Int) (d1 : Bool) (d2 : ByteArray) (bo : Bool) (a0 : Int) (a1 : Int) (a2 : Int) (a3 : Int) (a4 : Int) (e0 : Int) (e1 : Int) (e2 : Int) (e3 : Int) (e4 : Int) (wide : Bool) : Bool :=
  !s1 && (namedB s2 && (inB s0 (-89999) 89999 && (if bo = true then d1 && (namedB d2 && (inB d0 (-89999) 89999 && (chgB a0 a1 a2 a3 a4 wide && chgB e0 e1 e2 e3 e4 wide)))
    else ((d0 == 0 && (!d1 && (d2.toList.isEmpty))) && ((a0 == 0 && (a1 == 0 && (a2 == 0 && (a3 == 0 && (a4 == 0))))) && ((e0 == 0 && (e1 == 0 && (e2 == 0 && (e3 == 0 && (e4 == 0)))))))))))
theorem right_j0 (k : Nat) (s0 : Int) (s1 : Bool) (s2 : ByteArray) (d0 : Int) (d1 : Bool) (d2 : ByteArray) (bo : Bool) (a0 : Int) (a1 : Int) (a2 : Int) (a3 : Int) (a4 : Int) (e0 : Int) (e1 : Int) (e2 : Int) (e3 : Int) (e4 : Int) (wide b : Bool) : posix_Right.j0 (k + 3) wide b s0 s1 s2 d0 d1 d2 bo a0 a1 a2 a3 a4 e0 e1 e2 e3 e4 = some (!b && (if bo = true then d1 && (namedB d2 && (inB d0 (-89999) 89999 && (chgB a0 a1 a2 a3 a4 wide && chgB e0 e1 e2 e3 e4 wide)))
    else ((d0 == 0 && (!d1 && (d2.toList.isEmpty))) && ((a0 == 0 && (a1 == 0 && (a2 == 0 && (a3 == 0 && (a4 == 0))))) && ((e0 == 0 && (e1 == 0 && (e2 == 0 && (e3 == 0 && (e4 == 0))))))))) ) := by
  rw [posix_Right.j0]
  simp only [posix_named.f, within_eq, changes_eq, Option.bind_some]
  cases b
  · cases bo
    · simp
    · cases d1 <;> cases namedB d2 <;> cases inB d0 (-89999) 89999 <;> cases chgB a0 a1 a2 a3 a4 wide <;> simp
  · rfl
theorem rightR_eq (k : Nat) (s0 : Int) (s1 : Bool) (s2 : ByteArray) (d0 : Int) (d1 : Bool) (d2 : ByteArray) (bo : Bool) (a0 : Int) (a1 : Int) (a2 : Int) (a3 : Int) (a4 : Int) (e0 : Int) (e1 : Int) (e2 : Int) (e3 : Int) (e4 : Int) (wide : Bool) : posix_Right.f (k + 3) s0 s1 s2 d0 d1 d2 bo a0 a1 a2 a3 a4 e0 e1 e2 e3 e4 wide = some (rightB s0 s1 s2 d0 d1 d2 bo a0 a1 a2 a3 a4 e0 e1 e2 e3 e4 wide) := by
  unfold posix_Right.f rightB
  simp only [posix_named.f, within_eq, right_j0, Option.bind_some]
  cases s1 <;> cases namedB s2 <;> cases inB s0 (-89999) 89999 <;> simp
end Go.Proofs.YtnbjneknicppcaaDoor.Fn

namespace Go.Proofs.YtnbjneknicppcaaDoor.Fn
set_option linter.unusedVariables false
set_option linter.unusedSimpArgs false
structure Kd where
  off : Int
  dst : Bool
  name : ByteArray
structure Chg where
  how : Int
  n : Int
  week : Int
  wday : Int
  time : Int
  deriving DecidableEq
structure Rul where
  std : Kd
  dst : Kd
  both : Bool
  st : Chg
  en : Chg
abbrev emptyS : ByteArray := ⟨#[]⟩
def Kd.zero : Kd := ⟨0, false, emptyS⟩
def Chg.zero : Chg := ⟨0, 0, 0, 0, 0⟩
def Rul.zero : Rul := ⟨.zero, .zero, false, .zero, .zero⟩
def Rul.right (r : Rul) (wide : Bool) : Bool := rightB r.std.off r.std.dst r.std.name r.dst.off r.dst.dst r.dst.name r.both r.st.how r.st.n r.st.week r.st.wday r.st.time r.en.how r.en.n r.en.week r.en.wday r.en.time wide
def Rul.cells (r : Rul) : Array Value := #[.int .i64 r.std.off, .bool r.std.dst, .string r.std.name, .int .i64 r.dst.off, .bool r.dst.dst, .string r.dst.name, .bool r.both, .int .i64 r.st.how, .int .i64 r.st.n, .int .i64 r.st.week, .int .i64 r.st.wday, .int .i64 r.st.time, .int .i64 r.en.how, .int .i64 r.en.n, .int .i64 r.en.week, .int .i64 r.en.wday, .int .i64 r.en.time]
abbrev Tx (l : List UInt8) : ByteArray := ⟨l.toArray⟩
theorem Tx_list (l : List UInt8) : (Tx l).data.toList = l := by simp
theorem Tx_of (s : ByteArray) : Tx s.data.toList = s := by cases s; simp
theorem Tx_size (l : List UInt8) : (Tx l).size = l.length := by simp [ByteArray.size]
def digB (c : UInt8) : Bool := decide (48 ≤ c.toNat) && decide (c.toNat ≤ 57)
def ltrB (c : UInt8) : Bool := (decide (97 ≤ c.toNat) && decide (c.toNat ≤ 122)) || (decide (65 ≤ c.toNat) && decide (c.toNat ≤ 90))
def namedL (l : List UInt8) : Bool := decide (3 ≤ l.length) && decide (l.length ≤ 20) && l.all fun c => inSet c.toNat
theorem namedL_eq (s : ByteArray) : namedB s = namedL s.data.toList := by unfold namedB namedL; rw [show s.data.toList.length = s.size from Array.length_toList ..]
def runOf (p : UInt8 → Bool) (most : Nat) (l : List UInt8) : List UInt8 := (l.take most).takeWhile p
def runRest (p : UInt8 → Bool) (most : Nat) (l : List UInt8) : List UInt8 := l.drop (runOf p most l).length
def eats (c : UInt8) (l : List UInt8) : Bool := l.head? == some c
def eaten (c : UInt8) (l : List UInt8) : List UInt8 := if eats c l = true then l.tail else l
def numN (l : List UInt8) : Nat := l.foldl (fun n c => n * 10 + (c.toNat - 48)) 0
def numOf (l : List UInt8) : Int := (numN l : Int)
def tkNum (most : Nat) (l : List UInt8) : Option (Int × List UInt8) :=
  if runOf digB most l = [] then none else some (numOf (runOf digB most l), runRest digB most l)
def tkSixty (l : List UInt8) : Option (Int × Bool × List UInt8) :=
  if eats 58 l = true then
    (if (runOf digB 2 l.tail).length = 2 then (if numOf (runOf digB 2 l.tail) < 60 then some (numOf (runOf digB 2 l.tail), true, runRest digB 2 l.tail) else none) else none)
  else some (0, false, l)
def signOf (signed : Bool) (l : List UInt8) : Int := if signed = true then (if eats 45 l = true then -1 else 1) else 1
def signRest (signed : Bool) (l : List UInt8) : List UInt8 := if signed = true then (if eats 45 l = true then l.tail else if eats 43 l = true then l.tail else l) else l
def tkTime (signed wide : Bool) (l : List UInt8) : Option (Int × List UInt8) :=
  (tkNum (if wide = true then 3 else 2) (signRest signed l)).bind fun h =>
    if h.1 ≤ (if wide = true then 167 else 24) then
      (tkSixty h.2).bind fun m =>
        if m.2.1 = true then (tkSixty m.2.2).bind fun s => some (signOf signed l * (h.1 * 3600 + (m.1 * 60 + s.1)), s.2.2)
        else some (signOf signed l * (h.1 * 3600), m.2.2)
    else none
def isEnd (c : UInt8) : Bool := c == 62
def tkName (l : List UInt8) : Option (List UInt8 × List UInt8) :=
  if eats 60 l = true then
    (if (l.tail.takeWhile fun c => !isEnd c).length < l.tail.length then
      (if namedL (l.tail.takeWhile fun c => !isEnd c) = true then some (l.tail.takeWhile fun c => !isEnd c, l.tail.drop ((l.tail.takeWhile fun c => !isEnd c).length + 1)) else none)
    else none)
  else (if namedL (l.takeWhile ltrB) = true then some (l.takeWhile ltrB, l.drop (l.takeWhile ltrB).length) else none)
def howOf (l : List UInt8) : Int := if eats 74 l = true then 1 else if eats 77 l = true then 3 else 2
def howRest (l : List UInt8) : List UInt8 := if eats 74 l = true then l.tail else if eats 77 l = true then l.tail else l
def tkDot (l : List UInt8) : Option (Int × List UInt8) := if eats 46 l = true then tkNum 3 l.tail else none
def tkChg (wide : Bool) (l : List UInt8) : Option (Chg × List UInt8) :=
  if eats 44 l = true then
    (tkNum 3 (howRest l.tail)).bind fun n =>
      (if howOf l.tail = 3 then (tkDot n.2).bind fun w => (tkDot w.2).bind fun d => some (w.1, d.1, d.2) else some (0, 0, n.2)).bind fun wd =>
        if eats 47 wd.2.2 = true then (tkTime wide wide wd.2.2.tail).bind fun t => some (⟨howOf l.tail, n.1, wd.1, wd.2.1, t.1⟩, t.2)
        else some (⟨howOf l.tail, n.1, wd.1, wd.2.1, 7200⟩, wd.2.2)
  else none
def tkOff (std : Int) (l : List UInt8) : Option (Int × List UInt8) :=
  if eats 44 l = true then some (std + 3600, l) else (tkTime true false l).bind fun d => some (-d.1, d.2)
def tkRule (wide : Bool) (l : List UInt8) : Option Rul :=
  (tkName l).bind fun a => (tkTime true false a.2).bind fun b =>
    if b.2 = [] then some ⟨⟨-b.1, false, Tx a.1⟩, .zero, false, .zero, .zero⟩
    else (tkName b.2).bind fun c => (tkOff (-b.1) c.2).bind fun o => (tkChg wide o.2).bind fun s => (tkChg wide s.2).bind fun e =>
      if e.2 = [] then
        (if (⟨⟨-b.1, false, Tx a.1⟩, ⟨o.1, true, Tx c.1⟩, true, s.1, e.1⟩ : Rul).right wide = true then some ⟨⟨-b.1, false, Tx a.1⟩, ⟨o.1, true, Tx c.1⟩, true, s.1, e.1⟩ else none)
      else none
/-! How it is written. -/
def dig1 (n : Nat) : UInt8 := UInt8.ofNat (48 + n)
def dec3 (n : Nat) : List UInt8 := if n < 10 then [dig1 n] else if n < 100 then [dig1 (n / 10), dig1 (n % 10)] else [dig1 (n / 100), dig1 (n / 10 % 10), dig1 (n % 10)]
def two (n : Nat) : List UInt8 := [dig1 (n / 10), dig1 (n % 10)]
def prTime (n : Int) : List UInt8 :=
  (if n < 0 then [45] else []) ++ (dec3 (n.natAbs / 3600) ++ ((if n.natAbs % 3600 ≠ 0 then 58 :: two (n.natAbs / 60 % 60) else []) ++ (if n.natAbs % 60 ≠ 0 then 58 :: two (n.natAbs % 60) else [])))
def prName (l : List UInt8) : List UInt8 := if l.all ltrB = true then l else 60 :: (l ++ [62])
def prDay (c : Chg) : List UInt8 :=
  if c.how = 1 then 74 :: dec3 c.n.toNat else if c.how = 3 then 77 :: (dec3 c.n.toNat ++ (46 :: (dec3 c.week.toNat ++ (46 :: dec3 c.wday.toNat)))) else dec3 c.n.toNat
def prChg (c : Chg) : List UInt8 := 44 :: (prDay c ++ (if c.time ≠ 7200 then 47 :: prTime c.time else []))
def prRule (r : Rul) : List UInt8 :=
  prName r.std.name.data.toList ++ (prTime (-r.std.off) ++ (if r.both = true then prName r.dst.name.data.toList ++ ((if r.dst.off ≠ r.std.off + 3600 then prTime (-r.dst.off) else []) ++ (prChg r.st ++ prChg r.en)) else []))
theorem decDigits_3 (n : Nat) (h : n < 1000) : Lib.decDigits n = dec3 n := by
  unfold dec3
  by_cases h1 : n < 10
  · rw [if_pos h1, Lib.decDigits, dif_pos h1]; rfl
  · rw [if_neg h1, Lib.decDigits, dif_neg h1]
    by_cases h2 : n < 100
    · rw [if_pos h2, Lib.decDigits, dif_pos (by omega)]; rfl
    · rw [if_neg h2, Lib.decDigits, dif_neg (by omega), Lib.decDigits, dif_pos (by omega), show n / 10 / 10 = n / 100 by omega]; rfl
theorem itoa_3 (n : Int) (h0 : 0 ≤ n) (h : n < 1000) : Lib.itoa n = dec3 n.toNat := by
  unfold Lib.itoa; rw [if_neg (by omega), decDigits_3 _ (by omega)]
theorem decFrom_num : ∀ (l : List UInt8) (acc : Nat), l.all digB = true → Lib.decFrom acc l = some (l.foldl (fun n c => n * 10 + (c.toNat - 48)) acc) := by
  intro l
  induction l with
  | nil => intro acc _; rfl
  | cons c t ih =>
    intro acc h
    rw [List.all_cons, Bool.and_eq_true] at h
    obtain ⟨hc, ht⟩ := h
    have hc' : 48 ≤ c.toNat ∧ c.toNat ≤ 57 := by simpa [digB] using hc
    rw [Lib.decFrom, Lib.digitVal, if_pos hc', List.foldl_cons]
    exact ih _ ht
theorem run_all (p : UInt8 → Bool) (most : Nat) (l : List UInt8) : (runOf p most l).all p = true := List.all_takeWhile
theorem run_len (p : UInt8 → Bool) (most : Nat) (l : List UInt8) : (runOf p most l).length ≤ most := by
  have h1 := (List.takeWhile_prefix p (l := l.take most)).length_le
  have h2 : (l.take most).length ≤ most := List.length_take_le _ _
  unfold runOf; omega
theorem run_len2 (p : UInt8 → Bool) (most : Nat) (l : List UInt8) : (runOf p most l).length ≤ l.length := by
  have h1 := (List.takeWhile_prefix p (l := l.take most)).length_le
  have h2 : (l.take most).length ≤ l.length := List.length_take_le' _ _
  unfold runOf; omega
theorem run_take (p : UInt8 → Bool) (most : Nat) (l : List UInt8) : l.take (runOf p most l).length = runOf p most l := by
  have h1 : runOf p most l <+: l.take most := List.takeWhile_prefix p
  have h2 : runOf p most l <+: l := h1.trans (List.take_prefix _ _)
  exact (List.prefix_iff_eq_take.1 h2).symm
theorem atoi_run (l : List UInt8) (hl : l.all digB = true) : Lib.atoi l = if l = [] then none else some (numOf l) := by
  cases l with
  | nil => rfl
  | cons c t =>
    have hc : 48 ≤ c.toNat ∧ c.toNat ≤ 57 := by rw [List.all_cons, Bool.and_eq_true] at hl; simpa [digB] using hl.1
    have h45 : (c == 45) = false := by rw [beq_eq_false_iff_ne]; rintro rfl; revert hc; decide
    have h43 : (c == 43) = false := by rw [beq_eq_false_iff_ne]; rintro rfl; revert hc; decide
    rw [Lib.atoi, h45, h43, if_neg (by decide), if_neg (by decide), Lib.decNat, if_neg (by simp), decFrom_num _ _ hl, if_neg (by simp)]
    rfl
end Go.Proofs.YtnbjneknicppcaaDoor.Fn

namespace Go.Proofs.YtnbjneknicppcaaDoor.Fn
set_option linter.unusedVariables false
set_option linter.unusedSimpArgs false
open Go.RowKit Go.Proofs.YtnbjneknicppcaaDoorW.PrintWords Go.Proofs.YtnbjneknicppcaaDoorW.PrintLast Go.Lib
structure G8 (w : World) : Prop where
  tab : Lib.TabIs Tryd.prog w "internal/strconv.uint64pow10" .u64 Lib.pow10Tab
  err : ∃ tp p, w.var? Tryd.prog "strconv.ErrSyntax" = some #[.iface tp p]
def Room8 (B : Nat) : Prop := 0 < B ∧ 2 < B
theorem var_keep {w w' : World} {n : String} {g : Nat} {cs : Array Value} (hg : Tryd.prog.globalNamed n = some g) (h : w.var? Tryd.prog n = some cs) {B : Nat} (hb : Below B w w') (hB : g < B) : w'.var? Tryd.prog n = some cs := by
  unfold World.var? at h ⊢
  rw [hg] at h ⊢
  simp only [Option.bind_some] at h ⊢
  rw [hb.block g hB]
  exact h
theorem var_lt {w : World} {n : String} {g : Nat} {cs : Array Value} (hg : Tryd.prog.globalNamed n = some g) (h : w.var? Tryd.prog n = some cs) : g < w.heap.size := by
  unfold World.var? at h
  rw [hg] at h
  simp only [Option.bind_some] at h
  rcases Nat.lt_or_ge g w.heap.size with h' | h'
  · exact h'
  · simp [Array.getElem?_eq_none h'] at h
theorem g_tab : Tryd.prog.globalNamed "internal/strconv.uint64pow10" = some 0 := by kernel_rfl
theorem g_syn : Tryd.prog.globalNamed "strconv.ErrSyntax" = some 2 := by kernel_rfl
theorem G8.room {w : World} (h : G8 w) : Room8 w.heap.size := by
  obtain ⟨tp, p, h2⟩ := h.err
  exact ⟨var_lt g_tab h.tab, var_lt g_syn h2⟩
theorem Room8.mono {B C : Nat} (h : Room8 B) (hBC : B ≤ C) : Room8 C := ⟨Nat.lt_of_lt_of_le h.1 hBC, Nat.lt_of_lt_of_le h.2 hBC⟩
theorem G8.keep {w w' : World} {B : Nat} (h : G8 w) (hb : Below B w w') (hB : Room8 B) : G8 w' := by
  obtain ⟨tp, p, h2⟩ := h.err
  exact ⟨var_keep g_tab h.tab hb hB.1, tp, p, var_keep g_syn h2 hb hB.2⟩
theorem G8.below {w w' : World} (h : G8 w) (hb : Below w.heap.size w w') : G8 w' := h.keep hb h.room
theorem below_grow (w : World) (k : Nat) (os : Array Obj) : Below w.heap.size w (Sort.grow (w.drewN k) os) := by
  refine ⟨rfl, rfl, rfl, ?_, fun b hb => ?_⟩
  · simp [Sort.grow, World.drewN]
  · simp [Sort.grow, World.drewN, Array.getElem?_append_left hb]
theorem itoa_calls (n : Int) (h0 : 0 ≤ n) (h1 : n < 1000) (w : World) (hG : G8 w) :
    Calls Tryd.prog 45 #[.int .i64 n] w fun e w' => e = .returned (.string ⟨(dec3 n.toNat).toArray⟩) ∧ Below w.heap.size w w' := by
  refine (Tryd.strconv_Itoa n (by omega) (by omega) w hG.tab).mono ?_
  rintro e w' ⟨rfl, k, os, rfl⟩
  exact ⟨by rw [itoa_3 n h0 h1], below_grow w k os⟩
theorem itoaN_calls (k : Nat) (h1 : k < 1000) (w : World) (hG : G8 w) :
    Calls Tryd.prog 45 #[.int .i64 (k : Int)] w fun e w' => e = .returned (.string ⟨(dec3 k).toArray⟩) ∧ Below w.heap.size w w' := by
  have h := itoa_calls (k : Int) (by omega) (by omega) w hG
  rw [Int.toNat_natCast] at h
  exact h
theorem G8.drew {w : World} (h : G8 w) : G8 w.drew := h.below (Below.drew (Below.refl _ _))
end Go.Proofs.YtnbjneknicppcaaDoor.Fn

namespace Go.Proofs.YtnbjneknicppcaaDoor.Open
open Go.RowKit
theorem row8 (u : TypeId) (h : Tryd.prog.typeName? 3 u = some "*errors.errorString") : u = 136 :=
  typeName_ptr_named (nm := "errors.errorString") (by kernel_rfl) (by kernel_rfl) (by decide) u h
theorem tab8 : Rows.laid_internal_strconv_uint64pow10 (H := Unit) = Lib.tabData .u64 Lib.pow10Tab := by kernel_rfl
theorem g8_of {W : World} (h : laidMet Tryd.prog [("math/bits.deBruijn32tab", Rows.laid_math_bits_deBruijn32tab), ("math/bits.deBruijn64tab", Rows.laid_math_bits_deBruijn64tab), ("internal/strconv.uint64pow10", Rows.laid_internal_strconv_uint64pow10), ("strconv.ErrRange", Rows.laid_strconv_ErrRange), ("strconv.ErrSyntax", Rows.laid_strconv_ErrSyntax)] W) : Fn.G8 W := by
  have h3 := h.tail.tail
  have h5 := h3.tail.tail
  rw [tab8] at h3
  have hT := Lib.tabIs_of_head Fn.g_tab (show (Tryd.prog.globals[0]?).map (·.type) = some 114 by kernel_rfl) Tryd.underlying114 Tryd.underlying106 (by kernel_rfl) (by kernel_rfl) h3
  obtain ⟨a, s, hv, _, _, _⟩ := laid_sentinel h5 Fn.g_syn (show (Tryd.prog.globals[2]?).map (·.type) = some 77 by kernel_rfl) Tryd.underlying77 row8 Tryd.underlying136 Tryd.underlying138 rfl rfl Tryd.underlying9 (by kernel_rfl) (by kernel_rfl)
  exact ⟨hT, _, _, hv⟩
end Go.Proofs.YtnbjneknicppcaaDoor.Open

namespace Go.Proofs.YtnbjneknicppcaaDoor.Fn
set_option linter.unusedVariables false
set_option linter.unusedSimpArgs false
open Go.RowKit Go.Proofs.YtnbjneknicppcaaDoorW.PrintWords Go.Proofs.YtnbjneknicppcaaDoorW.PrintLast Go.Lib
theorem info_builder : (Tryd.prog.info? 52).map (·.size) = some 2 := by kernel_rfl
theorem info_byte : (Tryd.prog.info? 5).map (fun i => (i.zero, i.size, i.bytes)) = some (some (.int .u8 0), 1, 1) := by kernel_rfl
theorem lies_printer : liesAt Tryd.prog Tryd.prog.depth 54 (2 / Tryd.prog.cellsOf 54) 0 52 1 = true := by kernel_rfl
set_option maxHeartbeats 1000000 in
set_option maxRecDepth 100000 in
theorem pb_used (b : Nat) (w : World) (h0 : w.cell? ⟨b, 0, none⟩ = some (.pointer (some ⟨b, 0, none⟩))) :
    Calls Tryd.prog 59 #[.pointer (some ⟨b, 0, none⟩)] w fun e w' => e = .returned (.tuple #[]) ∧ w = w' := by
  obtain ⟨j, hj, _⟩ := Option.map_eq_some_iff.1 info_builder
  go_enter Tryd.func59, Tryd.ntmps59
  go_wp2
  rw [Lib.run_neq_ptr_same w _ Tryd.underlying50 hj]
  go_wp2
  go_end0
  exact ⟨rfl, rfl⟩
set_option maxHeartbeats 1000000 in
set_option maxRecDepth 100000 in
theorem pb_fresh (b : Nat) (w : World) (h0 : w.cell? ⟨b, 0, none⟩ = some (.pointer none)) (hsh : w.shape? b = some (54, 2)) (hfz : w.frozen? ⟨b, 0, none⟩ = false) :
    Calls Tryd.prog 59 #[.pointer (some ⟨b, 0, none⟩)] w fun e w' => e = .returned (.tuple #[]) ∧ w' = w.setCell ⟨b, 0, none⟩ (.pointer (some ⟨b, 0, none⟩)) := by
  obtain ⟨j, hj, hjs⟩ := Option.map_eq_some_iff.1 info_builder
  go_enter Tryd.func59, Tryd.ntmps59
  go_wp2
  rw [Lib.run_to_unsafe w ⟨b, 0, none⟩ Tryd.underlying50 Tryd.underlying98 hj (by rw [hjs]; decide) hsh (Nat.zero_lt_succ 1)]
  simp only [Result.andThen]
  rw [Oper.upon_value]
  go_wp2
  rw [run_callFunc_extern Tryd.func68 (by kernel_rfl) (by kernel_rfl) (by kernel_rfl) (e := Extern.AbiNoEscape.same) (by kernel_rfl)]
  rw [Lib.run_noEscape]
  simp only [Result.andThen]
  rw [Oper.upon_value]
  go_wp2
  rw [Lib.run_from_unsafe w ⟨b, 0, none⟩ Tryd.underlying98 Tryd.underlying50 hj hsh lies_printer]
  simp only [Result.andThen]
  rw [Oper.upon_value]
  go_wp2
  go_end0
  exact ⟨rfl, rfl⟩
def Prt (B b : Nat) (l : List UInt8) (w : World) : Prop := Lib.IsBuilderF 54 5 B b (Lib.byteCells l) w
def PrtTo (B b : Nat) (l : List UInt8) (w w' : World) : Prop := Prt B b l w' ∧ Below B w w' ∧ Lib.OthersKept 5 (some b) w w'
set_option maxHeartbeats 1000000 in
theorem pb_check (B b : Nat) (bs : List Value) (w : World) (h : Lib.IsBuilderF 54 5 B b bs w) :
    Calls Tryd.prog 59 #[.pointer (some ⟨b, 0, none⟩)] w fun e w' => e = .returned (.tuple #[]) ∧ (Lib.BuilderAtF 54 5 B b (.pointer (some ⟨b, 0, none⟩)) bs w' ∧ Below B w w' ∧ Lib.OthersKept 5 (some b) w w') := by
  rcases h with h | h
  · refine (pb_fresh b w h.cell0 h.shape h.frozen0).mono ?_
    rintro e w' ⟨rfl, rfl⟩
    exact ⟨rfl, h.used _, (Below.refl B w).setCell (p := ⟨b, 0, none⟩) h.1 _, (Lib.OthersKept.refl _ _ w).setCell ⟨b, 0, none⟩ rfl _⟩
  · refine (pb_used b w h.cell0).mono ?_
    rintro e w' ⟨rfl, rfl⟩
    exact ⟨rfl, h, Below.refl B _, Lib.OthersKept.refl _ _ _⟩
set_option maxHeartbeats 2000000 in
set_option maxRecDepth 100000 in
theorem pb_WriteByte (B b : Nat) (l : List UInt8) (c : UInt8) (w : World) (h : Prt B b l w) (hlen : l.length + 1 ≤ 100000) (hBw : B ≤ w.heap.size) :
    Calls Tryd.prog 44 #[.pointer (some ⟨b, 0, none⟩), .int .u8 c.toNat] w fun e w' => e = .returned .nilIface ∧ PrtTo B b (l ++ [c]) w w' := by
  obtain ⟨i0, hi, hz0, hz1, hz2⟩ := info_parts info_byte
  have hlen2 : (Lib.byteCells l).length + 1 ≤ 100000 := by rw [Lib.byteCells_length l]; exact hlen
  clear hlen
  have neB : (54 : TypeId) ≠ 5 := by decide
  go_enter Tryd.func44, Tryd.ntmps44
  go_wp2_with (go_at_call 59; refine (pb_check B b _ _ h).mono ?_)
  rintro e w1 ⟨rfl, h1, hb1, hk1⟩
  obtain ⟨hB, v, hbk, hown, hne⟩ := h1
  have c0 : w1.cell? ⟨b, 0, none⟩ = some (.pointer (some ⟨b, 0, none⟩)) := by rw [Lib.cell_of_heap hbk]; rfl
  have c1 : w1.cell? ⟨b, 1, none⟩ = some v := by rw [Lib.cell_of_heap hbk]; rfl
  go_wp2_with (at_builtin; refine wpList_append_ownF _ rfl _ _ 46 rfl B 5 i0 (.int .u8 0) 1 1 Tryd.underlying46 hi hz0 hz1 hz2 rfl (by decide) _ _ _ rfl (hown.alloc _) ⟨w1.heap.size, 0, none⟩ 1 1 [.int .u8 c.toNat] rfl rfl ?c1 ?c2 ?c3 ?c4 ?c5 ?_)
  case c1 =>
    intro j u hj
    match j, hj with
    | 0, hj => simp at hj; subst hj; simp [Addr.add]
  case c2 => intro u hu; simp at hu; subst hu; rfl
  case c3 => unfold maxLen; omega
  case c4 => omega
  case c5 => have := hb1.size; simp; omega
  intro v' w2 hown' hgrow _
  have hlt : b < w1.heap.size := by
    rcases Nat.lt_or_ge b w1.heap.size with h' | h'
    · exact h'
    · simp [Array.getElem?_eq_none h'] at hbk
  have hb2 : w2.heap[b]? = some (.cells #[.pointer (some ⟨b, 0, none⟩), v] 54 (0, 0)) := by
    rw [hgrow.block b (by simp; omega) (fun e => hne e.symm), Lib.alloc_old w1 _ b hlt]
    exact hbk
  have d0 : w2.cell? ⟨b, 0, none⟩ = some (.pointer (some ⟨b, 0, none⟩)) := by rw [Lib.cell_of_heap hb2]; rfl
  have d1 : w2.cell? ⟨b, 1, none⟩ = some v := by rw [Lib.cell_of_heap hb2]; rfl
  have f1 : w2.frozen? ⟨b, 1, none⟩ = false := Lib.frozen_of_heap hb2 1
  obtain ⟨g, cap, rfl⟩ : ∃ g cap, v' = .slice (some ⟨g, 0, none⟩) ((Lib.byteCells l).length + 1) cap := by
    rcases hown'.2 with ⟨_, h0⟩ | ⟨g, cap, cur, fz, hv, _⟩
    · omega
    · exact ⟨g, cap, hv⟩
  go_wp2
  go_ret
  refine ⟨rfl, ?_, ?_, ((hk1.alloc _).grown hgrow (Lib.ownsRowF_kind (hown.alloc _))).setCell ⟨b, 1, none⟩ rfl _⟩
  · have := Lib.BuilderAtF.put (T := 54) (e := 5) hB hb2 (bs' := Lib.byteCells l ++ [.int .u8 c.toNat]) (by simpa using hown') neB
    rw [show Lib.byteCells l ++ [.int .u8 c.toNat] = Lib.byteCells (l ++ [c]) by simp [Lib.byteCells]] at this
    exact Or.inr this
  · exact ((hb1.alloc (by have := hb1.size; omega) _).grown hgrow (by have := hb1.size; simp; omega) (fun k hk => (hown.lt k hk).1)).setCell (p := ⟨b, 1, none⟩) hB _
set_option maxHeartbeats 2000000 in
set_option maxRecDepth 100000 in
theorem pb_WriteString (B b : Nat) (l m : List UInt8) (w : World) (h : Prt B b l w) (hlen : l.length + m.length ≤ 100000) (hBw : B ≤ w.heap.size) :
    Calls Tryd.prog 43 #[.pointer (some ⟨b, 0, none⟩), .string ⟨m.toArray⟩] w fun e w' => e = .returned (.tuple #[.int .i64 m.length, .nilIface]) ∧ PrtTo B b (l ++ m) w w' := by
  obtain ⟨i0, hi, hz0, hz1, hz2⟩ := info_parts info_byte
  have hlen2 : (Lib.byteCells l).length + m.length ≤ 100000 := by rw [Lib.byteCells_length l]; exact hlen
  clear hlen
  have neB : (54 : TypeId) ≠ 5 := by decide
  obtain ⟨s, hs⟩ : ∃ s : ByteArray, s = ⟨m.toArray⟩ := ⟨_, rfl⟩
  have hsz : s.size = m.length := by rw [hs]; simp [ByteArray.size]
  have HS := Aside0.mk hs
  rw [← hs]
  clear hs
  go_enter Tryd.func43, Tryd.ntmps43
  go_wp2_with (go_at_call 59; refine (pb_check B b _ _ h).mono ?_)
  rintro e w1 ⟨rfl, h1, hb1, hk1⟩
  obtain ⟨hB, v, hbk, hown, hne⟩ := h1
  have c0 : w1.cell? ⟨b, 0, none⟩ = some (.pointer (some ⟨b, 0, none⟩)) := by rw [Lib.cell_of_heap hbk]; rfl
  have c1 : w1.cell? ⟨b, 1, none⟩ = some v := by rw [Lib.cell_of_heap hbk]; rfl
  go_wp2_with (at_builtin; refine Lib.wpList_append_own_stringF _ rfl _ _ 46 9 rfl B 5 i0 Tryd.underlying46 Tryd.underlying9 hi hz0 hz1 hz2 _ _ _ rfl hown s rfl ?c3 ?c4 ?c5 ?_)
  case c3 => unfold maxLen; omega
  case c4 => omega
  case c5 => have := hb1.size; omega
  intro v' w2 hown' hgrow _
  have hlt : b < w1.heap.size := by
    rcases Nat.lt_or_ge b w1.heap.size with h' | h'
    · exact h'
    · simp [Array.getElem?_eq_none h'] at hbk
  have hb2 : w2.heap[b]? = some (.cells #[.pointer (some ⟨b, 0, none⟩), v] 54 (0, 0)) := by
    rw [hgrow.block b hlt (fun e => hne e.symm)]
    exact hbk
  have d0 : w2.cell? ⟨b, 0, none⟩ = some (.pointer (some ⟨b, 0, none⟩)) := by rw [Lib.cell_of_heap hb2]; rfl
  have d1 : w2.cell? ⟨b, 1, none⟩ = some v := by rw [Lib.cell_of_heap hb2]; rfl
  have f1 : w2.frozen? ⟨b, 1, none⟩ = false := Lib.frozen_of_heap hb2 1
  obtain ⟨ao, n', cap, rfl⟩ : ∃ ao n' cap, v' = .slice ao n' cap := by
    rcases hown'.2 with ⟨hv, _⟩ | ⟨g, cap, cur, fz, hv, _⟩
    · exact ⟨_, _, _, hv⟩
    · exact ⟨_, _, _, hv⟩
  have HZ := Aside0.mk hsz
  clear hsz
  go_wp2
  go_ret2
  refine ⟨by rw [HZ.out]; rfl, ?_, ?_, (hk1.grown hgrow (Lib.ownsRowF_kind hown)).setCell ⟨b, 1, none⟩ rfl _⟩
  · have := Lib.BuilderAtF.put (T := 54) (e := 5) hB hb2 (bs' := Lib.byteCells l ++ Lib.strCells s) (by simpa [Lib.strCells_length, HZ.out] using hown') neB
    rw [show Lib.strCells s = Lib.byteCells m by rw [HS.out]; simp [Lib.strCells, Lib.byteCells], ← Lib.byteCells_append] at this
    exact Or.inr this
  · exact (hb1.grown hgrow (by have := hb1.size; omega) (fun k hk => (hown.lt k hk).1)).setCell (p := ⟨b, 1, none⟩) hB _
set_option maxHeartbeats 1000000 in
set_option maxRecDepth 100000 in
/-- The text of a printer that holds some bytes. -/
theorem pb_String (B b : Nat) (l : List UInt8) (w : World) (h : Prt B b l w) (h0 : l ≠ []) (hlen : l.length ≤ 100000) :
    Calls Tryd.prog 28 #[.pointer (some ⟨b, 0, none⟩)] w fun e w' => e = .returned (.string ⟨l.toArray⟩) ∧ Below B w w' := by
  obtain ⟨p, hp, hAt⟩ : ∃ p, (p = .pointer none ∨ p = .pointer (some ⟨b, 0, none⟩)) ∧ Lib.BuilderAtF 54 5 B b p (Lib.byteCells l) w := by
    rcases h with h | h
    · exact ⟨_, .inl rfl, h⟩
    · exact ⟨_, .inr rfl, h⟩
  obtain ⟨hB, v, hbk, hown, hne⟩ := hAt
  have hl0 : l.length ≠ 0 := by simpa using h0
  rw [Lib.byteCells_length] at hown
  obtain ⟨g, cap, cur, fz, rfl, hbg, hg, hfz, hnc, hcm, hcs, htake⟩ : ∃ g cap cur fz, v = .slice (some ⟨g, 0, none⟩) l.length cap ∧ B ≤ g ∧ w.heap[g]? = some (.cells cur 5 fz) ∧ fz.2 ≤ l.length * 1 ∧ l.length ≤ cap ∧ cap ≤ maxLen ∧ cur.size = cap * 1 ∧ cur.toList.take (l.length * 1) = Lib.byteCells l := by
    rcases hown.2 with ⟨_, hz⟩ | ⟨g, cap, cur, fz, hv, r⟩
    · exact absurd hz hl0
    · exact ⟨g, cap, cur, fz, hv, r⟩
  have c1 : w.drew.cell? ⟨b, 1, none⟩ = some (.slice (some ⟨g, 0, none⟩) l.length cap) := by
    have : w.drew.heap[b]? = some (.cells #[p, .slice (some ⟨g, 0, none⟩) l.length cap] 54 (0, 0)) := hbk
    rw [Lib.cell_of_heap this]; rfl
  have hSD : (Builtin.unsafeSliceData_ #[46] 82 #[.slice (some ⟨g, 0, none⟩) l.length cap]).run Tryd.prog w.drew = .ok (.pointer (some ⟨g, 0, none⟩)) w.drew :=
    Lib.run_unsafeSliceData_row _ _ _ _ _ _ (by omega)
  have hUS : (Builtin.unsafeString_ #[82, 3] 9 #[.pointer (some ⟨g, 0, none⟩), .int .i64 l.length]).run Tryd.prog w.drew = .ok (.string ⟨l.toArray⟩) (w.drew.freeze ⟨g, 0, none⟩ l.length) := by
    refine Lib.run_unsafeString_row w.drew 82 3 9 5 Tryd.underlying82 (by kernel_rfl) g cur.size (by have hg' : w.drew.heap[g]? = some (.cells cur 5 fz) := hg; simp [World.shape?, hg']) l h0 (by omega) (by unfold maxLen at hcm; omega) ?_
    intro j x hx
    have := hown.cells (g := g) rfl j (.int .u8 x.toNat) (by simp [Lib.byteCells, hx])
    exact this
  go_enter Tryd.func28, Tryd.ntmps28
  go_wp2
  go_region
  all_goals (go_wp2; go_ret; exact ⟨rfl, Lib.below_freeze (Below.drew (Below.refl B w)) (p := ⟨g, 0, none⟩) hbg _⟩)
end Go.Proofs.YtnbjneknicppcaaDoor.Fn

namespace Go.Proofs.YtnbjneknicppcaaDoor.Fn
set_option linter.unusedVariables false
set_option linter.unusedSimpArgs false
open Go.RowKit Go.Proofs.YtnbjneknicppcaaDoorW.PrintWords Go.Proofs.YtnbjneknicppcaaDoorW.PrintLast Go.Lib
def AsciiS (s : ByteArray) : Prop := ∀ i (h : i < s.size), (s[i]'h).toNat < 128
def anyFrom (s t : ByteArray) (i : Nat) : Bool := (s.data.toList.drop i).any fun c => t.data.toList.contains c
def hasFrom (c : UInt8) (t : ByteArray) (j : Nat) : Bool := (t.data.toList.drop j).contains c
theorem anyFrom_step (s t : ByteArray) (i : Nat) (h : i < s.size) : anyFrom s t i = (hasFrom (s[i]'h) t 0 || anyFrom s t (i + 1)) := by
  unfold anyFrom hasFrom
  rw [List.drop_eq_getElem_cons (by simpa using h), List.any_cons, List.drop_zero]
  rfl
theorem anyFrom_end (s t : ByteArray) (i : Nat) (h : ¬ i < s.size) : anyFrom s t i = false := by
  unfold anyFrom; rw [List.drop_of_length_le (by have : s.data.toList.length = s.size := Array.length_toList ..; omega)]; rfl
theorem hasFrom_step (c : UInt8) (t : ByteArray) (j : Nat) (h : j < t.size) : hasFrom c t j = (c == (t[j]'h) || hasFrom c t (j + 1)) := by
  unfold hasFrom
  rw [List.drop_eq_getElem_cons (by simpa using h), List.contains_cons]
  rfl
theorem hasFrom_end (c : UInt8) (t : ByteArray) (j : Nat) (h : ¬ j < t.size) : hasFrom c t j = false := by
  unfold hasFrom; rw [List.drop_of_length_le (by have : t.data.toList.length = t.size := Array.length_toList ..; omega)]; rfl
set_option maxRecDepth 1000000 in
set_option maxHeartbeats 2000000 in
theorem hasAny_calls (s t : ByteArray) (hs : AsciiS s) (ht : AsciiS t) (w : World) :
    Calls Tryd.prog 42 #[.string s, .string t] w fun e w' => e = .returned (.bool (anyFrom s t 0)) ∧ Below w.heap.size w w' := by
  have HS := Aside0.mk hs
  have HT := Aside0.mk ht
  clear hs ht
  go_enter Tryd.func42, Tryd.ntmps42
  go_wp2
  go_loopw [] (fun wr => ∃ (i : Nat), wr.heap[w.heap.size]? = some (.stringIter s i) ∧ Below w.heap.size w wr ∧ Aside0 (anyFrom s t i = anyFrom s t 0)) (fun wr => s.size - wr.iterPos w.heap.size)
  case atStart => exact ⟨0, by have := World.iter_heap w s 0; simpa using this, below_alloc (Below.refl _ _) _, ⟨rfl⟩⟩
  case round =>
    obtain ⟨i, hit, hb, hA⟩ := hrel
    have hsz : w.heap.size < wr.heap.size := (Array.getElem?_eq_some_iff.1 hit).1
    by_cases hp : i < s.size
    · have ha := HS.out i hp
      have hnx : ∀ ty, (Instr.next (.pointer (some ⟨w.heap.size, 0, none⟩)) true ty).run Tryd.prog wr = _ := fun ty => Lib.run_next_ascii_at wr w.heap.size s i ty hit hp ha
      have HIT := Aside0.mk hit
      have HB := Aside0.mk hb
      have hst := anyFrom_step s t i hp
      have HST := Aside0.mk hst
      clear hst hb hit ha
      generalize s[i] = c at hnx HST
      have hb2 := Lib.below_iterAt HB.out (k := w.heap.size) (Nat.le_refl _) s (i + 1)
      have hit2 := Lib.iterAt_heap wr w.heap.size s i (i + 1) HIT.out
      have hsz2 : (wr.iterAt w.heap.size s (i + 1)).heap.size = wr.heap.size := Lib.iterAt_size ..
      have HB2 := Aside0.mk hb2
      have HIT2 := Aside0.mk hit2
      have HSZ2 := Aside0.mk hsz2
      have HHN := Aside0.mk hnx
      clear hb2 hit2 hsz2 HB
      generalize hW : wr.iterAt w.heap.size s (i + 1) = w1 at hnx HB2 HIT2 HSZ2
      clear hW
      go_wp2
      go_loopw [] (fun w2 => ∃ (j : Nat), w2.heap[w1.heap.size]? = some (.stringIter t j) ∧ w2.heap[w.heap.size]? = some (.stringIter s (i + 1)) ∧ Below w.heap.size w w2 ∧ Aside0 (hasFrom c t j = hasFrom c t 0)) (fun w2 => t.size - w2.iterPos w1.heap.size)
      case atStart =>
        refine ⟨0, ?_, ?_, ?_, ⟨rfl⟩⟩
        · have := World.iter_heap w1 t 0; simpa using this
        · exact (blk_alloc HIT2.out _)
        · exact HB2.out.alloc HB2.out.size _
      case round =>
        obtain ⟨j, hjt, hjs, hb3, hA3⟩ := hrel
        have hszj : w1.heap.size < wr.heap.size := (Array.getElem?_eq_some_iff.1 hjt).1
        by_cases hpj : j < t.size
        · have haj := HT.out j hpj
          have hnx2 : ∀ ty, (Instr.next (.pointer (some ⟨w1.heap.size, 0, none⟩)) true ty).run Tryd.prog wr = _ := fun ty => Lib.run_next_ascii_at wr w1.heap.size t j ty hjt hpj haj
          have HST2 := Aside0.mk (hasFrom_step c t j hpj)
          have hjt2 := Aside0.mk (Lib.iterAt_heap wr w1.heap.size t j (j + 1) hjt)
          have hne : w.heap.size ≠ w1.heap.size := by have := HSZ2.out; omega
          have hjs2 := Aside0.mk ((Lib.iterAt_other wr w1.heap.size w.heap.size t (j + 1) hne).trans hjs)
          have hb32 := Aside0.mk (Lib.below_iterAt hb3 (k := w1.heap.size) (by have := HSZ2.out; omega) t (j + 1))
          have HNE := Aside0.mk hne
          have HJT := Aside0.mk hjt
          clear hjt hjs hb3 haj hne hnx
          generalize t[j] = d at hnx2 HST2
          by_cases hcd : c = d
          · have hq : (((c.toNat : Nat) : Int) == ((d.toNat : Nat) : Int)) = true := by rw [hcd]; simp
            have HR : Aside0 (anyFrom s t 0 = true) := ⟨by rw [← hA.out, HST.out, ← hA3.out, HST2.out, hcd]; simp⟩
            clear hcd
            go_wp2
            go_ret
            exact ⟨congrArg (fun b => Ending.returned (.bool b)) HR.out.symm, hb32.out⟩
          · have hq : (((c.toNat : Nat) : Int) == ((d.toNat : Nat) : Int)) = false := by
              rw [beq_eq_false_iff_ne]; intro h; exact hcd (UInt8.toNat_inj.1 (by omega))
            have HN3 : Aside0 (hasFrom c t (j + 1) = hasFrom c t 0) := ⟨by rw [← hA3.out, HST2.out]; simp [hcd]⟩
            clear hcd
            go_wp2
            go_roundw
            case rel => exact ⟨j + 1, hjt2.out, hjs2.out, hb32.out, HN3⟩
            case measure =>
              simp only [World.iterPos, hjt2.out, HJT.out]
              omega
        · have hnx2 : ∀ ty, (Instr.next (.pointer (some ⟨w1.heap.size, 0, none⟩)) true ty).run Tryd.prog wr = _ := fun ty => Lib.run_next_end_at wr w1.heap.size t j ty hjt hpj
          have HN3 : Aside0 (anyFrom s t (i + 1) = anyFrom s t 0) := ⟨by rw [← hA.out, HST.out, ← hA3.out, hasFrom_end c t j hpj]; simp⟩
          have HJS := Aside0.mk hjs
          clear hjt hnx hjs
          go_wp2
          go_roundw
          case rel => exact ⟨i + 1, HJS.out, hb3, HN3⟩
          case measure =>
            simp only [World.iterPos, HJS.out, HIT.out]
            omega
    · have hnx : ∀ ty, (Instr.next (.pointer (some ⟨w.heap.size, 0, none⟩)) true ty).run Tryd.prog wr = _ := fun ty => Lib.run_next_end_at wr w.heap.size s i ty hit hp
      have HN3 : Aside0 (anyFrom s t 0 = false) := ⟨by rw [← hA.out, anyFrom_end s t i hp]⟩
      clear hit
      go_wp2
      go_ret
      exact ⟨congrArg (fun b => Ending.returned (.bool b)) HN3.out.symm, hb⟩
end Go.Proofs.YtnbjneknicppcaaDoor.Fn

namespace Go.Proofs.YtnbjneknicppcaaDoor.Fn
set_option linter.unusedVariables false
set_option linter.unusedSimpArgs false
open Go.RowKit Go.Proofs.YtnbjneknicppcaaDoorW.PrintWords Go.Proofs.YtnbjneknicppcaaDoorW.PrintLast Go.Lib
theorem Prt.below {B b : Nat} {l : List UInt8} {w w' : World} (h : Prt B b l w) (hb : Below w.heap.size w w') : Prt B b l w' := by
  have key : ∀ p, Lib.BuilderAtF 54 5 B b p (Lib.byteCells l) w → Lib.BuilderAtF 54 5 B b p (Lib.byteCells l) w' := by
    rintro p ⟨hB, v, hbk, hown, hne⟩
    refine ⟨hB, v, (hb.block b (Array.getElem?_eq_some_iff.1 hbk).1).trans hbk, ⟨hown.1, ?_⟩, hne⟩
    rcases hown.2 with h0 | ⟨g, cap, cur, fz, h1, h2, h3, h4⟩
    · exact .inl h0
    · exact .inr ⟨g, cap, cur, fz, h1, h2, (hb.block g (Array.getElem?_eq_some_iff.1 h3).1).trans h3, h4⟩
  exact h.elim (fun x => .inl (key _ x)) (fun x => .inr (key _ x))
theorem Prt.lt {B b : Nat} {l : List UInt8} {w : World} (h : Prt B b l w) : b < w.heap.size := h.elim (fun x => x.lt) (fun x => x.lt)
theorem Prt.base {B b : Nat} {l : List UInt8} {w : World} (h : Prt B b l w) : B ≤ b := h.elim (fun x => x.1) (fun x => x.1)
theorem Prt.fresh (w : World) : Prt w.heap.size w.heap.size [] (w.alloc (.cells #[.pointer none, .slice none 0 0] 54)) :=
  Lib.IsBuilderF.of (Lib.fresh_isBuilder 54 5 w)
theorem PrtTo.refl {B b : Nat} {l : List UInt8} {w : World} (h : Prt B b l w) : PrtTo B b l w w := ⟨h, Below.refl _ _, Lib.OthersKept.refl _ _ _⟩
theorem PrtTo.trans {B b : Nat} {l m : List UInt8} {w w1 w2 : World} (h : PrtTo B b l w w1) (k : PrtTo B b m w1 w2) : PrtTo B b m w w2 := ⟨k.1, h.2.1.trans k.2.1, h.2.2.trans k.2.2⟩
theorem OthersKept.of_below {e : TypeId} {b : Option Nat} {w w' : World} (hb : Below w.heap.size w w') : Lib.OthersKept e b w w' := fun k _ hk _ _ => (hb.block k (Array.getElem?_eq_some_iff.1 hk).1).trans hk
theorem PrtTo.below {B b : Nat} {l : List UInt8} {w w1 w2 : World} (h : PrtTo B b l w w1) (hB : B ≤ w.heap.size) (hb : Below w1.heap.size w1 w2) : PrtTo B b l w w2 :=
  ⟨h.1.below hb, h.2.1.trans (hb.mono (Nat.le_trans hB h.2.1.size)), h.2.2.trans (OthersKept.of_below hb)⟩
theorem PrtTo.size {B b : Nat} {l : List UInt8} {w w1 : World} (h : PrtTo B b l w w1) : w.heap.size ≤ w1.heap.size := h.2.1.size
theorem PrtTo.g8 {B b : Nat} {l : List UInt8} {w w1 : World} (h : PrtTo B b l w w1) (hG : G8 w) (hR : Room8 B) : G8 w1 := hG.keep h.2.1 hR
theorem ba_append (a b : List UInt8) : (⟨a.toArray⟩ : ByteArray) ++ ⟨b.toArray⟩ = ⟨(a ++ b).toArray⟩ := by
  rw [ByteArray.ext_iff]; simp
theorem add_run (a b : List UInt8) (h : a.length + b.length ≤ 1000000) (W : World) : (Op.stringOp .add ⟨a.toArray⟩ ⟨b.toArray⟩).run Tryd.prog W = .ok (.string ⟨(a ++ b).toArray⟩) W := by
  rw [run_string_add_sum _ _ _ (by simp [ByteArray.size]; omega), ba_append]
def signsS : ByteArray := ⟨#[48, 49, 50, 51, 52, 53, 54, 55, 56, 57, 43, 45]⟩
theorem signs_ascii : AsciiS signsS := by unfold AsciiS; decide +kernel
theorem signs_has (c : UInt8) (h : inSet c.toNat = true) : signsS.data.toList.contains c = !ltrB c := by
  have k : ∀ c : Fin 256, inSet c.val = true → signsS.data.toList.contains (UInt8.ofNat c.val) = !ltrB (UInt8.ofNat c.val) := by decide +kernel
  have := k ⟨c.toNat, UInt8.toNat_lt c⟩ h
  simpa using this
theorem signs_any (l : List UInt8) (h : l.all (fun c => inSet c.toNat) = true) : anyFrom (Tx l) signsS 0 = !l.all ltrB := by
  unfold anyFrom
  rw [Tx_list, List.drop_zero]
  induction l with
  | nil => rfl
  | cons c t ih =>
    rw [List.all_cons, Bool.and_eq_true] at h
    rw [List.any_cons, List.all_cons, ih h.2, signs_has c h.1, Bool.not_and]
theorem named_ascii (l : List UInt8) (h : l.all (fun c => inSet c.toNat) = true) : AsciiS (Tx l) := by
  intro i hi
  have hm : (Tx l)[i] ∈ l := by
    have : (Tx l)[i] = l[i]'(by rw [← Tx_size]; exact hi) := rfl
    rw [this]; exact List.getElem_mem _
  have := List.all_eq_true.1 h _ hm
  generalize (Tx l)[i] = c at this
  simp [inSet] at this
  omega
set_option maxRecDepth 1000000 in
set_option maxHeartbeats 2000000 in
theorem pName_calls (B b : Nat) (l nm : List UInt8) (w : World) (h : Prt B b l w) (hn : namedL nm = true) (hl : l.length ≤ 1000) (hB : B ≤ w.heap.size) :
    Calls Tryd.prog 25 #[.pointer (some ⟨b, 0, none⟩), .string ⟨nm.toArray⟩] w fun e w' => e = .returned (.tuple #[]) ∧ PrtTo B b (l ++ prName nm) w w' := by
  unfold namedL at hn
  simp only [Bool.and_eq_true, decide_eq_true_eq] at hn
  obtain ⟨⟨hn1, hn2⟩, hn3⟩ := hn
  have HC := Aside0.mk (fun W => hasAny_calls (Tx nm) signsS (named_ascii nm hn3) signs_ascii W)
  rw [signs_any nm hn3] at HC
  have HP := Aside0.mk h
  have HB := Aside0.mk hB
  have HL := Aside0.mk (show l.length + (nm.length + 2) ≤ 100000 by omega)
  clear h hB hl hn1 hn3
  unfold signsS at HC
  unfold prName
  cases hq : nm.all ltrB
  · rw [hq] at HC
    simp only [Bool.not_false] at HC
    rw [if_neg (by decide)]
    have ha1 : ∀ W, (Op.stringOp .add ⟨#[60]⟩ ⟨nm.toArray⟩).run Tryd.prog W = .ok (.string ⟨(60 :: nm).toArray⟩) W := fun W => add_run [60] nm (by simp; omega) W
    have ha2 : ∀ W, (Op.stringOp .add ⟨(60 :: nm).toArray⟩ ⟨#[62]⟩).run Tryd.prog W = .ok (.string ⟨(60 :: (nm ++ [62])).toArray⟩) W := fun W => add_run (60 :: nm) [62] (by simp; omega) W
    clear hq
    go_enter Tryd.func25, Tryd.ntmps25
    go_wp2_with (go_at_call 42; refine (HC.out _).mono ?_)
    rintro e w1 ⟨rfl, hb1⟩
    have H1 := Aside0.mk ((PrtTo.refl HP.out).below HB.out hb1)
    clear hb1 HC
    go_wp2_with fail
    refine (pb_WriteString B b l (60 :: (nm ++ [62])) _ H1.out.1 (by have := HL.out; simp; omega) (Nat.le_trans HB.out H1.out.size)).mono ?_
    rintro e w2 ⟨rfl, h2⟩
    have H2 := Aside0.mk (H1.out.trans h2)
    clear h2 H1 ha1 ha2 hn2
    go_wp2
    go_end0
    exact ⟨rfl, H2.out⟩
  · rw [hq] at HC
    simp only [Bool.not_true] at HC
    rw [if_pos rfl]
    clear hq hn2
    go_enter Tryd.func25, Tryd.ntmps25
    go_wp2_with (go_at_call 42; refine (HC.out _).mono ?_)
    rintro e w1 ⟨rfl, hb1⟩
    have H1 := Aside0.mk ((PrtTo.refl HP.out).below HB.out hb1)
    clear hb1 HC
    go_wp2_with fail
    refine (pb_WriteString B b l nm _ H1.out.1 (by have := HL.out; omega) (Nat.le_trans HB.out H1.out.size)).mono ?_
    rintro e w2 ⟨rfl, h2⟩
    have H2 := Aside0.mk (H1.out.trans h2)
    clear h2 H1
    go_wp2
    go_end0
    exact ⟨rfl, H2.out⟩
end Go.Proofs.YtnbjneknicppcaaDoor.Fn

namespace Go.Proofs.YtnbjneknicppcaaDoor.Fn
set_option linter.unusedVariables false
set_option linter.unusedSimpArgs false
open Go.RowKit Go.Proofs.YtnbjneknicppcaaDoorW.PrintWords Go.Proofs.YtnbjneknicppcaaDoorW.PrintLast Go.Lib
structure Only (g : Nat) (w w' : World) : Prop where
  os : w'.os = w.os
  tape : w'.tape = w.tape
  output : w'.output = w.output
  size : w.heap.size ≤ w'.heap.size
  block : ∀ k, k < w.heap.size → k ≠ g → w'.heap[k]? = w.heap[k]?
theorem Only.refl (g : Nat) (w : World) : Only g w w := ⟨rfl, rfl, rfl, Nat.le_refl _, fun _ _ _ => rfl⟩
theorem Only.trans {g : Nat} {w w1 w2 : World} (h : Only g w w1) (k : Only g w1 w2) : Only g w w2 :=
  ⟨k.os.trans h.os, k.tape.trans h.tape, k.output.trans h.output, Nat.le_trans h.size k.size, fun b hb hg => (k.block b (Nat.lt_of_lt_of_le hb h.size) hg).trans (h.block b hb hg)⟩
theorem Only.of {g : Nat} {w w' : World} (h : Below w.heap.size w w') : Only g w w' := ⟨h.os, h.tape, h.output, h.size, fun b hb _ => h.block b hb⟩
theorem Only.set {g i : Nat} (w : World) (v : Value) : Only g w (w.setCell ⟨g, i, none⟩ v) := by
  have h := (Below.refl g w).setCell (p := ⟨g, i, none⟩) (Nat.le_refl _) v
  exact ⟨h.os, h.tape, h.output, h.size, fun b _ hg => Below.heap_setCell w ⟨g, i, none⟩ v b (by simpa using hg)⟩
theorem Only.below {g B : Nat} {w w' : World} (h : Only g w w') (hB : B ≤ g) (hw : B ≤ w.heap.size) : Below B w w' := ⟨h.os, h.tape, h.output, h.size, fun b hb => h.block b (by omega) (by omega)⟩
theorem Only.old {g k : Nat} {w w' : World} {o : Obj} (h : Only g w w') (hk : w.heap[k]? = some o) (hg : k ≠ g) : w'.heap[k]? = some o := (h.block k (Array.getElem?_eq_some_iff.1 hk).1 hg).trans hk
def Psr (g : Nat) (l : List UInt8) (wide : Bool) (w : World) : Prop := w.heap[g]? = some (.cells #[.string ⟨l.toArray⟩, .bool wide] 65 (0, 0))
def PsrTo (g : Nat) (l : List UInt8) (wide : Bool) (w w' : World) : Prop := Psr g l wide w' ∧ Only g w w'
theorem PsrTo.refl {g : Nat} {l : List UInt8} {wide : Bool} {w : World} (h : Psr g l wide w) : PsrTo g l wide w w := ⟨h, Only.refl _ _⟩
theorem PsrTo.trans {g : Nat} {l m : List UInt8} {wide : Bool} {w w1 w2 : World} (h : PsrTo g l wide w w1) (k : PsrTo g m wide w1 w2) : PsrTo g m wide w w2 := ⟨k.1, h.2.trans k.2⟩
theorem PsrTo.below {g : Nat} {l : List UInt8} {wide : Bool} {w w1 w2 : World} (h : PsrTo g l wide w w1) (k : Below w1.heap.size w1 w2) : PsrTo g l wide w w2 := ⟨(k.block g (Array.getElem?_eq_some_iff.1 h.1).1).trans h.1, h.2.trans (Only.of k)⟩
theorem PsrTo.set {g : Nat} {l m : List UInt8} {wide : Bool} {w w1 : World} (h : PsrTo g l wide w w1) : PsrTo g m wide w (w1.setCell ⟨g, 0, none⟩ (.string ⟨m.toArray⟩)) :=
  ⟨blk_put h.1 0 _ rfl, h.2.trans (Only.set w1 _)⟩
theorem PsrTo.g8 {g : Nat} {l : List UInt8} {wide : Bool} {w w1 : World} (h : PsrTo g l wide w w1) (hG : G8 w) (hR : Room8 g) : G8 w1 := by
  have hr := hG.room
  obtain ⟨tp, p, h2⟩ := hG.err
  have key : ∀ {n : String} {k : Nat} {cs : Array Value}, Tryd.prog.globalNamed n = some k → w.var? Tryd.prog n = some cs → k < w.heap.size → k < g → w1.var? Tryd.prog n = some cs := by
    intro n k cs hk hv h1 h2
    unfold World.var? at hv ⊢
    rw [hk] at hv ⊢
    simp only [Option.bind_some] at hv ⊢
    rw [h.2.block k h1 (by omega)]
    exact hv
  exact ⟨key g_tab hG.tab hr.1 hR.1, tp, p, key g_syn h2 hr.2 hR.2⟩
theorem Psr.c0 {g : Nat} {l : List UInt8} {wide : Bool} {w : World} (h : Psr g l wide w) : w.cell? ⟨g, 0, none⟩ = some (.string ⟨l.toArray⟩) := (blk_cell h 0).trans rfl
theorem Psr.c1 {g : Nat} {l : List UInt8} {wide : Bool} {w : World} (h : Psr g l wide w) : w.cell? ⟨g, 1, none⟩ = some (.bool wide) := (blk_cell h 1).trans rfl
theorem Psr.f0 {g : Nat} {l : List UInt8} {wide : Bool} {w : World} (h : Psr g l wide w) : w.frozen? ⟨g, 0, none⟩ = false := blk_frozen h 0
abbrev wrongE : Ending := .panicked [{ v := .iface 62 (.agg #[]), recovered := false }]
theorem must_yes (w : World) : Calls Tryd.prog 56 #[.bool true] w fun e w' => e = .returned (.tuple #[]) ∧ w = w' := by
  go_enter Tryd.func56, Tryd.ntmps56
  go_wp2
  go_end0
  exact ⟨rfl, rfl⟩
theorem run_wrong (w : World) : (Instr.panic (.iface 62 (.agg #[]))).run Tryd.prog w = .halt (.panic (.iface 62 (.agg #[]))) w := by
  simp [Instr.panic, Sem.run]
theorem must_no (w : World) : Calls Tryd.prog 56 #[.bool false] w fun e w' => e = wrongE ∧ w = w' := by
  go_enter Tryd.func56, Tryd.ntmps56
  go_wp2
  rw [run_wrong]
  simp only [Result.andThen]
  rw [Oper.upon_panic]
  exact ⟨rfl, rfl, rfl⟩
theorem ex_tail (c : UInt8) (t : List UInt8) : (⟨(c :: t).toArray⟩ : ByteArray).extract 1 (t.length + 1) = ⟨t.toArray⟩ := by
  rw [ByteArray.ext_iff]; simp
theorem hasPrefix_one (c : UInt8) (l : List UInt8) : Lib.hasPrefix l [c] = eats c l := by
  cases l with
  | nil => rfl
  | cons x t => simp [Lib.hasPrefix, eats, List.isPrefixOf, BEq.comm]
set_option maxRecDepth 100000 in
theorem cutP_calls (c : UInt8) (l : List UInt8) (w : World) :
    Calls Tryd.prog 71 #[.string ⟨l.toArray⟩, .string ⟨#[c]⟩] w fun e w' => e = .returned (.tuple #[.string ⟨(eaten c l).toArray⟩, .bool (eats c l)]) ∧ w = w' := by
  have HP : Aside0 (∀ W, Calls Tryd.prog 67 #[.string ⟨l.toArray⟩, .string ⟨#[c]⟩] W fun e w' => e = .returned (.bool (eats c l)) ∧ W = w') :=
    ⟨fun W => (Tryd.stringslite_HasPrefix ⟨l.toArray⟩ ⟨#[c]⟩ W).mono fun e w' h => ⟨by rw [h.1]; simp only [List.toList_toArray]; rw [hasPrefix_one], h.2.symm⟩⟩
  cases h : eats c l
  · rw [h] at HP
    have he : eaten c l = l := by unfold eaten; rw [if_neg (by rw [h]; decide)]
    rw [he]
    clear he h
    go_enter Tryd.func71, Tryd.ntmps71
    go_wp2_with (first | (go_at_call 67; refine (HP.out _).mono ?_; rintro e w' ⟨rfl, rfl⟩) | (go_at_call 79; go_in))
    go_ret2
    exact ⟨rfl, rfl⟩
  · rw [h] at HP
    obtain ⟨t, rfl⟩ : ∃ t, l = c :: t := by
      cases l with
      | nil => simp [eats] at h
      | cons x t => simp [eats] at h; exact ⟨t, by rw [h]⟩
    have he : eaten c (c :: t) = t := by unfold eaten; rw [if_pos h]; rfl
    rw [he]
    have hx := ex_tail c t
    clear he h
    go_enter Tryd.func71, Tryd.ntmps71
    go_wp2_with (first | (go_at_call 67; refine (HP.out _).mono ?_; rintro e w' ⟨rfl, rfl⟩) | (go_at_call 79; go_in))
    go_ret2
    exact ⟨rfl, rfl⟩
set_option maxRecDepth 100000 in
theorem is_calls (g : Nat) (c : UInt8) (l : List UInt8) (wide : Bool) (w : World) (h : Psr g l wide w) :
    Calls Tryd.prog 62 #[.pointer (some ⟨g, 0, none⟩), .string ⟨#[c]⟩] w fun e w' => e = .returned (.bool (eats c l)) ∧ PsrTo g (eaten c l) wide w w' := by
  have c0 := h.c0
  have f0 := h.f0
  have HP := Aside0.mk h
  clear h
  go_enter Tryd.func62, Tryd.ntmps62
  go_wp2_with (go_at_call 71; refine (cutP_calls c l _).mono ?_; rintro e w' ⟨rfl, rfl⟩)
  go_ret
  exact ⟨rfl, (PsrTo.refl HP.out).set⟩
end Go.Proofs.YtnbjneknicppcaaDoor.Fn

namespace Go.Proofs.YtnbjneknicppcaaDoor.Fn
set_option linter.unusedVariables false
set_option linter.unusedSimpArgs false
open Go.RowKit Go.Proofs.YtnbjneknicppcaaDoorW.PrintWords Go.Proofs.YtnbjneknicppcaaDoorW.PrintLast Go.Lib
theorem runOf_cons (p : UInt8 → Bool) (m : Nat) (x : UInt8) (t : List UInt8) : runOf p (m + 1) (x :: t) = if p x = true then x :: runOf p m t else [] := by
  unfold runOf; rw [List.take_succ_cons, List.takeWhile_cons]
theorem runOf_nil (p : UInt8 → Bool) (m : Nat) : runOf p m [] = [] := by unfold runOf; simp
theorem run_stop (p : UInt8 → Bool) : ∀ (l : List UInt8) (most : Nat) (h : (runOf p most l).length < l.length), (runOf p most l).length < most → p (l[(runOf p most l).length]'h) = false
  | [], most, h, _ => by simp at h
  | x :: t, 0, _, h2 => by simp at h2
  | x :: t, m + 1, h, h2 => by
    cases hx : p x
    · have e : runOf p (m + 1) (x :: t) = [] := by rw [runOf_cons, if_neg (by rw [hx]; decide)]
      simp only [e, List.length_nil, List.getElem_cons_zero, hx]
    · have e : runOf p (m + 1) (x :: t) = x :: runOf p m t := by rw [runOf_cons, if_pos hx]
      simp only [e, List.length_cons] at h h2 ⊢
      exact run_stop p t m (by omega) (by omega)
theorem run_go (p : UInt8 → Bool) (l : List UInt8) (most k : Nat) (h : k < (runOf p most l).length) : ∃ h : k < l.length, p (l[k]'h) = true := by
  have h2 := run_len2 p most l
  refine ⟨by omega, ?_⟩
  have h3 := run_take p most l
  have h4 : (runOf p most l)[k]'h = l[k]'(by omega) := by
    have : (l.take (runOf p most l).length)[k]'(by rw [h3]; exact h) = l[k]'(by omega) := List.getElem_take
    simp only [h3] at this
    exact this
  rw [← h4]
  exact List.all_eq_true.1 (run_all p most l) _ (List.getElem_mem _)
theorem ex_take (l : List UInt8) (k : Nat) : (⟨l.toArray⟩ : ByteArray).extract 0 k = ⟨(l.take k).toArray⟩ := by
  rw [ByteArray.ext_iff]; simp
theorem ex_drop (l : List UInt8) (k : Nat) : (⟨l.toArray⟩ : ByteArray).extract k l.length = ⟨(l.drop k).toArray⟩ := by
  rw [ByteArray.ext_iff]; simp [List.take_of_length_le]
set_option maxRecDepth 100000 in
set_option maxHeartbeats 2000000 in
theorem run_calls (S : ByteArray) (p : UInt8 → Bool) (hS : ∀ c : UInt8, decide (0 ≤ Lib.indexByte S.data.toList c) = p c) (g : Nat) (most : Nat) (l : List UInt8) (hl : l.length ≤ 100000) (hm : most ≤ 100000) (wide : Bool) (w : World) (h : Psr g l wide w) :
    Calls Tryd.prog 63 #[.pointer (some ⟨g, 0, none⟩), .string S, .int .i64 most] w fun e w' => e = .returned (.string ⟨(runOf p most l).toArray⟩) ∧ PsrTo g (runRest p most l) wide w w' := by
  have c0 := h.c0
  have f0 := h.f0
  have HP := Aside0.mk h
  have HS := Aside0.mk hS
  clear h hS
  go_enter Tryd.func63, Tryd.ntmps63
  go_wp2
  go_loop [7] (fun n => ∃ k : Nat, k ≤ (runOf p most l).length ∧ n = .int .i64 k) (fun n => (runOf p most l).length - (intOf n).toNat)
  case atStart => exact ⟨0, by omega, rfl⟩
  case round =>
    obtain ⟨k, hk, rfl⟩ := hrel
    have hr1 := run_len p most l
    have hr2 := run_len2 p most l
    by_cases hlt : k < (runOf p most l).length
    · obtain ⟨hkl, hpk⟩ := run_go p l most k hlt
      have hkm : k < most := by omega
      have HI : Aside0 (∀ W, Calls Tryd.prog 72 #[.string S, .int .u8 (l[k]).toNat] W fun e w' => ∃ n : Int, e = .returned (.int .i64 n) ∧ 0 ≤ n ∧ W = w') := ⟨fun W => (Tryd.strings_IndexByte S (l[k]).toNat W).mono fun e w' h => ⟨_, h.1, by
        have := HS.out l[k]
        rw [hpk] at this
        rw [show ((l[k]).toNat : Int).toNat.toUInt8 = l[k] by simp]
        simpa using this, h.2.symm⟩⟩
      have HR := Aside0.mk hr1
      have HR2 := Aside0.mk hr2
      have HLT := Aside0.mk hlt
      clear hpk hr1 hr2 hk hlt
      go_wp2_with fail
      refine (HI.out _).mono ?_
      rintro e w' ⟨n, rfl, hn, rfl⟩
      clear HI
      go_wp2
      go_round
      case rel => exact ⟨k + 1, by have := HLT.out; omega, by go_num⟩
      case measure => have := HLT.out; simp [intOf]; omega
    · obtain rfl : k = (runOf p most l).length := by omega
      have HK := Aside0.mk (show l.take (runOf p most l).length = runOf p most l from run_take p most l)
      have HE : ∀ (W : World), PsrTo g (runRest p most l) wide w (w.setCell ⟨g, 0, none⟩ (.string ⟨(l.drop (runOf p most l).length).toArray⟩)) := fun _ => (PsrTo.refl HP.out).set
      have HE2 := Aside0.mk (HE w)
      clear HE hlt hk
      have hst := run_stop p l most
      have HST := Aside0.mk hst
      clear hst
      generalize hR : (runOf p most l).length = k at *
      have hx1 := ex_take l k
      have hx2 := ex_drop l k
      by_cases q1 : k < l.length
      · by_cases q2 : k < most
        · have hpk := HST.out q1 q2
          have HI : Aside0 (∀ W, Calls Tryd.prog 72 #[.string S, .int .u8 (l[k]).toNat] W fun e w' => ∃ n : Int, e = .returned (.int .i64 n) ∧ n < 0 ∧ W = w') := ⟨fun W => (Tryd.strings_IndexByte S (l[k]).toNat W).mono fun e w' h => ⟨_, h.1, by
            have := HS.out l[k]
            rw [hpk] at this
            rw [show ((l[k]).toNat : Int).toNat.toUInt8 = l[k] by simp]
            simpa using this, h.2.symm⟩⟩
          clear hpk HST
          go_wp2_with fail
          refine (HI.out _).mono ?_
          rintro e w' ⟨n, rfl, hn, rfl⟩
          clear HI
          go_wp2
          go_ret
          exact ⟨by rw [HK.out]; rfl, HE2.out⟩
        · clear HST
          go_wp2
          go_ret
          exact ⟨by rw [HK.out]; rfl, HE2.out⟩
      · clear HST
        go_wp2
        go_ret
        exact ⟨by rw [HK.out]; rfl, HE2.out⟩
end Go.Proofs.YtnbjneknicppcaaDoor.Fn

namespace Go.Proofs.YtnbjneknicppcaaDoor.Fn
set_option linter.unusedVariables false
set_option linter.unusedSimpArgs false
open Go.RowKit Go.Proofs.YtnbjneknicppcaaDoorW.PrintWords Go.Proofs.YtnbjneknicppcaaDoorW.PrintLast Go.Lib
def digitsS : ByteArray := ⟨#[48, 49, 50, 51, 52, 53, 54, 55, 56, 57]⟩
theorem digits_set (c : UInt8) : decide (0 ≤ Lib.indexByte digitsS.data.toList c) = digB c := by
  have k : ∀ c : Fin 256, decide (0 ≤ Lib.indexByte digitsS.data.toList (UInt8.ofNat c.val)) = digB (UInt8.ofNat c.val) := by decide +kernel
  simpa using k ⟨c.toNat, UInt8.toNat_lt c⟩
def lettersS : ByteArray := ⟨#[97, 98, 99, 100, 101, 102, 103, 104, 105, 106, 107, 108, 109, 110, 111, 112, 113, 114, 115, 116, 117, 118, 119, 120, 121, 122, 65, 66, 67, 68, 69, 70, 71, 72, 73, 74, 75, 76, 77, 78, 79, 80, 81, 82, 83, 84, 85, 86, 87, 88, 89, 90]⟩
theorem letters_set (c : UInt8) : decide (0 ≤ Lib.indexByte lettersS.data.toList c) = ltrB c := by
  have k : ∀ c : Fin 256, decide (0 ≤ Lib.indexByte lettersS.data.toList (UInt8.ofNat c.val)) = ltrB (UInt8.ofNat c.val) := by decide +kernel
  simpa using k ⟨c.toNat, UInt8.toNat_lt c⟩
theorem runD_calls (g : Nat) (most : Nat) (l : List UInt8) (hl : l.length ≤ 100000) (hm : most ≤ 100000) (wide : Bool) (w : World) (h : Psr g l wide w) :
    Calls Tryd.prog 63 #[.pointer (some ⟨g, 0, none⟩), .string ⟨#[48, 49, 50, 51, 52, 53, 54, 55, 56, 57]⟩, .int .i64 most] w fun e w' => e = .returned (.string ⟨(runOf digB most l).toArray⟩) ∧ PsrTo g (runRest digB most l) wide w w' :=
  run_calls digitsS digB digits_set g most l hl hm wide w h
theorem runL_calls (g : Nat) (most : Nat) (l : List UInt8) (hl : l.length ≤ 100000) (hm : most ≤ 100000) (wide : Bool) (w : World) (h : Psr g l wide w) :
    Calls Tryd.prog 63 #[.pointer (some ⟨g, 0, none⟩), .string ⟨#[97, 98, 99, 100, 101, 102, 103, 104, 105, 106, 107, 108, 109, 110, 111, 112, 113, 114, 115, 116, 117, 118, 119, 120, 121, 122, 65, 66, 67, 68, 69, 70, 71, 72, 73, 74, 75, 76, 77, 78, 79, 80, 81, 82, 83, 84, 85, 86, 87, 88, 89, 90]⟩, .int .i64 most] w fun e w' => e = .returned (.string ⟨(runOf ltrB most l).toArray⟩) ∧ PsrTo g (runRest ltrB most l) wide w w' :=
  run_calls lettersS ltrB letters_set g most l hl hm wide w h
theorem atoi_yes (l : List UInt8) (hd : l.all digB = true) (hl : l.length ≤ 18) (h0 : l ≠ []) (w : World) :
    Calls Tryd.prog 74 #[.string ⟨l.toArray⟩] w fun e w' => e = .returned (.tuple #[.int .i64 (numOf l), .nilIface]) ∧ Below w.heap.size w w' := by
  refine (Tryd.strconv_Atoi ⟨l.toArray⟩ (numOf l) (by simp [ByteArray.size]; exact hl) (by simp only [List.toList_toArray]; rw [atoi_run l hd, if_neg h0]) w).mono ?_
  rintro e w' ⟨rfl, t, rfl⟩
  exact ⟨rfl, bytesWorld_below _ _ _⟩
theorem atoi_no (w : World) (hG : G8 w) :
    Calls Tryd.prog 74 #[.string ⟨#[]⟩] w fun e w' => (∃ T p, e = .returned (.tuple #[.int .i64 0, .iface T (.pointer (some p))])) ∧ Below w.heap.size w w' := by
  obtain ⟨tp, p, h2⟩ := hG.err
  refine (Tryd.strconv_Atoi_err_var ⟨#[]⟩ (by simp [ByteArray.size]) rfl tp p w h2).mono ?_
  rintro e w' ⟨n, rfl, _, _, hb⟩
  exact ⟨⟨_, _, rfl⟩, hb⟩
set_option maxRecDepth 100000 in
theorem num_no (g : Nat) (most : Nat) (l : List UInt8) (hl : l.length ≤ 1000) (hm : most ≤ 3) (wide : Bool) (w : World) (h : Psr g l wide w) (hG : G8 w) (hR : Room8 g) (ht : tkNum most l = none) :
    Calls Tryd.prog 65 #[.pointer (some ⟨g, 0, none⟩), .int .i64 most] w fun e w' => e = wrongE ∧ Only g w w' := by
  have hr : runOf digB most l = [] := by unfold tkNum at ht; split at ht; (· assumption); (· cases ht)
  have HC := Aside0.mk (runD_calls g most l (by omega) (by omega) wide w h)
  rw [hr] at HC
  have HG := Aside0.mk hG
  have HR := Aside0.mk hR
  clear ht hr hG hR
  go_enter Tryd.func65, Tryd.ntmps65
  go_wp2_with fail
  refine HC.out.mono ?_
  rintro e w1 ⟨rfl, h1⟩
  have H1 := Aside0.mk h1
  clear h1 HC
  go_wp2_with (go_at_call 74; refine (atoi_no _ (H1.out.g8 HG.out HR.out)).mono ?_)
  rintro e w2 ⟨⟨T, p, rfl⟩, hb2⟩
  have H2 := Aside0.mk (H1.out.below hb2)
  clear hb2 H1
  go_wp2_with fail
  refine (must_no _).mono ?_
  rintro e w3 ⟨rfl, rfl⟩
  exact ⟨rfl, rfl, H2.out.2⟩
set_option maxRecDepth 100000 in
theorem num_yes (g : Nat) (most : Nat) (l : List UInt8) (hl : l.length ≤ 1000) (hm : most ≤ 3) (wide : Bool) (w : World) (h : Psr g l wide w) (n : Int) (rest : List UInt8) (ht : tkNum most l = some (n, rest)) :
    Calls Tryd.prog 65 #[.pointer (some ⟨g, 0, none⟩), .int .i64 most] w fun e w' => e = .returned (.int .i64 n) ∧ PsrTo g rest wide w w' := by
  have hr : runOf digB most l ≠ [] ∧ numOf (runOf digB most l) = n ∧ runRest digB most l = rest := by
    unfold tkNum at ht
    split at ht
    · cases ht
    · simp only [Option.some.injEq, Prod.mk.injEq] at ht; exact ⟨by assumption, ht⟩
  obtain ⟨h0, rfl, rfl⟩ := hr
  have HC := Aside0.mk (runD_calls g most l (by omega) (by omega) wide w h)
  have HA := Aside0.mk (fun W => atoi_yes (runOf digB most l) (run_all _ _ _) (by have := run_len digB most l; omega) h0 W)
  clear ht h0
  go_enter Tryd.func65, Tryd.ntmps65
  go_wp2_with fail
  refine HC.out.mono ?_
  rintro e w1 ⟨rfl, h1⟩
  have H1 := Aside0.mk h1
  clear h1 HC
  go_wp2_with fail
  refine (HA.out _).mono ?_
  rintro e w2 ⟨rfl, hb2⟩
  have H2 := Aside0.mk (H1.out.below hb2)
  clear hb2 H1 HA
  go_wp2_with (go_at_call 56; refine (must_yes _).mono ?_; rintro e w3 ⟨rfl, rfl⟩)
  go_ret
  exact ⟨rfl, H2.out⟩
set_option maxRecDepth 100000 in
theorem sixty_yes (g : Nat) (l : List UInt8) (hl : l.length ≤ 1000) (wide : Bool) (w : World) (h : Psr g l wide w) (n : Int) (b : Bool) (rest : List UInt8) (ht : tkSixty l = some (n, b, rest)) :
    Calls Tryd.prog 66 #[.pointer (some ⟨g, 0, none⟩)] w fun e w' => e = .returned (.tuple #[.int .i64 n, .bool b]) ∧ PsrTo g rest wide w w' := by
  have HI := Aside0.mk (is_calls g 58 l wide w h)
  unfold tkSixty at ht
  cases he : eats 58 l
  · rw [he, if_neg (by decide)] at ht
    simp only [Option.some.injEq, Prod.mk.injEq] at ht
    obtain ⟨rfl, rfl, rfl⟩ := ht
    rw [show eaten 58 l = l by unfold eaten; rw [if_neg (by rw [he]; decide)], he] at HI
    clear he
    go_enter Tryd.func66, Tryd.ntmps66
    go_wp2_with fail
    refine HI.out.mono ?_
    rintro e w1 ⟨rfl, h1⟩
    have H1 := Aside0.mk h1
    clear h1 HI
    go_wp2
    go_ret2
    exact ⟨rfl, H1.out⟩
  · rw [he, if_pos rfl] at ht
    have hlen : (runOf digB 2 l.tail).length = 2 := by split at ht; (· assumption); (· cases ht)
    rw [if_pos hlen] at ht
    have h60 : numOf (runOf digB 2 l.tail) < 60 := by split at ht; (· assumption); (· cases ht)
    rw [if_pos h60] at ht
    simp only [Option.some.injEq, Prod.mk.injEq] at ht
    obtain ⟨rfl, rfl, rfl⟩ := ht
    rw [show eaten 58 l = l.tail by unfold eaten; rw [if_pos he], he] at HI
    have HA := Aside0.mk (fun W => atoi_yes (runOf digB 2 l.tail) (run_all _ _ _) (by omega) (by intro h; rw [h] at hlen; cases hlen) W)
    have HLT := Aside0.mk (show l.tail.length ≤ 1000 by simp; omega)
    have HD : decide (((runOf digB 2 l.tail).length : Int) = 2) = true := by simp [hlen]
    clear he
    go_enter Tryd.func66, Tryd.ntmps66
    go_wp2_with fail
    refine HI.out.mono ?_
    rintro e w1 ⟨rfl, h1⟩
    have H1 := Aside0.mk h1
    clear h1 HI
    go_wp2_with fail
    refine (runD_calls g 2 l.tail (by have := HLT.out; omega) (by omega) wide _ H1.out.1).mono ?_
    rintro e w2 ⟨rfl, h2⟩
    have H2 := Aside0.mk (H1.out.trans h2)
    clear h2 H1
    go_wp2_with (first | (go_at_call 56; refine (must_yes _).mono ?_; rintro e w3 ⟨rfl, rfl⟩))
    refine (HA.out _).mono ?_
    rintro e w3 ⟨rfl, hb3⟩
    have H3 := Aside0.mk (H2.out.below hb3)
    clear hb3 H2 HA
    go_wp2_with (first | (go_at_call 56; refine (must_yes _).mono ?_; rintro e w3 ⟨rfl, rfl⟩))
    go_ret2
    exact ⟨rfl, H3.out⟩
set_option maxRecDepth 100000 in
theorem sixty_no (g : Nat) (l : List UInt8) (hl : l.length ≤ 1000) (wide : Bool) (w : World) (h : Psr g l wide w) (ht : tkSixty l = none) :
    Calls Tryd.prog 66 #[.pointer (some ⟨g, 0, none⟩)] w fun e w' => e = wrongE ∧ Only g w w' := by
  have HI := Aside0.mk (is_calls g 58 l wide w h)
  unfold tkSixty at ht
  cases he : eats 58 l
  · rw [he, if_neg (by decide)] at ht
    cases ht
  · rw [he, if_pos rfl] at ht
    rw [show eaten 58 l = l.tail by unfold eaten; rw [if_pos he], he] at HI
    have HLT := Aside0.mk (show l.tail.length ≤ 1000 by simp; omega)
    by_cases hlen : (runOf digB 2 l.tail).length = 2
    · rw [if_pos hlen] at ht
      have h60 : decide (numOf (runOf digB 2 l.tail) < 60) = false := by rw [decide_eq_false_iff_not]; intro h; rw [if_pos h] at ht; cases ht
      have HA := Aside0.mk (fun W => atoi_yes (runOf digB 2 l.tail) (run_all _ _ _) (by omega) (by intro h; rw [h] at hlen; cases hlen) W)
      clear he ht
      go_enter Tryd.func66, Tryd.ntmps66
      go_wp2_with fail
      refine HI.out.mono ?_
      rintro e w1 ⟨rfl, h1⟩
      have H1 := Aside0.mk h1
      clear h1 HI
      go_wp2_with fail
      refine (runD_calls g 2 l.tail (by have := HLT.out; omega) (by omega) wide _ H1.out.1).mono ?_
      rintro e w2 ⟨rfl, h2⟩
      have H2 := Aside0.mk (H1.out.trans h2)
      clear h2 H1
      go_wp2_with (first | (go_at_call 56; refine (must_yes _).mono ?_; rintro e w3 ⟨rfl, rfl⟩))
      refine (HA.out _).mono ?_
      rintro e w3 ⟨rfl, hb3⟩
      have H3 := Aside0.mk (H2.out.below hb3)
      clear hb3 H2 HA
      go_wp2_with fail
      refine (must_no _).mono ?_
      rintro e w3 ⟨rfl, rfl⟩
      exact ⟨rfl, rfl, H3.out.2⟩
    · clear he ht
      go_enter Tryd.func66, Tryd.ntmps66
      go_wp2_with fail
      refine HI.out.mono ?_
      rintro e w1 ⟨rfl, h1⟩
      have H1 := Aside0.mk h1
      clear h1 HI
      go_wp2_with fail
      refine (runD_calls g 2 l.tail (by have := HLT.out; omega) (by omega) wide _ H1.out.1).mono ?_
      rintro e w2 ⟨rfl, h2⟩
      have H2 := Aside0.mk (H1.out.trans h2)
      have hq : (((runOf digB 2 l.tail).length : Int) == 2) = false := by simp; omega
      clear h2 H1 hlen
      go_wp2_with fail
      refine (must_no _).mono ?_
      rintro e w3 ⟨rfl, rfl⟩
      exact ⟨rfl, rfl, H2.out.2⟩
theorem idx_eq (c : UInt8) : ∀ l : List UInt8, Lib.indexByte l c = if (l.takeWhile fun x => !(x == c)).length < l.length then (((l.takeWhile fun x => !(x == c)).length : Nat) : Int) else -1
  | [] => rfl
  | b :: l => by
    unfold Lib.indexByte
    rw [idx_eq c l, List.takeWhile_cons]
    cases hb : b == c
    · simp only [Bool.not_false, if_true, List.length_cons]
      by_cases h : (l.takeWhile fun x => !(x == c)).length < l.length
      · rw [if_neg (by decide), if_pos h, if_neg (by rw [beq_iff_eq]; omega), if_pos (by omega)]
        first | done | omega | simp
      · rw [if_neg (by decide), if_neg h, if_pos (by simp), if_neg (by omega)]
    · simp
set_option maxRecDepth 100000 in
set_option maxHeartbeats 1000000 in
/-- strings.Cut at one byte that stands there. -/
theorem cut_yes (l : List UInt8) (hl : l.length ≤ 1000) (k : Nat) (hk : k = (l.takeWhile fun x => !isEnd x).length) (hlt : k < l.length) (w : World) :
    Calls Tryd.prog 64 #[.string ⟨l.toArray⟩, .string ⟨#[62]⟩] w fun e w' => e = .returned (.tuple #[.string ⟨(l.takeWhile fun x => !isEnd x).toArray⟩, .string ⟨(l.drop (k + 1)).toArray⟩, .bool true]) ∧ Below w.heap.size w w' := by
  have HI : Aside0 (∀ W, Calls Tryd.prog 81 #[.string ⟨l.toArray⟩, .string ⟨#[62]⟩] W fun e w' => e = .returned (.int .i64 (k : Int)) ∧ W = w') :=
    ⟨fun W => (Tryd.stringslite_Index_one ⟨l.toArray⟩ 62 W).mono fun e w' h => ⟨by
      rw [h.1]; simp only [List.toList_toArray]; rw [idx_eq]
      have hd : (fun x : UInt8 => !(x == 62)) = fun x => !isEnd x := rfl
      rw [hd, ← hk, if_pos hlt], h.2.symm⟩⟩
  have ht : l.take k = l.takeWhile fun x => !isEnd x := by
    rw [hk]; exact (List.prefix_iff_eq_take.1 (List.takeWhile_prefix _)).symm
  have hx1 := ex_take l k
  rw [ht] at hx1
  have hx2 := ex_drop l (k + 1)
  have hx3 : (((k : Nat) : Int) + 1).toNat = k + 1 := by omega
  have hx4 : (0 : Int) ≤ (k : Int) + 1 := by omega
  have hx5 : IntKind.i64.wrap ((k : Int) + 1) = (k : Int) + 1 := IntWalk.i64_in _ (by omega)
  clear ht hk
  go_enter Tryd.func64, Tryd.ntmps64
  go_wp2_with (first | (go_at_call 81; refine (HI.out _).mono ?_; rintro e w' ⟨rfl, rfl⟩) | (go_at_call 73; go_in))
  go_region
  all_goals
    go_wp2_with fail
    go_ret3
    go_wp2_with fail
    go_ret3
    exact ⟨rfl, Below.drew (Below.refl _ _)⟩
set_option maxRecDepth 100000 in
set_option maxHeartbeats 1000000 in
/-- strings.Cut at one byte that does not stand there. -/
theorem cut_no (l : List UInt8) (hlt : ¬ (l.takeWhile fun x => !isEnd x).length < l.length) (w : World) :
    Calls Tryd.prog 64 #[.string ⟨l.toArray⟩, .string ⟨#[62]⟩] w fun e w' => e = .returned (.tuple #[.string ⟨l.toArray⟩, .string ⟨#[]⟩, .bool false]) ∧ w = w' := by
  have HI : Aside0 (∀ W, Calls Tryd.prog 81 #[.string ⟨l.toArray⟩, .string ⟨#[62]⟩] W fun e w' => e = .returned (.int .i64 (-1)) ∧ W = w') :=
    ⟨fun W => (Tryd.stringslite_Index_one ⟨l.toArray⟩ 62 W).mono fun e w' h => ⟨by
      rw [h.1]; simp only [List.toList_toArray]; rw [idx_eq]
      have hd : (fun x : UInt8 => !(x == 62)) = fun x => !isEnd x := rfl
      rw [hd, if_neg hlt], h.2.symm⟩⟩
  clear hlt
  go_enter Tryd.func64, Tryd.ntmps64
  go_wp2_with (first | (go_at_call 81; refine (HI.out _).mono ?_; rintro e w' ⟨rfl, rfl⟩) | (go_at_call 73; go_in))
  go_ret3
  go_wp2_with fail
  go_ret3
  exact ⟨rfl, rfl⟩
end Go.Proofs.YtnbjneknicppcaaDoor.Fn

namespace Go.Proofs.YtnbjneknicppcaaDoor.Fn
set_option linter.unusedVariables false
set_option linter.unusedSimpArgs false
open Go.RowKit Go.Proofs.YtnbjneknicppcaaDoorW.PrintWords Go.Proofs.YtnbjneknicppcaaDoorW.PrintLast Go.Lib
theorem named_calls (l : List UInt8) (w : World) : Calls Tryd.prog 29 #[.string ⟨l.toArray⟩] w fun e w' => e = .returned (.bool (namedL l)) ∧ Below w.heap.size w w' := by
  refine (posix_named.calls ⟨l.toArray⟩ (namedL l) w ?_)
  unfold posix_named.f
  rw [namedL_eq, Tx_list]
theorem run_len_all (p : UInt8 → Bool) (l : List UInt8) : runOf p l.length l = l.takeWhile p := by unfold runOf; rw [List.take_length]
set_option maxRecDepth 100000 in
set_option maxHeartbeats 2000000 in
theorem name_yes (g : Nat) (l : List UInt8) (hl : l.length ≤ 1000) (wide : Bool) (w : World) (h : Psr g l wide w) (nm rest : List UInt8) (ht : tkName l = some (nm, rest)) :
    Calls Tryd.prog 52 #[.pointer (some ⟨g, 0, none⟩)] w fun e w' => e = .returned (.string ⟨nm.toArray⟩) ∧ PsrTo g rest wide w w' := by
  have HI := Aside0.mk (is_calls g 60 l wide w h)
  unfold tkName at ht
  cases he : eats 60 l
  · rw [he, if_neg (by decide)] at ht
    have hn : namedL (l.takeWhile ltrB) = true := by split at ht; (· assumption); (· cases ht)
    rw [if_pos hn] at ht
    simp only [Option.some.injEq, Prod.mk.injEq] at ht
    obtain ⟨rfl, rfl⟩ := ht
    rw [show eaten 60 l = l by unfold eaten; rw [if_neg (by rw [he]; decide)], he] at HI
    have HN := Aside0.mk (fun W => named_calls (l.takeWhile ltrB) W)
    rw [hn] at HN
    have HR : Aside0 (∀ W, Psr g l wide W → Calls Tryd.prog 63 #[.pointer (some ⟨g, 0, none⟩), .string ⟨#[97, 98, 99, 100, 101, 102, 103, 104, 105, 106, 107, 108, 109, 110, 111, 112, 113, 114, 115, 116, 117, 118, 119, 120, 121, 122, 65, 66, 67, 68, 69, 70, 71, 72, 73, 74, 75, 76, 77, 78, 79, 80, 81, 82, 83, 84, 85, 86, 87, 88, 89, 90]⟩, .int .i64 l.length] W fun e w' => e = .returned (.string ⟨(l.takeWhile ltrB).toArray⟩) ∧ PsrTo g (l.drop (l.takeWhile ltrB).length) wide W w') := ⟨fun W hW => by
      have := runL_calls g l.length l (by omega) (by omega) wide W hW
      unfold runRest at this
      rwa [run_len_all] at this⟩
    clear he hn
    go_enter Tryd.func52, Tryd.ntmps52
    go_wp2_with fail
    refine HI.out.mono ?_
    rintro e w1 ⟨rfl, h1⟩
    have H1 := Aside0.mk h1
    have c0 := h1.1.c0
    clear h1 HI
    go_wp2_with fail
    refine (HR.out _ H1.out.1).mono ?_
    rintro e w2 ⟨rfl, h2⟩
    have H2 := Aside0.mk (H1.out.trans h2)
    clear h2 H1 HR c0
    go_wp2_with fail
    refine (HN.out _).mono ?_
    rintro e w3 ⟨rfl, hb3⟩
    have H3 := Aside0.mk (H2.out.below hb3)
    clear hb3 H2 HN
    go_wp2_with (first | (go_at_call 56; refine (must_yes _).mono ?_; rintro e w3 ⟨rfl, rfl⟩))
    go_ret
    exact ⟨rfl, H3.out⟩
  · rw [he, if_pos rfl] at ht
    have hlt : (l.tail.takeWhile fun c => !isEnd c).length < l.tail.length := by split at ht; (· assumption); (· cases ht)
    rw [if_pos hlt] at ht
    have hn : namedL (l.tail.takeWhile fun c => !isEnd c) = true := by split at ht; (· assumption); (· cases ht)
    rw [if_pos hn] at ht
    simp only [Option.some.injEq, Prod.mk.injEq] at ht
    obtain ⟨rfl, rfl⟩ := ht
    rw [show eaten 60 l = l.tail by unfold eaten; rw [if_pos he], he] at HI
    have HN := Aside0.mk (fun W => named_calls (l.tail.takeWhile fun c => !isEnd c) W)
    rw [hn] at HN
    have HC := Aside0.mk (fun W => cut_yes l.tail (by simp; omega) _ rfl hlt W)
    clear he hn hlt
    generalize (l.tail.takeWhile fun c => !isEnd c) = nm at *
    generalize l.tail = t at *
    go_enter Tryd.func52, Tryd.ntmps52
    go_wp2_with fail
    refine HI.out.mono ?_
    rintro e w1 ⟨rfl, h1⟩
    have H1 := Aside0.mk h1
    have c0 := h1.1.c0
    clear h1 HI
    go_wp2_with fail
    refine (HC.out _).mono ?_
    rintro e w2 ⟨rfl, hb2⟩
    have H2 := Aside0.mk (H1.out.below hb2)
    clear hb2 H1 HC c0
    go_wp2_with fail
    refine (HN.out _).mono ?_
    rintro e w3 ⟨rfl, hb3⟩
    have H3 := Aside0.mk (H2.out.below hb3)
    have c0 := H3.out.1.c0
    have f0 := H3.out.1.f0
    clear hb3 H2 HN
    go_wp2_with (first | (go_at_call 56; refine (must_yes _).mono ?_; rintro e w3 ⟨rfl, rfl⟩))
    go_ret
    exact ⟨rfl, H3.out.set⟩
set_option maxRecDepth 100000 in
set_option maxHeartbeats 2000000 in
theorem name_no (g : Nat) (l : List UInt8) (hl : l.length ≤ 1000) (wide : Bool) (w : World) (h : Psr g l wide w) (ht : tkName l = none) :
    Calls Tryd.prog 52 #[.pointer (some ⟨g, 0, none⟩)] w fun e w' => e = wrongE ∧ Only g w w' := by
  have HI := Aside0.mk (is_calls g 60 l wide w h)
  unfold tkName at ht
  cases he : eats 60 l
  · rw [he, if_neg (by decide)] at ht
    have hn : namedL (l.takeWhile ltrB) = false := by
      cases hq : namedL (l.takeWhile ltrB)
      · rfl
      · rw [if_pos hq] at ht; cases ht
    rw [show eaten 60 l = l by unfold eaten; rw [if_neg (by rw [he]; decide)], he] at HI
    have HN := Aside0.mk (fun W => named_calls (l.takeWhile ltrB) W)
    rw [hn] at HN
    have HR : Aside0 (∀ W, Psr g l wide W → Calls Tryd.prog 63 #[.pointer (some ⟨g, 0, none⟩), .string ⟨#[97, 98, 99, 100, 101, 102, 103, 104, 105, 106, 107, 108, 109, 110, 111, 112, 113, 114, 115, 116, 117, 118, 119, 120, 121, 122, 65, 66, 67, 68, 69, 70, 71, 72, 73, 74, 75, 76, 77, 78, 79, 80, 81, 82, 83, 84, 85, 86, 87, 88, 89, 90]⟩, .int .i64 l.length] W fun e w' => e = .returned (.string ⟨(l.takeWhile ltrB).toArray⟩) ∧ PsrTo g (l.drop (l.takeWhile ltrB).length) wide W w') := ⟨fun W hW => by
      have := runL_calls g l.length l (by omega) (by omega) wide W hW
      unfold runRest at this
      rwa [run_len_all] at this⟩
    clear he hn ht
    go_enter Tryd.func52, Tryd.ntmps52
    go_wp2_with fail
    refine HI.out.mono ?_
    rintro e w1 ⟨rfl, h1⟩
    have H1 := Aside0.mk h1
    have c0 := h1.1.c0
    clear h1 HI
    go_wp2_with fail
    refine (HR.out _ H1.out.1).mono ?_
    rintro e w2 ⟨rfl, h2⟩
    have H2 := Aside0.mk (H1.out.trans h2)
    clear h2 H1 HR c0
    go_wp2_with fail
    refine (HN.out _).mono ?_
    rintro e w3 ⟨rfl, hb3⟩
    have H3 := Aside0.mk (H2.out.below hb3)
    clear hb3 H2 HN
    go_wp2_with fail
    refine (must_no _).mono ?_
    rintro e w3 ⟨rfl, rfl⟩
    exact ⟨rfl, rfl, H3.out.2⟩
  · rw [he, if_pos rfl] at ht
    rw [show eaten 60 l = l.tail by unfold eaten; rw [if_pos he], he] at HI
    by_cases hlt : (l.tail.takeWhile fun c => !isEnd c).length < l.tail.length
    · rw [if_pos hlt] at ht
      have hn : namedL (l.tail.takeWhile fun c => !isEnd c) = false := by
        cases hq : namedL (l.tail.takeWhile fun c => !isEnd c)
        · rfl
        · rw [if_pos hq] at ht; cases ht
      have HN := Aside0.mk (fun W => named_calls (l.tail.takeWhile fun c => !isEnd c) W)
      rw [hn] at HN
      have HC := Aside0.mk (fun W => cut_yes l.tail (by simp; omega) _ rfl hlt W)
      clear he hn hlt ht
      generalize (l.tail.takeWhile fun c => !isEnd c) = nm at *
      go_enter Tryd.func52, Tryd.ntmps52
      go_wp2_with fail
      refine HI.out.mono ?_
      rintro e w1 ⟨rfl, h1⟩
      have H1 := Aside0.mk h1
      have c0 := h1.1.c0
      clear h1 HI
      go_wp2_with fail
      refine (HC.out _).mono ?_
      rintro e w2 ⟨rfl, hb2⟩
      have H2 := Aside0.mk (H1.out.below hb2)
      clear hb2 H1 HC c0
      go_wp2_with fail
      refine (HN.out _).mono ?_
      rintro e w3 ⟨rfl, hb3⟩
      have H3 := Aside0.mk (H2.out.below hb3)
      clear hb3 H2 HN
      go_wp2_with fail
      refine (must_no _).mono ?_
      rintro e w3 ⟨rfl, rfl⟩
      exact ⟨rfl, rfl, H3.out.2⟩
    · have HC := Aside0.mk (fun W => cut_no l.tail hlt W)
      clear he hlt ht
      go_enter Tryd.func52, Tryd.ntmps52
      go_wp2_with fail
      refine HI.out.mono ?_
      rintro e w1 ⟨rfl, h1⟩
      have H1 := Aside0.mk h1
      have c0 := h1.1.c0
      clear h1 HI
      go_wp2_with fail
      refine (HC.out _).mono ?_
      rintro e w2 ⟨rfl, rfl⟩
      clear HC c0
      go_wp2_with fail
      refine (must_no _).mono ?_
      rintro e w3 ⟨rfl, rfl⟩
      exact ⟨rfl, rfl, H1.out.2⟩
end Go.Proofs.YtnbjneknicppcaaDoor.Fn

namespace Go.Proofs.YtnbjneknicppcaaDoor.Fn
set_option linter.unusedVariables false
set_option linter.unusedSimpArgs false
open Go.RowKit Go.Proofs.YtnbjneknicppcaaDoorW.PrintWords Go.Proofs.YtnbjneknicppcaaDoorW.PrintLast Go.Lib
theorem numOf_nonneg (l : List UInt8) : 0 ≤ numOf l := by unfold numOf; omega
theorem tkNum_nonneg {most : Nat} {l rest : List UInt8} {n : Int} (h : tkNum most l = some (n, rest)) : 0 ≤ n := by
  unfold tkNum at h; split at h
  · cases h
  · simp only [Option.some.injEq, Prod.mk.injEq] at h; rw [← h.1]; exact numOf_nonneg _
theorem tkNum_len {most : Nat} {l rest : List UInt8} {n : Int} (h : tkNum most l = some (n, rest)) : rest.length ≤ l.length := by
  unfold tkNum at h; split at h
  · cases h
  · simp only [Option.some.injEq, Prod.mk.injEq] at h; rw [← h.2]; unfold runRest; simp
theorem tkSixty_ok {l rest : List UInt8} {n : Int} {b : Bool} (h : tkSixty l = some (n, b, rest)) : 0 ≤ n ∧ n < 60 ∧ rest.length ≤ l.length ∧ (b = false → n = 0 ∧ rest = l) := by
  unfold tkSixty at h
  split at h
  · split at h
    · split at h
      · simp only [Option.some.injEq, Prod.mk.injEq] at h
        obtain ⟨rfl, rfl, rfl⟩ := h
        exact ⟨numOf_nonneg _, by assumption, by unfold runRest; rw [List.length_drop, List.length_tail]; omega, fun h => by cases h⟩
      · cases h
    · cases h
  · simp only [Option.some.injEq, Prod.mk.injEq] at h
    obtain ⟨rfl, rfl, rfl⟩ := h
    exact ⟨by omega, by omega, Nat.le_refl _, fun _ => ⟨rfl, rfl⟩⟩
theorem signRest_len (s : Bool) (l : List UInt8) : (signRest s l).length ≤ l.length := by unfold signRest; split <;> (try split) <;> (try split) <;> simp <;> omega
def SignCut (g : Nat) (s : Bool) (l : List UInt8) (wide : Bool) (w : World) (v : Value) (wx : World) : Prop := v = .int .i64 (signOf s l) ∧ PsrTo g (signRest s l) wide w wx
theorem signOf_1 (s : Bool) (l : List UInt8) : -1 ≤ signOf s l ∧ signOf s l ≤ 1 := by unfold signOf; split <;> (try split) <;> omega
theorem wrap_sign (sg x : Int) (h1 : -1 ≤ sg) (h2 : sg ≤ 1) (hx : -1000000000 ≤ x ∧ x ≤ 1000000000) : wrap64 (sg * x) = sg * x := by
  rcases (show sg = -1 ∨ sg = 0 ∨ sg = 1 by omega) with rfl | rfl | rfl
  · unfold wrap64; omega
  · unfold wrap64; omega
  · unfold wrap64; omega
def WideCut (mw : Nat) (hw : Int) (v8 v9 : Value) (w1 wx : World) : Prop := v8 = .int .i64 (mw : Int) ∧ v9 = .int .i64 hw ∧ w1 = wx
set_option maxRecDepth 100000 in
set_option maxHeartbeats 2000000 in
theorem time_yes (g : Nat) (s wd : Bool) (l : List UInt8) (hl : l.length ≤ 1000) (wide : Bool) (w : World) (h : Psr g l wide w) (n : Int) (rest : List UInt8) (ht : tkTime s wd l = some (n, rest)) :
    Calls Tryd.prog 53 #[.pointer (some ⟨g, 0, none⟩), .bool s, .bool wd] w fun e w' => e = .returned (.int .i64 n) ∧ PsrTo g rest wide w w' := by
  have HP := Aside0.mk h
  unfold tkTime at ht
  rw [Option.bind_eq_some_iff] at ht
  obtain ⟨⟨hh, l2⟩, e1, ht⟩ := ht
  have hh0 := tkNum_nonneg e1
  have hl2 := tkNum_len e1
  have hsr := signRest_len s l
  simp only at ht
  obtain ⟨mw, hmw⟩ : ∃ mw : Nat, (if wd = true then 3 else 2) = mw := ⟨_, rfl⟩
  obtain ⟨hw, hhw⟩ : ∃ hw : Int, (if wd = true then 167 else 24) = hw := ⟨_, rfl⟩
  rw [hmw] at e1
  rw [hhw] at ht
  have hmw3 : mw ≤ 3 := by rw [← hmw]; split <;> omega
  have hhw2 : hw ≤ 167 := by rw [← hhw]; split <;> omega
  have HMW := Aside0.mk hmw
  have HHW := Aside0.mk hhw
  clear hmw hhw
  have hle : hh ≤ hw := by
    by_cases q : hh ≤ hw
    · exact q
    · rw [if_neg q] at ht; cases ht
  rw [if_pos hle, Option.bind_eq_some_iff] at ht
  obtain ⟨⟨m, b, l3⟩, e2, ht⟩ := ht
  have ok2 := tkSixty_ok e2
  have hs1 := signOf_1 s l
  have HN : Aside0 (∀ W, Psr g (signRest s l) wide W → Calls Tryd.prog 65 #[.pointer (some ⟨g, 0, none⟩), .int .i64 (mw : Int)] W fun e w' => e = .returned (.int .i64 hh) ∧ PsrTo g l2 wide W w') :=
    ⟨fun W hW => num_yes g mw (signRest s l) (by omega) hmw3 wide W hW hh l2 e1⟩
  have HX : Aside0 (∀ W, Psr g l2 wide W → Calls Tryd.prog 66 #[.pointer (some ⟨g, 0, none⟩)] W fun e w' => e = .returned (.tuple #[.int .i64 m, .bool b]) ∧ PsrTo g l3 wide W w') :=
    ⟨fun W hW => sixty_yes g l2 (by omega) wide W hW m b l3 e2⟩
  have HI1 := Aside0.mk (fun W hW => is_calls g 45 l wide W hW)
  have HI2 := Aside0.mk (fun W hW => is_calls g 43 l wide W hW)
  obtain ⟨m0, m60, hl3, -⟩ := ok2
  have hle2 : hh ≤ 167 := by omega
  have hl3' : l3.length ≤ 1000 := by omega
  clear e1 e2 h hsr hl hl2 hl3 hmw3 hhw2
  obtain ⟨sg, hsg⟩ : ∃ z, z = signOf s l := ⟨_, rfl⟩
  have HSG := Aside0.mk hsg
  rw [← hsg] at hs1 ht
  obtain ⟨hs1, hs2⟩ := hs1
  clear hsg
  go_enter Tryd.func53, Tryd.ntmps53
  go_upto_block 0 with (fail)
  go_cut [7] (fun v7 wx => SignCut g s l wide w v7 wx)
  case first =>
    cases s
    · have hs0 : signOf false l = 1 := rfl
      have hr0 : signRest false l = l := rfl
      go_wp2_with fail
      go_meet
      case rel => exact ⟨rfl, PsrTo.refl HP.out⟩
    · cases he : eats 45 l
      · have e1 : eaten 45 l = l := by unfold eaten; rw [if_neg (by rw [he]; decide)]
        cases he2 : eats 43 l
        · have e2 : eaten 43 l = l := by unfold eaten; rw [if_neg (by rw [he2]; decide)]
          have HS := Aside0.mk (show signOf true l = 1 ∧ signRest true l = l by unfold signOf signRest; rw [he, he2]; simp)
          rw [he, e1] at HI1
          rw [he2, e2] at HI2
          clear he e1 he2 e2
          go_wp2_with fail
          refine (HI1.out _ HP.out).mono ?_
          rintro e wa ⟨rfl, ha⟩
          have HA := Aside0.mk ha
          clear ha
          go_wp2_with fail
          refine (HI2.out _ HA.out.1).mono ?_
          rintro e wb ⟨rfl, hb⟩
          have HB := Aside0.mk (HA.out.trans hb)
          clear hb
          go_wp2_with fail
          go_meet
          case rel => exact ⟨by rw [HS.out.1], by rw [HS.out.2]; exact HB.out⟩
        · have e2 : eaten 43 l = l.tail := by unfold eaten; rw [if_pos he2]
          have HS := Aside0.mk (show signOf true l = 1 ∧ signRest true l = l.tail by unfold signOf signRest; rw [he, he2]; simp)
          rw [he, e1] at HI1
          rw [he2, e2] at HI2
          clear he e1 he2 e2
          go_wp2_with fail
          refine (HI1.out _ HP.out).mono ?_
          rintro e wa ⟨rfl, ha⟩
          have HA := Aside0.mk ha
          clear ha
          go_wp2_with fail
          refine (HI2.out _ HA.out.1).mono ?_
          rintro e wb ⟨rfl, hb⟩
          have HB := Aside0.mk (HA.out.trans hb)
          clear hb
          go_wp2_with fail
          go_meet
          case rel => exact ⟨by rw [HS.out.1], by rw [HS.out.2]; exact HB.out⟩
      · have e1 : eaten 45 l = l.tail := by unfold eaten; rw [if_pos he]
        have HS := Aside0.mk (show signOf true l = -1 ∧ signRest true l = l.tail by unfold signOf signRest; rw [he]; simp)
        rw [he, e1] at HI1
        clear he e1
        go_wp2_with fail
        refine (HI1.out _ HP.out).mono ?_
        rintro e wa ⟨rfl, ha⟩
        have HA := Aside0.mk ha
        clear ha
        go_wp2_with fail
        go_meet
        case rel => exact ⟨by rw [HS.out.1], by rw [HS.out.2]; exact HA.out⟩
  case rest =>
  obtain ⟨rfl, hc⟩ := hcut
  have H1 := Aside0.mk hc
  rw [← HSG.out]
  clear hc
  go_upto_if 25 with (fail)
  go_cut [8, 9] (fun v8 v9 wx => WideCut mw hw v8 v9 wc wx)
  case first =>
    cases wd
    · go_wp2_with fail
      go_meet
      case rel => exact ⟨by rw [← HMW.out]; rfl, by rw [← HHW.out]; rfl, rfl⟩
    · go_wp2_with fail
      go_meet
      case rel => exact ⟨by rw [← HMW.out]; rfl, by rw [← HHW.out]; rfl, rfl⟩
  case rest =>
  obtain ⟨rfl, rfl, rfl⟩ := hcut
  have H2 := H1
  clear H1 HP HI1 HI2
  go_wp2_with fail
  refine (HN.out _ H2.out.1).mono ?_
  rintro e w3 ⟨rfl, h3⟩
  have H3 := Aside0.mk (H2.out.trans h3)
  clear h3 H2 HN
  have hdec : decide (hh ≤ hw) = true := by simpa using hle
  go_wp2_with (first | (go_at_call 56; refine (must_yes _).mono ?_; rintro e w3 ⟨rfl, rfl⟩))
  refine (HX.out _ H3.out.1).mono ?_
  rintro e w4 ⟨rfl, h4⟩
  have H4 := Aside0.mk (H3.out.trans h4)
  clear h4 H3 HX
  cases b
  · simp only [Bool.false_eq_true, if_false, Option.some.injEq, Prod.mk.injEq] at ht
    obtain ⟨rfl, rfl⟩ := ht
    go_wp2
    go_ret
    refine ⟨?_, H4.out⟩
    show Ending.returned (.int .i64 (wrap64 (sg * (hh * 3600)))) = _
    rw [wrap_sign sg _ hs1 hs2 (by omega)]
  · simp only [if_true] at ht
    rw [Option.bind_eq_some_iff] at ht
    obtain ⟨⟨q, b2, l4⟩, e3, ht⟩ := ht
    simp only [Option.some.injEq, Prod.mk.injEq] at ht
    obtain ⟨rfl, rfl⟩ := ht
    have ok3 := tkSixty_ok e3
    obtain ⟨q0, q60, -, -⟩ := ok3
    have HY : Aside0 (∀ W, Psr g l3 wide W → Calls Tryd.prog 66 #[.pointer (some ⟨g, 0, none⟩)] W fun e w' => e = .returned (.tuple #[.int .i64 q, .bool b2]) ∧ PsrTo g l4 wide W w') :=
      ⟨fun W hW => sixty_yes g l3 hl3' wide W hW q b2 l4 e3⟩
    clear e3
    go_wp2_with fail
    refine (HY.out _ H4.out.1).mono ?_
    rintro e w5 ⟨rfl, h5⟩
    have H5 := Aside0.mk (H4.out.trans h5)
    clear h5 H4 HY
    go_wp2
    go_ret
    refine ⟨?_, H5.out⟩
    show Ending.returned (.int .i64 (wrap64 (sg * (hh * 3600 + (m * 60 + q))))) = _
    rw [wrap_sign sg _ hs1 hs2 (by omega)]
set_option maxRecDepth 100000 in
set_option maxHeartbeats 4000000 in
theorem time_no (g : Nat) (s wd : Bool) (l : List UInt8) (hl : l.length ≤ 1000) (wide : Bool) (w : World) (h : Psr g l wide w) (hG : G8 w) (hR : Room8 g) (ht : tkTime s wd l = none) :
    Calls Tryd.prog 53 #[.pointer (some ⟨g, 0, none⟩), .bool s, .bool wd] w fun e w' => e = wrongE ∧ Only g w w' := by
  have HP := Aside0.mk h
  have HG := Aside0.mk hG
  have HR := Aside0.mk hR
  unfold tkTime at ht
  have hsr := signRest_len s l
  have hs1 := signOf_1 s l
  have HI1 := Aside0.mk (fun W hW => is_calls g 45 l wide W hW)
  have HI2 := Aside0.mk (fun W hW => is_calls g 43 l wide W hW)
  obtain ⟨sg, hsg⟩ : ∃ z, z = signOf s l := ⟨_, rfl⟩
  have HSG := Aside0.mk hsg
  rw [← hsg] at hs1 ht
  obtain ⟨hs1, hs2⟩ := hs1
  obtain ⟨mw, hmw⟩ : ∃ mw : Nat, (if wd = true then 3 else 2) = mw := ⟨_, rfl⟩
  obtain ⟨hw, hhw⟩ : ∃ hw : Int, (if wd = true then 167 else 24) = hw := ⟨_, rfl⟩
  rw [hmw, hhw] at ht
  have hmw3 : mw ≤ 3 := by rw [← hmw]; split <;> omega
  have hhw2 : hw ≤ 167 := by rw [← hhw]; split <;> omega
  have HMW := Aside0.mk hmw
  have HHW := Aside0.mk hhw
  have HLR := Aside0.mk (show (signRest s l).length ≤ 1000 by omega)
  clear hmw hhw hsg h hG hR hsr hl
  go_enter Tryd.func53, Tryd.ntmps53
  go_upto_block 0 with (fail)
  go_cut [7] (fun v7 wx => SignCut g s l wide w v7 wx)
  case first =>
    cases s
    · have hs0 : signOf false l = 1 := rfl
      have hr0 : signRest false l = l := rfl
      go_wp2_with fail
      go_meet
      case rel => exact ⟨rfl, PsrTo.refl HP.out⟩
    · cases he : eats 45 l
      · have e1 : eaten 45 l = l := by unfold eaten; rw [if_neg (by rw [he]; decide)]
        cases he2 : eats 43 l
        · have e2 : eaten 43 l = l := by unfold eaten; rw [if_neg (by rw [he2]; decide)]
          have HS := Aside0.mk (show signOf true l = 1 ∧ signRest true l = l by unfold signOf signRest; rw [he, he2]; simp)
          rw [he, e1] at HI1
          rw [he2, e2] at HI2
          clear he e1 he2 e2
          go_wp2_with fail
          refine (HI1.out _ HP.out).mono ?_
          rintro e wa ⟨rfl, ha⟩
          have HA := Aside0.mk ha
          clear ha
          go_wp2_with fail
          refine (HI2.out _ HA.out.1).mono ?_
          rintro e wb ⟨rfl, hb⟩
          have HB := Aside0.mk (HA.out.trans hb)
          clear hb
          go_wp2_with fail
          go_meet
          case rel => exact ⟨by rw [HS.out.1], by rw [HS.out.2]; exact HB.out⟩
        · have e2 : eaten 43 l = l.tail := by unfold eaten; rw [if_pos he2]
          have HS := Aside0.mk (show signOf true l = 1 ∧ signRest true l = l.tail by unfold signOf signRest; rw [he, he2]; simp)
          rw [he, e1] at HI1
          rw [he2, e2] at HI2
          clear he e1 he2 e2
          go_wp2_with fail
          refine (HI1.out _ HP.out).mono ?_
          rintro e wa ⟨rfl, ha⟩
          have HA := Aside0.mk ha
          clear ha
          go_wp2_with fail
          refine (HI2.out _ HA.out.1).mono ?_
          rintro e wb ⟨rfl, hb⟩
          have HB := Aside0.mk (HA.out.trans hb)
          clear hb
          go_wp2_with fail
          go_meet
          case rel => exact ⟨by rw [HS.out.1], by rw [HS.out.2]; exact HB.out⟩
      · have e1 : eaten 45 l = l.tail := by unfold eaten; rw [if_pos he]
        have HS := Aside0.mk (show signOf true l = -1 ∧ signRest true l = l.tail by unfold signOf signRest; rw [he]; simp)
        rw [he, e1] at HI1
        clear he e1
        go_wp2_with fail
        refine (HI1.out _ HP.out).mono ?_
        rintro e wa ⟨rfl, ha⟩
        have HA := Aside0.mk ha
        clear ha
        go_wp2_with fail
        go_meet
        case rel => exact ⟨by rw [HS.out.1], by rw [HS.out.2]; exact HA.out⟩
  case rest =>
  obtain ⟨rfl, hc⟩ := hcut
  have H1 := Aside0.mk hc
  rw [← HSG.out]
  clear hc
  go_upto_if 25 with (fail)
  go_cut [8, 9] (fun v8 v9 wx => WideCut mw hw v8 v9 wc wx)
  case first =>
    cases wd
    · go_wp2_with fail
      go_meet
      case rel => exact ⟨by rw [← HMW.out]; rfl, by rw [← HHW.out]; rfl, rfl⟩
    · go_wp2_with fail
      go_meet
      case rel => exact ⟨by rw [← HMW.out]; rfl, by rw [← HHW.out]; rfl, rfl⟩
  case rest =>
  obtain ⟨rfl, rfl, rfl⟩ := hcut
  have H2 := H1
  clear H1 HP HI1 HI2
  cases e1 : tkNum mw (signRest s l) with
  | none =>
    clear ht
    have HN : Aside0 (∀ W, Psr g (signRest s l) wide W → G8 W → Calls Tryd.prog 65 #[.pointer (some ⟨g, 0, none⟩), .int .i64 (mw : Int)] W fun e w' => e = wrongE ∧ Only g W w') :=
      ⟨fun W hW hg => num_no g mw (signRest s l) HLR.out hmw3 wide W hW hg HR.out e1⟩
    clear e1
    go_wp2_with fail
    refine (HN.out _ H2.out.1 (H2.out.g8 HG.out HR.out)).mono ?_
    rintro e w3 ⟨rfl, h3⟩
    exact ⟨rfl, rfl, H2.out.2.trans h3⟩
  | some hr =>
    obtain ⟨hh, l2⟩ := hr
    rw [e1, Option.bind_some] at ht
    simp only at ht
    have hh0 := tkNum_nonneg e1
    have hl2 : l2.length ≤ 1000 := Nat.le_trans (tkNum_len e1) HLR.out
    have HN : Aside0 (∀ W, Psr g (signRest s l) wide W → Calls Tryd.prog 65 #[.pointer (some ⟨g, 0, none⟩), .int .i64 (mw : Int)] W fun e w' => e = .returned (.int .i64 hh) ∧ PsrTo g l2 wide W w') :=
      ⟨fun W hW => num_yes g mw (signRest s l) HLR.out hmw3 wide W hW hh l2 e1⟩
    clear e1 hmw3
    by_cases hle : hh ≤ hw
    · have hdec : decide (hh ≤ hw) = true := by simpa using hle
      have hle2 : hh ≤ 167 := by omega
      rw [if_pos hle] at ht
      cases e2 : tkSixty l2 with
      | none =>
        have HX : Aside0 (∀ W, Psr g l2 wide W → Calls Tryd.prog 66 #[.pointer (some ⟨g, 0, none⟩)] W fun e w' => e = wrongE ∧ Only g W w') :=
          ⟨fun W hW => sixty_no g l2 hl2 wide W hW e2⟩
        clear e2 ht
        go_wp2_with fail
        refine (HN.out _ H2.out.1).mono ?_
        rintro e w3 ⟨rfl, h3⟩
        have H3 := Aside0.mk (H2.out.trans h3)
        clear h3 H2 HN
        go_wp2_with (first | (go_at_call 56; refine (must_yes _).mono ?_; rintro e w3 ⟨rfl, rfl⟩))
        refine (HX.out _ H3.out.1).mono ?_
        rintro e w4 ⟨rfl, h4⟩
        exact ⟨rfl, rfl, H3.out.2.trans h4⟩
      | some mr =>
        obtain ⟨m, b, l3⟩ := mr
        rw [e2, Option.bind_some] at ht
        simp only at ht
        have ok2 := tkSixty_ok e2
        have HX : Aside0 (∀ W, Psr g l2 wide W → Calls Tryd.prog 66 #[.pointer (some ⟨g, 0, none⟩)] W fun e w' => e = .returned (.tuple #[.int .i64 m, .bool b]) ∧ PsrTo g l3 wide W w') :=
          ⟨fun W hW => sixty_yes g l2 hl2 wide W hW m b l3 e2⟩
        obtain ⟨m0, m60, hl3, -⟩ := ok2
        clear e2
        cases b
        · simp at ht
        · simp only [if_true] at ht
          have e3 : tkSixty l3 = none := by
            cases e3 : tkSixty l3 with
            | none => rfl
            | some v => rw [e3] at ht; cases ht
          have HY : Aside0 (∀ W, Psr g l3 wide W → Calls Tryd.prog 66 #[.pointer (some ⟨g, 0, none⟩)] W fun e w' => e = wrongE ∧ Only g W w') :=
            ⟨fun W hW => sixty_no g l3 (by omega) wide W hW e3⟩
          clear e3 ht
          go_wp2_with fail
          refine (HN.out _ H2.out.1).mono ?_
          rintro e w3 ⟨rfl, h3⟩
          have H3 := Aside0.mk (H2.out.trans h3)
          clear h3 H2 HN
          go_wp2_with (first | (go_at_call 56; refine (must_yes _).mono ?_; rintro e w3 ⟨rfl, rfl⟩))
          refine (HX.out _ H3.out.1).mono ?_
          rintro e w4 ⟨rfl, h4⟩
          have H4 := Aside0.mk (H3.out.trans h4)
          clear h4 H3 HX
          go_wp2_with fail
          refine (HY.out _ H4.out.1).mono ?_
          rintro e w5 ⟨rfl, h5⟩
          exact ⟨rfl, rfl, H4.out.2.trans h5⟩
    · have hdec : decide (hh ≤ hw) = false := by simpa using hle
      clear ht
      go_wp2_with fail
      refine (HN.out _ H2.out.1).mono ?_
      rintro e w3 ⟨rfl, h3⟩
      have H3 := Aside0.mk (H2.out.trans h3)
      clear h3 H2 HN hle
      go_wp2_with fail
      refine (must_no _).mono ?_
      rintro e w3 ⟨rfl, rfl⟩
      exact ⟨rfl, rfl, H3.out.2⟩
end Go.Proofs.YtnbjneknicppcaaDoor.Fn

namespace Go.Proofs.YtnbjneknicppcaaDoor.Fn
set_option linter.unusedVariables false
set_option linter.unusedSimpArgs false
open Go.RowKit Go.Proofs.YtnbjneknicppcaaDoorW.PrintWords Go.Proofs.YtnbjneknicppcaaDoorW.PrintLast Go.Lib
theorem dec3_len (n : Nat) : (dec3 n).length ≤ 3 := by unfold dec3; split <;> (try split) <;> simp
theorem dec3_digit (n : Nat) (h : n < 10) : dec3 n = [dig1 n] := by unfold dec3; rw [if_pos h]
def timeAt (m : Nat) : Nat → List UInt8
  | 0 => dec3 (m / 3600)
  | 1 => dec3 (m / 3600) ++ (if m % 3600 ≠ 0 then 58 :: two (m / 60 % 60) else [])
  | _ => dec3 (m / 3600) ++ ((if m % 3600 ≠ 0 then 58 :: two (m / 60 % 60) else []) ++ (if m % 60 ≠ 0 then 58 :: two (m % 60) else []))
theorem timeAt_len (m k : Nat) : (timeAt m k).length ≤ 9 := by
  have h := dec3_len (m / 3600)
  match k with
  | 0 => simp only [timeAt]; omega
  | 1 => simp only [timeAt, List.length_append]; split <;> simp [two] <;> omega
  | k + 2 => simp only [timeAt, List.length_append]; split <;> split <;> simp [two] <;> omega
def TimeCut (B b : Nat) (l : List UInt8) (m : Nat) (s : List UInt8) (w : World) (v : Value) (wx : World) : Prop := v = .int .i64 (m : Int) ∧ PrtTo B b (l ++ s) w wx
set_option maxRecDepth 1000000 in
set_option maxHeartbeats 4000000 in
theorem pTime_calls (B b : Nat) (l : List UInt8) (n : Int) (w : World) (h : Prt B b l w) (hn : n.natAbs ≤ 604799) (hl : l.length ≤ 1000) (hB : B ≤ w.heap.size) (hG : G8 w) (hR : Room8 B) :
    Calls Tryd.prog 26 #[.pointer (some ⟨b, 0, none⟩), .int .i64 n] w fun e w' => e = .returned (.tuple #[]) ∧ PrtTo B b (l ++ prTime n) w w' := by
  have HP := Aside0.mk h
  have HB := Aside0.mk hB
  have HL := Aside0.mk hl
  have HG := Aside0.mk hG
  have HR := Aside0.mk hR
  have i0 : ∀ w, (Instr.index 81 (.agg #[.int .i64 60, .int .i64 1]) (.int .i64 0)).run Tryd.prog w = .ok (.int .i64 60) w := fun _ => by kernel_rfl
  have i1 : ∀ w, (Instr.index 81 (.agg #[.int .i64 60, .int .i64 1]) (.int .i64 1)).run Tryd.prog w = .ok (.int .i64 1) w := fun _ => by kernel_rfl
  obtain ⟨m, hm⟩ : ∃ m, m = n.natAbs := ⟨_, rfl⟩
  have HM := Aside0.mk hm
  have hm2 : m ≤ 604799 := by omega
  have hn1 : -604799 ≤ n := by omega
  have hn2 : n ≤ 604799 := by omega
  clear h hB hl hG hR hn
  clear hm
  go_enter Tryd.func26, Tryd.ntmps26
  go_upto_if 8 with (fail)
  go_cut [1] (fun v1 wx => TimeCut B b l m (if n < 0 then [45] else []) w v1 wx)
  case first =>
    by_cases hneg : n < 0
    · go_wp2_with fail
      refine (pb_WriteByte B b l 45 w HP.out (by have := HL.out; omega) HB.out).mono ?_
      rintro e w1 ⟨rfl, h1⟩
      have H1 := Aside0.mk h1
      clear h1
      go_wp2_with fail
      go_meet
      case rel => exact ⟨by rw [HM.out]; exact congrArg _ (by omega), by rw [if_pos hneg]; exact H1.out⟩
    · go_wp2_with fail
      go_meet
      case rel => exact ⟨by rw [HM.out]; exact congrArg _ (by omega), by rw [if_neg (by omega), List.append_nil]; exact PrtTo.refl HP.out⟩
  case rest =>
    obtain ⟨rfl, hcut⟩ := hcut
    obtain ⟨L, hLd⟩ : ∃ L, L = l ++ (if n < 0 then [45] else []) := ⟨_, rfl⟩
    rw [← hLd] at hcut
    have hLl : L.length ≤ 1001 := by rw [hLd, List.length_append]; have := HL.out; split <;> simp <;> omega
    have HLL := Aside0.mk hLl
    have HLd := Aside0.mk hLd
    have H1 := Aside0.mk hcut
    clear hcut hLl hLd
    have hq1 : (m : Int) / 3600 = ((m / 3600 : Nat) : Int) := by omega
    go_upto_region 3 with (fail)
    go_cut [] (fun wx => PrtTo B b (L ++ timeAt m 0) w wx)
    case first =>
      clear i0 i1 hq1
      have HI := Aside0.mk (fun W hg => itoaN_calls (m / 3600) (by omega) W hg)
      have HD := Aside0.mk (H1.out.below HB.out (Below.drew (Below.refl _ _)))
      have hq : IntKind.i64.wrap ((m : Int) / 3600) = ((m / 3600 : Nat) : Int) := by rw [IntWalk.i64_in _ (by omega)]; omega
      have HW := Aside0.mk (show L.length + (dec3 (m / 3600)).length ≤ 100000 by have := HLL.out; have := dec3_len (m / 3600); omega)
      clear hm2 hn1 hn2
      go_region_with (first | (go_at_call 45; refine (HI.out _ (HD.out.g8 HG.out HR.out)).mono ?_; rintro e wi ⟨rfl, hbi⟩; have H2 := Aside0.mk (HD.out.below HB.out hbi); clear hbi) | (go_at_call 43; refine (pb_WriteString B b L (dec3 (m / 3600)) _ H2.out.1 HW.out (Nat.le_trans HB.out H2.out.size)).mono ?_; rintro e w2 ⟨rfl, h2⟩; have H3 := Aside0.mk (H2.out.trans h2); clear h2))
      all_goals
        go_wp2_with fail
        go_meet
        case rel => exact H3.out
    case rest =>
      have H2 := Aside0.mk hcut
      clear hcut
      go_wp2_with fail
      go_loopw [23] (fun i wr => ∃ k : Nat, k ≤ 2 ∧ i = .int .i64 k ∧ PrtTo B b (L ++ timeAt m k) w wr) (fun i _ => 2 - (intOf i).toNat)
      case atStart => exact ⟨0, by omega, rfl, H2.out⟩
      case round =>
        obtain ⟨k, hk, rfl, hr⟩ := hrel
        have H3 := Aside0.mk hr
        clear hr H2
        rcases (show k = 0 ∨ k = 1 ∨ k = 2 by omega) with rfl | rfl | rfl
        · obtain ⟨q, hq⟩ : ∃ q : Nat, q = m / 60 % 60 := ⟨_, rfl⟩
          have hq60 : q < 60 := by omega
          by_cases hz : m % 3600 = 0
          · have hz1 : (((m : Int) % 3600) != 0) = false := by simp; omega
            have HT := Aside0.mk (show timeAt m 1 = timeAt m 0 by simp [timeAt, hz])
            clear hz hq
            go_wp2_with fail
            go_roundw
            case rel => exact ⟨1, by omega, by go_num, by rw [HT.out]; exact H3.out⟩
            case measure => simp [intOf]
          · have hz1 : (((m : Int) % 3600) != 0) = true := by simp; omega
            have HT := Aside0.mk (show timeAt m 1 = timeAt m 0 ++ 58 :: two q by simp [timeAt, hz, hq])
            have H6 := Aside0.mk (show ((m : Int) / 60 % 60) = (q : Int) by omega)
            have HW := Aside0.mk (show (L ++ timeAt m 0).length + (58 :: two q).length ≤ 100000 by have := HLL.out; have := timeAt_len m 0; simp [two]; omega)
            have HI1 : Aside0 (∀ W, G8 W → Calls Tryd.prog 45 #[.int .i64 ((q : Int) / 10)] W fun e w' => e = .returned (.string ⟨#[dig1 (q / 10)]⟩) ∧ Below W.heap.size W w') := ⟨fun W hg => by have h := itoaN_calls (q / 10) (by omega) W hg; rw [dec3_digit _ (by omega)] at h; rwa [show ((q / 10 : Nat) : Int) = (q : Int) / 10 by omega] at h⟩
            have HI2 : Aside0 (∀ W, G8 W → Calls Tryd.prog 45 #[.int .i64 ((q : Int) % 10)] W fun e w' => e = .returned (.string ⟨#[dig1 (q % 10)]⟩) ∧ Below W.heap.size W w') := ⟨fun W hg => by have h := itoaN_calls (q % 10) (by omega) W hg; rw [dec3_digit _ (by omega)] at h; rwa [show ((q % 10 : Nat) : Int) = (q : Int) % 10 by omega] at h⟩
            clear hz hq
            have H4 := Aside0.mk (H3.out.below HB.out (Below.drew (Below.refl _ _)))
            have ha1 : ∀ W, (Op.stringOp .add ⟨#[58]⟩ ⟨#[dig1 (q / 10)]⟩).run Tryd.prog W = .ok (.string ⟨#[58, dig1 (q / 10)]⟩) W := fun W => add_run [58] [dig1 (q / 10)] (by simp) W
            have ha2 : ∀ W, (Op.stringOp .add ⟨#[58, dig1 (q / 10)]⟩ ⟨#[dig1 (q % 10)]⟩).run Tryd.prog W = .ok (.string ⟨(58 :: two q).toArray⟩) W := fun W => add_run [58, dig1 (q / 10)] [dig1 (q % 10)] (by simp) W
            go_wp2_with fail
            have hA : IntKind.i64.wrap (Int.tdiv ((m : Int) / 60 % 60) 10) = (q : Int) / 10 := by rw [H6.out, Int.tdiv_eq_ediv_of_nonneg (by omega), IntWalk.i64_in _ (by omega)]
            have hB : Int.tmod ((m : Int) / 60 % 60) 10 = (q : Int) % 10 := by rw [H6.out, Int.tmod_eq_emod_of_nonneg (by omega)]
            clear hq60
            go_region_with (first | (go_at_call 45; (with_reducible refine (HI1.out _ (H4.out.g8 HG.out HR.out)).mono ?_); rintro e wi ⟨rfl, hbi⟩; have H5 := Aside0.mk (H4.out.below HB.out hbi); clear hbi) | (go_at_call 45; (with_reducible refine (HI2.out _ (H5.out.g8 HG.out HR.out)).mono ?_); rintro e wj ⟨rfl, hbj⟩; have K6 := Aside0.mk (H5.out.below HB.out hbj); clear hbj) | (go_at_call 43; refine (pb_WriteString B b _ (58 :: two q) _ K6.out.1 HW.out (Nat.le_trans HB.out K6.out.size)).mono ?_; rintro e w2 ⟨rfl, h2⟩; have H7 := Aside0.mk (K6.out.trans h2); clear h2))
            all_goals
              clear hA hB
              go_wp2_with fail
              go_roundw
              case rel => exact ⟨1, by omega, by go_num, by rw [HT.out, ← List.append_assoc]; exact H7.out⟩
              case measure => simp [intOf]
        · obtain ⟨q, hq⟩ : ∃ q : Nat, q = m % 60 := ⟨_, rfl⟩
          have hq60 : q < 60 := by omega
          by_cases hz : m % 60 = 0
          · have hz1 : (((m : Int) % 60) != 0) = false := by simp; omega
            have HT := Aside0.mk (show timeAt m 2 = timeAt m 1 by simp [timeAt, hz])
            clear hz hq
            go_wp2_with fail
            go_roundw
            case rel => exact ⟨2, by omega, by go_num, by rw [HT.out]; exact H3.out⟩
            case measure => simp [intOf]
          · have hz1 : (((m : Int) % 60) != 0) = true := by simp; omega
            have HT := Aside0.mk (show timeAt m 2 = timeAt m 1 ++ 58 :: two q by simp [timeAt, hz, hq])
            have H6 := Aside0.mk (show ((m : Int) % 60) = (q : Int) by omega)
            have HW := Aside0.mk (show (L ++ timeAt m 1).length + (58 :: two q).length ≤ 100000 by have := HLL.out; have := timeAt_len m 1; simp [two]; omega)
            have HI1 : Aside0 (∀ W, G8 W → Calls Tryd.prog 45 #[.int .i64 ((q : Int) / 10)] W fun e w' => e = .returned (.string ⟨#[dig1 (q / 10)]⟩) ∧ Below W.heap.size W w') := ⟨fun W hg => by have h := itoaN_calls (q / 10) (by omega) W hg; rw [dec3_digit _ (by omega)] at h; rwa [show ((q / 10 : Nat) : Int) = (q : Int) / 10 by omega] at h⟩
            have HI2 : Aside0 (∀ W, G8 W → Calls Tryd.prog 45 #[.int .i64 ((q : Int) % 10)] W fun e w' => e = .returned (.string ⟨#[dig1 (q % 10)]⟩) ∧ Below W.heap.size W w') := ⟨fun W hg => by have h := itoaN_calls (q % 10) (by omega) W hg; rw [dec3_digit _ (by omega)] at h; rwa [show ((q % 10 : Nat) : Int) = (q : Int) % 10 by omega] at h⟩
            clear hz hq
            have H4 := Aside0.mk (H3.out.below HB.out (Below.drew (Below.refl _ _)))
            have ha1 : ∀ W, (Op.stringOp .add ⟨#[58]⟩ ⟨#[dig1 (q / 10)]⟩).run Tryd.prog W = .ok (.string ⟨#[58, dig1 (q / 10)]⟩) W := fun W => add_run [58] [dig1 (q / 10)] (by simp) W
            have ha2 : ∀ W, (Op.stringOp .add ⟨#[58, dig1 (q / 10)]⟩ ⟨#[dig1 (q % 10)]⟩).run Tryd.prog W = .ok (.string ⟨(58 :: two q).toArray⟩) W := fun W => add_run [58, dig1 (q / 10)] [dig1 (q % 10)] (by simp) W
            go_wp2_with fail
            have hA : IntKind.i64.wrap (Int.tdiv ((m : Int) % 60) 10) = (q : Int) / 10 := by rw [H6.out, Int.tdiv_eq_ediv_of_nonneg (by omega), IntWalk.i64_in _ (by omega)]
            have hB : Int.tmod ((m : Int) % 60) 10 = (q : Int) % 10 := by rw [H6.out, Int.tmod_eq_emod_of_nonneg (by omega)]
            clear hq60
            go_region_with (first | (go_at_call 45; (with_reducible refine (HI1.out _ (H4.out.g8 HG.out HR.out)).mono ?_); rintro e wi ⟨rfl, hbi⟩; have H5 := Aside0.mk (H4.out.below HB.out hbi); clear hbi) | (go_at_call 45; (with_reducible refine (HI2.out _ (H5.out.g8 HG.out HR.out)).mono ?_); rintro e wj ⟨rfl, hbj⟩; have K6 := Aside0.mk (H5.out.below HB.out hbj); clear hbj) | (go_at_call 43; refine (pb_WriteString B b _ (58 :: two q) _ K6.out.1 HW.out (Nat.le_trans HB.out K6.out.size)).mono ?_; rintro e w2 ⟨rfl, h2⟩; have H7 := Aside0.mk (K6.out.trans h2); clear h2))
            all_goals
              clear hA hB
              go_wp2_with fail
              go_roundw
              case rel => exact ⟨2, by omega, by go_num, by rw [HT.out, ← List.append_assoc]; exact H7.out⟩
              case measure => simp [intOf]
        · go_wp2_with fail
          go_end0
          refine ⟨rfl, ?_⟩
          have e : l ++ prTime n = L ++ timeAt m 2 := by
            unfold prTime timeAt
            rw [HLd.out, HM.out, List.append_assoc]; rfl
          rw [e]
          exact H3.out
end Go.Proofs.YtnbjneknicppcaaDoor.Fn

namespace Go.Proofs.YtnbjneknicppcaaDoor.Fn
set_option linter.unusedVariables false
set_option linter.unusedSimpArgs false
open Go.RowKit Go.Proofs.YtnbjneknicppcaaDoorW.PrintWords Go.Proofs.YtnbjneknicppcaaDoorW.PrintLast Go.Lib
theorem PrtTo.blk {B b g : Nat} {l : List UInt8} {w w1 : World} {cs : Array Value} {T : TypeId} (h : PrtTo B b l w w1) (hb : w.heap[g]? = some (.cells cs T (0, 0))) (hne : g ≠ b) (hT : T ≠ 5) : w1.heap[g]? = some (.cells cs T (0, 0)) :=
  h.2.2 g _ hb (fun e => hne (Option.some.inj e)) (fun _ _ e => by simp at e; exact hT e.2.1)
theorem PrtTo.alloc {B b : Nat} {l : List UInt8} {w : World} (h : Prt B b l w) (hB : B ≤ w.heap.size) (o : Obj) : PrtTo B b l w (w.alloc o) := (PrtTo.refl h).below hB (below_alloc (Below.refl _ _) o)
theorem PrtTo.drew {B b : Nat} {l : List UInt8} {w w1 : World} (h : PrtTo B b l w w1) (hB : B ≤ w.heap.size) : PrtTo B b l w w1.drew := h.below hB (Below.drew (Below.refl _ _))
def Chg.cells (c : Chg) : Array Value := #[.int .i64 c.how, .int .i64 c.n, .int .i64 c.week, .int .i64 c.wday, .int .i64 c.time]
def DayCut (B b g : Nat) (l : List UInt8) (c : Chg) (w : World) (v : Value) (wx : World) : Prop := v = .string ⟨(prDay c).toArray⟩ ∧ PrtTo B b (l ++ [44]) w wx ∧ wx.heap[g]? = some (.cells c.cells 25 (0, 0))
theorem prDay_len (c : Chg) : (prDay c).length ≤ 12 := by
  have h1 := dec3_len c.n.toNat
  have h2 := dec3_len c.week.toNat
  have h3 := dec3_len c.wday.toNat
  unfold prDay
  split
  · simp; omega
  · split
    · simp; omega
    · omega
set_option maxRecDepth 1000000 in
set_option maxHeartbeats 4000000 in
theorem pChg_calls (B b : Nat) (l : List UInt8) (c : Chg) (w : World) (h : Prt B b l w) (hn : 0 ≤ c.n ∧ c.n < 1000) (hk : 0 ≤ c.week ∧ c.week < 1000) (hd : 0 ≤ c.wday ∧ c.wday < 1000) (ht : c.time.natAbs ≤ 604799) (hl : l.length ≤ 900) (hB : B ≤ w.heap.size) (hG : G8 w) (hR : Room8 B) :
    Calls Tryd.prog 27 #[.pointer (some ⟨b, 0, none⟩), .agg #[.int .i64 c.how, .int .i64 c.n, .int .i64 c.week, .int .i64 c.wday, .int .i64 c.time]] w fun e w' => e = .returned (.tuple #[]) ∧ PrtTo B b (l ++ prChg c) w w' := by
  obtain ⟨ch, cn, ck, cd, ct⟩ := c
  simp only at hn hk hd ht
  obtain ⟨hn0, hn1⟩ := hn
  obtain ⟨hk0, hk1⟩ := hk
  obtain ⟨hd0, hd1⟩ := hd
  have neT : (25 : TypeId) ≠ 5 := by decide
  have HB := Aside0.mk hB
  have HL := Aside0.mk hl
  have HG := Aside0.mk hG
  have HR := Aside0.mk hR
  have hgb : w.heap.size ≠ b := by have := h.lt; omega
  have HGB := Aside0.mk hgb


  have H0 := Aside0.mk (PrtTo.alloc h hB (.cells #[.int .i64 ch, .int .i64 cn, .int .i64 ck, .int .i64 cd, .int .i64 ct] 25))
  clear h hB hl hG hR hgb
  go_enter Tryd.func27, Tryd.ntmps27
  go_wp2_with fail
  refine (pb_WriteByte B b l 44 _ H0.out.1 (by have := HL.out; omega) (Nat.le_trans HB.out H0.out.size)).mono ?_
  rintro e w1 ⟨rfl, h1⟩
  have H1 := Aside0.mk (H0.out.trans h1)
  have BX := h1.blk (blk_new w _) HGB.out neT
  have c0 := (blk_cell BX 0).trans rfl
  have c1 := (blk_cell BX 1).trans rfl
  have BX1 := Aside0.mk BX
  clear BX h1 H0
  simp only [List.getElem?_toArray, List.getElem?_cons_succ, List.getElem?_cons_zero] at c0 c1
  go_wp2_with (go_at_call 45; refine (itoa_calls cn hn0 hn1 _ (H1.out.g8 HG.out HR.out)).mono ?_)
  rintro e w2 ⟨rfl, hb2⟩
  have BX2 := Aside0.mk (blk_below BX1.out hb2)
  have c0 := (blk_cell BX2.out 0).trans rfl
  simp only [List.getElem?_toArray, List.getElem?_cons_succ, List.getElem?_cons_zero] at c0
  have H2 := Aside0.mk (H1.out.below HB.out hb2)
  clear hb2 H1 BX1 c1
  go_upto_block 0 with (fail)
  go_cut [4] (fun v4 wx => DayCut B b w.heap.size l ⟨ch, cn, ck, cd, ct⟩ w v4 wx)
  case first =>
    by_cases h1 : ch = 1
    · have q1 : (ch == 1) = true := by simp [h1]
      have HE := Aside0.mk (show prDay ⟨ch, cn, ck, cd, ct⟩ = 74 :: dec3 cn.toNat by unfold prDay; rw [if_pos h1])
      have ha1 : ∀ W, (Op.stringOp .add ⟨#[74]⟩ ⟨(dec3 cn.toNat).toArray⟩).run Tryd.prog W = .ok (.string ⟨(74 :: dec3 cn.toNat).toArray⟩) W := fun W => add_run [74] _ (by have := dec3_len cn.toNat; simp; omega) W
      clear h1
      go_wp2_with fail
      go_meet
      case rel => exact ⟨by rw [HE.out], H2.out, BX2.out⟩
    · by_cases h3 : ch = 3
      · have q1 : (ch == 1) = false := by simp [h1]
        have q3 : (ch == 3) = true := by simp [h3]
        have HE := Aside0.mk (show prDay ⟨ch, cn, ck, cd, ct⟩ = 77 :: (dec3 cn.toNat ++ (46 :: (dec3 ck.toNat ++ (46 :: dec3 cd.toNat)))) by unfold prDay; rw [if_neg h1, if_pos h3])
        clear h1 h3
        have l1 := dec3_len cn.toNat
        have l2 := dec3_len ck.toNat
        have l3 := dec3_len cd.toNat
        obtain ⟨A, hA⟩ : ∃ A, A = dec3 cn.toNat := ⟨_, rfl⟩
        obtain ⟨K, hK⟩ : ∃ K, K = dec3 ck.toNat := ⟨_, rfl⟩
        obtain ⟨D, hD⟩ : ∃ D, D = dec3 cd.toNat := ⟨_, rfl⟩
        obtain ⟨t1, ht1⟩ : ∃ t, t = [77] ++ A := ⟨_, rfl⟩
        obtain ⟨t2, ht2⟩ : ∃ t, t = t1 ++ [46] := ⟨_, rfl⟩
        obtain ⟨t3, ht3⟩ : ∃ t, t = t2 ++ K := ⟨_, rfl⟩
        obtain ⟨t4, ht4⟩ : ∃ t, t = t3 ++ [46] := ⟨_, rfl⟩
        obtain ⟨t5, ht5⟩ : ∃ t, t = t4 ++ D := ⟨_, rfl⟩
        rw [← hA] at l1 HE ⊢
        rw [← hK] at l2 HE
        rw [← hD] at l3 HE
        have ha1 : ∀ W, (Op.stringOp .add ⟨#[77]⟩ ⟨A.toArray⟩).run Tryd.prog W = .ok (.string ⟨t1.toArray⟩) W := fun W => by rw [ht1]; exact add_run [77] A (by simp; omega) W
        have ha2 : ∀ W, (Op.stringOp .add ⟨t1.toArray⟩ ⟨#[46]⟩).run Tryd.prog W = .ok (.string ⟨t2.toArray⟩) W := fun W => by rw [ht2]; exact add_run t1 [46] (by simp [ht1]; omega) W
        have ha3 : ∀ W, (Op.stringOp .add ⟨t2.toArray⟩ ⟨K.toArray⟩).run Tryd.prog W = .ok (.string ⟨t3.toArray⟩) W := fun W => by rw [ht3]; exact add_run t2 K (by simp [ht2, ht1]; omega) W
        have ha4 : ∀ W, (Op.stringOp .add ⟨t3.toArray⟩ ⟨#[46]⟩).run Tryd.prog W = .ok (.string ⟨t4.toArray⟩) W := fun W => by rw [ht4]; exact add_run t3 [46] (by simp [ht3, ht2, ht1]; omega) W
        have ha5 : ∀ W, (Op.stringOp .add ⟨t4.toArray⟩ ⟨D.toArray⟩).run Tryd.prog W = .ok (.string ⟨t5.toArray⟩) W := fun W => by rw [ht5]; exact add_run t4 D (by simp [ht4, ht3, ht2, ht1]; omega) W
        have HE2 := Aside0.mk (show t5 = prDay ⟨ch, cn, ck, cd, ct⟩ by rw [HE.out, ht5, ht4, ht3, ht2, ht1]; simp)
        clear ht1 ht2 ht3 ht4 ht5 HE
        have HI1 := Aside0.mk (fun W hg => itoa_calls ck hk0 hk1 W hg)
        rw [← hK] at HI1
        have HI2 := Aside0.mk (fun W hg => itoa_calls cd hd0 hd1 W hg)
        rw [← hD] at HI2
        clear hA hK hD
        have H3 := Aside0.mk (H2.out.drew HB.out)
        have BX3 : Aside0 (w2.drew.heap[w.heap.size]? = some (.cells #[.int .i64 ch, .int .i64 cn, .int .i64 ck, .int .i64 cd, .int .i64 ct] 25 (0, 0))) := ⟨BX2.out⟩
        have d2 := (blk_cell BX3.out 2).trans rfl
        have d3 := (blk_cell BX3.out 3).trans rfl
        simp only [List.getElem?_toArray, List.getElem?_cons_succ, List.getElem?_cons_zero] at d2 d3
        clear l1 l2 l3 c0 ht hn0 hn1 hk0 hk1 hd0 hd1
        go_wp2_with fail
        go_region_with (first | (go_at_call 45; (with_reducible refine (HI1.out _ (H3.out.g8 HG.out HR.out)).mono ?_); rintro e wi ⟨rfl, hbi⟩; have H4 := Aside0.mk (H3.out.below HB.out hbi); have BX4 := Aside0.mk (blk_below BX3.out hbi); have f3 := (blk_cell BX4.out 3).trans rfl; simp only [List.getElem?_toArray, List.getElem?_cons_succ, List.getElem?_cons_zero] at f3; clear hbi) | (go_at_call 45; (with_reducible refine (HI2.out _ (H4.out.g8 HG.out HR.out)).mono ?_); rintro e wj ⟨rfl, hbj⟩; have H5 := Aside0.mk (H4.out.below HB.out hbj); have BX5 := Aside0.mk (blk_below BX4.out hbj); clear hbj))
        all_goals
          go_wp2_with fail
          go_meet
          case rel => exact ⟨by rw [HE2.out], H5.out, BX5.out⟩
      · have q1 : (ch == 1) = false := by simp [h1]
        have q3 : (ch == 3) = false := by simp [h3]
        have HE := Aside0.mk (show prDay ⟨ch, cn, ck, cd, ct⟩ = dec3 cn.toNat by unfold prDay; rw [if_neg h1, if_neg h3])
        clear h1 h3
        go_wp2_with fail
        go_meet
        case rel => exact ⟨by rw [HE.out], H2.out, BX2.out⟩
  case rest =>
    obtain ⟨rfl, h3, hx⟩ := hcut
    have H3 := Aside0.mk h3
    have BX3 := Aside0.mk hx
    clear h3 hx H2 BX2 c0
    have hdl := prDay_len ⟨ch, cn, ck, cd, ct⟩
    have HDL := Aside0.mk hdl
    clear hdl
    go_wp2_with fail
    refine (pb_WriteString B b (l ++ [44]) (prDay ⟨ch, cn, ck, cd, ct⟩) _ H3.out.1 (by have := HL.out; have := HDL.out; simp; omega) (Nat.le_trans HB.out H3.out.size)).mono ?_
    rintro e w3 ⟨rfl, h4⟩
    have BX4 := Aside0.mk (h4.blk BX3.out HGB.out neT)
    have H4 := Aside0.mk (H3.out.trans h4)
    have c4 := (blk_cell BX4.out 4).trans rfl
    simp only [Chg.cells, List.getElem?_toArray, List.getElem?_cons_succ, List.getElem?_cons_zero] at c4
    clear h4 BX3 H3
    by_cases h7 : ct = 7200
    · have q1 : (ct != 7200) = false := by simp [h7]
      have HE := Aside0.mk (show l ++ prChg ⟨ch, cn, ck, cd, ct⟩ = l ++ [44] ++ prDay ⟨ch, cn, ck, cd, ct⟩ by unfold prChg; rw [if_neg (by simp [h7])]; simp)
      clear h7
      go_wp2_with fail
      go_end0
      exact ⟨rfl, by rw [HE.out]; exact H4.out⟩
    · have q1 : (ct != 7200) = true := by simp [h7]
      have HE := Aside0.mk (show l ++ prChg ⟨ch, cn, ck, cd, ct⟩ = l ++ [44] ++ prDay ⟨ch, cn, ck, cd, ct⟩ ++ [47] ++ prTime ct by unfold prChg; rw [if_pos h7]; simp)
      clear h7
      go_wp2_with fail
      refine (pb_WriteByte B b (l ++ [44] ++ prDay ⟨ch, cn, ck, cd, ct⟩) 47 _ H4.out.1 (by have := HL.out; have := HDL.out; simp; omega) (Nat.le_trans HB.out H4.out.size)).mono ?_
      rintro e w4 ⟨rfl, h5⟩
      have BX5 := Aside0.mk (h5.blk BX4.out HGB.out neT)
      have H5 := Aside0.mk (H4.out.trans h5)
      have c4 := (blk_cell BX5.out 4).trans rfl
      simp only [Chg.cells, List.getElem?_toArray, List.getElem?_cons_succ, List.getElem?_cons_zero] at c4
      clear h5 BX4 H4
      go_wp2_with fail
      refine (pTime_calls B b (l ++ [44] ++ prDay ⟨ch, cn, ck, cd, ct⟩ ++ [47]) ct _ H5.out.1 ht (by have := HL.out; have := HDL.out; simp; omega) (Nat.le_trans HB.out H5.out.size) (H5.out.g8 HG.out HR.out) HR.out).mono ?_
      rintro e w5 ⟨rfl, h6⟩
      have H6 := Aside0.mk (H5.out.trans h6)
      clear h6 H5 BX5
      go_wp2
      go_end0
      exact ⟨rfl, by rw [HE.out]; exact H6.out⟩
end Go.Proofs.YtnbjneknicppcaaDoor.Fn
