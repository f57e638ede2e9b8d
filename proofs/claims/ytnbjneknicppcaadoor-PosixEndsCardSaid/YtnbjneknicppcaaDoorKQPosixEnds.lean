/- PosixEnds, as a plain law. -/
import Derived.Laws.BitsLemmas
import Derived.Test.YtnbjneknicppcaaDoorKFlongcaselaw08PosixEnds
import Derived.Test.YtnbjneknicppcaaDoorK1
import Derived.Test.YtnbjneknicppcaaDoorK2
import Derived.Test.YtnbjneknicppcaaDoorK3
import Derived.Test.YtnbjneknicppcaaDoorK4
import Derived.Test.YtnbjneknicppcaaDoorK5
import Derived.Test.YtnbjneknicppcaaDoorK6
import Derived.Test.YtnbjneknicppcaaDoorK7
import Derived.Test.YtnbjneknicppcaaDoorK8
namespace Go.Proofs.YtnbjneknicppcaaDoor.Fn
set_option linter.unusedVariables false
set_option linter.unusedSimpArgs false
open Go.RowKit Go.Proofs.YtnbjneknicppcaaDoorW.PrintWords Go.Proofs.YtnbjneknicppcaaDoorW.PrintLast Go.Proofs.YtnbjneknicppcaaDoorW.PrintMore

theorem and_65535 (n : Int) : Go.bits .and .i64 n 65535 = n % 65536 := by
  have h127 : (BitVec.ofInt 64 65535).toNat = 2 ^ 16 - 1 := by decide
  have key : (BitVec.ofInt 64 n &&& BitVec.ofInt 64 65535).toNat = (n % ((2 ^ 64 : Nat) : Int)).toNat % 2 ^ 16 := by
    rw [BitVec.toNat_and, BitVec.toNat_ofInt, h127, Nat.and_two_pow_sub_one_eq_mod]
  show IntKind.i64.wrap ((BitVec.ofInt 64 n &&& BitVec.ofInt 64 65535).toNat : Nat) = n % 65536
  rw [key, IntKind.wrap_i64]
  omega
theorem beq_bytes {a b : ByteArray} (h : (a.toList == b.toList) = true) : a = b := by
  have h1 : a.toList = b.toList := by simpa using h
  rw [ByteArray.toList_eq, ByteArray.toList_eq] at h1
  exact ByteArray.ext (Array.toList_inj.1 h1)
def eqR (x r : Rul) : Bool := ((x.std.off == r.std.off && (x.std.dst == r.std.dst && (x.std.name.toList == r.std.name.toList))) && ((x.dst.off == r.dst.off && (x.dst.dst == r.dst.dst && (x.dst.name.toList == r.dst.name.toList))) && (x.both == r.both && ((x.st.how == r.st.how && (x.st.n == r.st.n && (x.st.week == r.st.week && (x.st.wday == r.st.wday && (x.st.time == r.st.time))))) && ((x.en.how == r.en.how && (x.en.n == r.en.n && (x.en.week == r.en.week && (x.en.wday == r.en.wday && (x.en.time == r.en.time))))))))))
theorem eqR_eq {x r : Rul} (h : eqR x r = true) : x = r := by
  unfold eqR at h
  simp only [Bool.and_eq_true] at h
  obtain ⟨⟨h1, h2, h3⟩, ⟨h4, h5, h6⟩, h7, ⟨h8, h9, h10, h11, h12⟩, h13, h14, h15, h16, h17⟩ := h
  obtain ⟨⟨x1, x2, x3⟩, ⟨x4, x5, x6⟩, x7, ⟨x8, x9, x10, x11, x12⟩, x13, x14, x15, x16, x17⟩ := x
  obtain ⟨⟨r1, r2, r3⟩, ⟨r4, r5, r6⟩, r7, ⟨r8, r9, r10, r11, r12⟩, r13, r14, r15, r16, r17⟩ := r
  simp only at *
  rw [eq_of_beq h1, eq_of_beq h2, beq_bytes h3, eq_of_beq h4, eq_of_beq h5, beq_bytes h6, eq_of_beq h7, eq_of_beq h8, eq_of_beq h9, eq_of_beq h10, eq_of_beq h11, eq_of_beq h12, eq_of_beq h13, eq_of_beq h14, eq_of_beq h15, eq_of_beq h16, eq_of_beq h17]
theorem Ends_j1 (k : Nat) (wide : Bool) (m : Int) (hm : 0 ≤ m ∧ m < 256) (r : Rul) (hr : r.right wide = true) :
    longcaselaw08_PosixEnds.j1 (k + 1) wide m true (Tx (prRule r)) false r.std.off r.std.dst r.std.name r.dst.off r.dst.dst r.dst.name r.both r.st.how r.st.n r.st.week r.st.wday r.st.time r.en.how r.en.n r.en.week r.en.wday r.en.time = some true := by
  have hl := prRule_len wide r hr
  have hmore : ∀ (hb : r.both = true), ¬ (48 ≤ m ∧ m ≤ 57) → m ≠ 58 → m ≠ 47 → (if (Tx (prRule r)).size + (strOfNums [m]).size ≤ 9223372036854775807 then ((posix_Parse.f (Tx (prRule r) ++ strOfNums [m]) wide).bind fun z => if true = true then some (z.2.2.2.2.2.2.2.2.2.2.2.2.2.2.2.2.2 == 4) else some false) else none) = some true := by
    intro hb h1 h2 h3
    have hS : strOfNums [m] = Tx [UInt8.ofNat m.toNat] := rfl
    have hc : (UInt8.ofNat m.toNat).toNat = m.toNat := by rw [UInt8.toNat_ofNat']; omega
    have hd : digB (UInt8.ofNat m.toNat) = false := by unfold digB; rw [hc]; simp; omega
    have hz := tkRule_more wide r hr hb (UInt8.ofNat m.toNat) hd (fun e => h2 (by have := congrArg UInt8.toNat e; rw [hc] at this; have e58 : (58 : UInt8).toNat = 58 := rfl; omega)) (fun e => h3 (by have := congrArg UInt8.toNat e; rw [hc] at this; have e47 : (47 : UInt8).toNat = 47 := rfl; omega))
    rw [hS, Tx_app, if_pos (by rw [Tx_size, Tx_size]; simp; omega), Parse_none (by rw [Tx_size]; simp; omega) (by rw [Tx_list]; exact hz)]
    simp [Rul.tup]
  rw [longcaselaw08_PosixEnds.j1, if_neg (by decide)]
  cases hb : r.both
  · rw [if_neg (by decide)]
  · rw [if_pos rfl]
    have hmo := hmore hb
    simp only [Option.bind_some]
    by_cases h1 : m ≥ 48
    · rw [if_pos h1]
      by_cases h2 : m ≤ 57
      · rw [if_pos h2]
      · rw [if_neg h2]
        by_cases h3 : m = 58
        · rw [if_pos h3]
        · rw [if_neg h3, if_neg (by omega)]
          exact hmo (by omega) h3 (by omega)
    · rw [if_neg h1, if_neg (by omega)]
      by_cases h3 : m = 47
      · rw [if_pos h3]
      · rw [if_neg h3]
        exact hmo (by omega) (by omega) h3
theorem Ends_j0 (k : Nat) (wide : Bool) (at_ m : Int) (hm : 0 ≤ m ∧ m < 256) (r : Rul) (hr : r.right wide = true) :
    longcaselaw08_PosixEnds.j0 (k + 2) wide at_ m true (Tx (prRule r)) 0 false r.std.off r.std.dst r.std.name r.dst.off r.dst.dst r.dst.name r.both r.st.how r.st.n r.st.week r.st.wday r.st.time r.en.how r.en.n r.en.week r.en.wday r.en.time = some true := by
  have hl := prRule_len wide r hr
  have hpos : 0 < (prRule r).length := by
    have h1 := prName_ne r.std.name.data.toList (by
      have := (right_parts r wide hr)
      unfold Rul.right rightB at hr
      simp only [Bool.and_eq_true] at hr
      rw [← namedL_eq]; exact hr.2.1)
    have := List.length_pos_iff.2 h1
    unfold prRule
    rw [List.length_append]
    omega
  have hsz : ((Tx (prRule r)).size : Int) = (prRule r).length := by rw [Tx_size]
  rw [longcaselaw08_PosixEnds.j0, if_neg (by decide), and_65535, hsz]
  have hmod : Int.tmod (at_ % 65536) ((prRule r).length : Int) = (at_ % 65536) % ((prRule r).length : Int) := Int.tmod_eq_emod_of_nonneg (by omega)
  have hlo : 0 ≤ (at_ % 65536) % ((prRule r).length : Int) := Int.emod_nonneg _ (by omega)
  have hhi : (at_ % 65536) % ((prRule r).length : Int) < (prRule r).length := Int.emod_lt_of_pos _ (by omega)
  rw [hmod, if_neg (by omega), if_pos hlo, if_pos (by omega)]
  generalize (at_ % 65536) % ((prRule r).length : Int) = j at hlo hhi
  have hex : (Tx (prRule r)).extract 0 j.toNat = Tx ((prRule r).take j.toNat) := by
    apply ByteArray.ext
    simp
  rw [hex]
  have hcs : (Tx ((prRule r).take j.toNat)).size ≤ 1000 := by rw [Tx_size, List.length_take]; omega
  have hj := Ends_j1 k wide m hm r hr
  cases hx : tkRule wide ((prRule r).take j.toNat) with
  | none =>
    rw [Parse_none hcs (by rw [Tx_list]; exact hx)]
    simp [Rul.tup, hj]
  | some y =>
    rw [Parse_some hcs (by rw [Tx_list]; exact hx)]
    have hsh := tkRule_short hx
    rw [List.length_take] at hsh
    have hne : eqR y r = false := by
      cases hq : eqR y r
      · rfl
      · rw [eqR_eq hq] at hsh; omega
    unfold eqR at hne
    simp only [Option.bind_some, Rul.tup, if_true, hne, hj]
theorem PosixEnds_pure (s0 : Int) (s1 : Bool) (s2 : ByteArray) (d0 : Int) (d1 : Bool) (d2 : ByteArray) (bo : Bool) (a0 : Int) (a1 : Int) (a2 : Int) (a3 : Int) (a4 : Int) (e0 : Int) (e1 : Int) (e2 : Int) (e3 : Int) (e4 : Int) (wide : Bool) (at_ m : Int) (hm : (Lit.int .u8 m).wf = true) : longcaselaw08_PosixEnds.f 2 s0 s1 s2 d0 d1 d2 bo a0 a1 a2 a3 a4 e0 e1 e2 e3 e4 wide at_ m = some true := by
  have hm' : 0 ≤ m ∧ m < 256 := by
    have h1 : IntKind.u8.min = 0 := rfl
    have h2 : IntKind.u8.max = 255 := rfl
    simp [Lit.wf, h1, h2] at hm
    omega
  unfold longcaselaw08_PosixEnds.f longcaselaw08_shown.f
  simp only [Option.bind_some]
  cases hR : rightB s0 s1 s2 d0 d1 d2 bo a0 a1 a2 a3 a4 e0 e1 e2 e3 e4 wide
  · unfold posix_Print.f
    rw [hR]
    simp [longcaselaw08_PosixEnds.j0]
  · have hR' : (⟨⟨s0, s1, s2⟩, ⟨d0, d1, d2⟩, bo, ⟨a0, a1, a2, a3, a4⟩, ⟨e0, e1, e2, e3, e4⟩⟩ : Rul).right wide = true := hR
    have hp := Print_of hR'
    simp only at hp
    have hj := Ends_j0 0 wide at_ m hm' _ hR'
    rw [hp]
    simp only [Option.bind_some, if_true]
    have hne : ((Tx (prRule ⟨⟨s0, s1, s2⟩, ⟨d0, d1, d2⟩, bo, ⟨a0, a1, a2, a3, a4⟩, ⟨e0, e1, e2, e3, e4⟩⟩)).toList == ([] : List UInt8)) = false := by
      rw [ByteArray.toList_eq, Tx_list]
      have h1 := prName_ne s2.data.toList (by
        unfold rightB at hR
        simp only [Bool.and_eq_true] at hR
        rw [← namedL_eq]; exact hR.2.1)
      rw [beq_eq_false_iff_ne]
      intro h
      unfold prRule at h
      exact h1 (List.append_eq_nil_iff.1 h).1
    rw [hne]
    exact hj

theorem PosixEnds_walk (s0 : Int) (s1 : Bool) (s2 : ByteArray) (d0 : Int) (d1 : Bool) (d2 : ByteArray) (bo : Bool) (a0 : Int) (a1 : Int) (a2 : Int) (a3 : Int) (a4 : Int) (e0 : Int) (e1 : Int) (e2 : Int) (e3 : Int) (e4 : Int) (wide : Bool) (at_ m : Int) (hm : (Lit.int .u8 m).wf = true) (w : World) (hG : GL w) :
    Calls Tryd.prog 11 #[.agg #[.int .i64 s0, .bool s1, .string s2, .int .i64 d0, .bool d1, .string d2, .bool bo, .int .i64 a0, .int .i64 a1, .int .i64 a2, .int .i64 a3, .int .i64 a4, .int .i64 e0, .int .i64 e1, .int .i64 e2, .int .i64 e3, .int .i64 e4], .bool wide, .int .i64 at_, .int .u8 m] w fun e w' => e = .returned (.bool true) ∧ Below w.heap.size w w' :=
  longcaselaw08_PosixEnds.calls 2 s0 s1 s2 d0 d1 d2 bo a0 a1 a2 a3 a4 e0 e1 e2 e3 e4 wide at_ m true w hG (PosixEnds_pure s0 s1 s2 d0 d1 d2 bo a0 a1 a2 a3 a4 e0 e1 e2 e3 e4 wide at_ m hm)
end Go.Proofs.YtnbjneknicppcaaDoor.Fn
