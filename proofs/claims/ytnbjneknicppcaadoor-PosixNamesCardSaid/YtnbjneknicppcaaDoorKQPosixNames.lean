/- PosixNames, as a plain law. -/
import Derived.Test.YtnbjneknicppcaaDoorKFlongcaselaw08PosixNames
import Derived.Test.YtnbjneknicppcaaDoorK1
import Derived.Test.YtnbjneknicppcaaDoorK2
import Derived.Test.YtnbjneknicppcaaDoorK3
import Derived.Test.YtnbjneknicppcaaDoorK4
import Derived.Test.YtnbjneknicppcaaDoorK5
import Derived.Test.YtnbjneknicppcaaDoorK6
import Derived.Test.YtnbjneknicppcaaDoorK7
import Derived.Test.YtnbjneknicppcaaDoorK8
namespace Go.Proofs.YtnbjneknicppcaaDoor.Fn
set_option linter.unusedVariables false
set_option linter.unusedSimpArgs false
open Go.RowKit Go.Proofs.YtnbjneknicppcaaDoorW.PrintWords Go.Proofs.YtnbjneknicppcaaDoorW.PrintLast Go.Proofs.YtnbjneknicppcaaDoorW.PrintMore

def nmB (c : Int) : Bool := letB c || inB c 48 57 || c == 43 || c == 45
theorem Names_step (k : Nat) (s : ByteArray) (h x4 x5 : Bool) (i : Int) (h0 : 0 ≤ i) (hi : i < s.size) :
    longcaselaw08_PosixNames.l0 (k + 1) s h x4 x5 i = longcaselaw08_PosixNames.l0 k s h (x4 && letB (bt s i)) (x5 && nmB (bt s i)) (wrap64 (i + 1)) := by
  rw [longcaselaw08_PosixNames.l0, if_pos hi, if_pos h0]
  generalize bt s i = c
  generalize wrap64 (i + 1) = j
  unfold nmB letB inB
  by_cases h1 : 97 ≤ c <;> by_cases h2 : c ≤ 122 <;> by_cases h3 : 65 ≤ c <;> by_cases h4 : c ≤ 90 <;> (try omega) <;> cases x4 <;> cases x5 <;> simp [h1, h2, h3, h4] <;> (try omega) <;>
    (by_cases h5 : 48 ≤ c <;> by_cases h6 : c ≤ 57 <;> (try omega) <;> simp [h5, h6] <;> (try omega) <;> (by_cases h7 : c = 43 <;> (try omega) <;> (try simp [h7]) <;> (try omega) <;> (try rw [beq_eq_false_iff_ne.2 h7, Bool.false_or])))
theorem Names_loop (s : ByteArray) (hs : s.size ≤ 30) (h : Bool) : ∀ (d k i : Nat) (x4 x5 : Bool), s.size - i ≤ d → i ≤ s.size →
    longcaselaw08_PosixNames.l0 (k + d + 1) s h x4 x5 i = longcaselaw08_PosixNames.l0 (k + d + 1 - (s.size - i)) s h (x4 && (s.data.toList.drop i).all ltrB) (x5 && (s.data.toList.drop i).all fun c => inSet c.toNat) s.size
  | d, k, i, x4, x5, hd, hi => by
    by_cases h' : i < s.size
    · obtain ⟨d, rfl⟩ : ∃ e, d = e + 1 := ⟨d - 1, by omega⟩
      have hb : bt s i = (((s[i]'h').toNat : Nat) : Int) := (bt_at s i (by simpa using h')).symm
      have hl : letB (((s[i]'h').toNat : Nat) : Int) = ltrB (s[i]'h') := by unfold letB ltrB; rw [Bool.eq_iff_iff]; simp; omega
      have hn : nmB (((s[i]'h').toNat : Nat) : Int) = inSet (s[i]'h').toNat := by
        have := inSet_int (((s[i]'h').toNat : Nat) : Int) (by omega)
        rw [Int.toNat_natCast] at this
        rw [this]; rfl
      have hw : wrap64 ((i : Int) + 1) = ((i + 1 : Nat) : Int) := by rw [w64 ⟨by omega, by omega⟩]; omega
      rw [Names_step _ _ _ _ _ _ (by omega) (by omega), hw, show k + (d + 1) = k + d + 1 by omega, Names_loop s hs h d k (i + 1) _ _ (by omega) (by omega), hb, hl, hn, all_drop ltrB s i h', all_drop (fun c => inSet c.toNat) s i h', Bool.and_assoc, Bool.and_assoc, show k + d + 1 - (s.size - (i + 1)) = k + d + 1 + 1 - (s.size - i) by omega]
    · have hz : i = s.size := by omega
      subst hz
      rw [List.drop_of_length_le (by simp)]
      simp
def nmR (s : ByteArray) : Rul := ⟨⟨0, false, s⟩, .zero, false, .zero, .zero⟩
theorem nmR_right (s : ByteArray) (wide : Bool) : (nmR s).right wide = namedB s := by
  unfold Rul.right nmR rightB
  have i1 : inB 0 (-89999) 89999 = true := by decide
  have he : emptyS.toList = [] := tl8_nil
  cases namedB s <;> simp [i1, Kd.zero, Chg.zero, he]
theorem nmR_pr (s : ByteArray) : prRule (nmR s) = prName s.data.toList ++ [48] := by
  unfold prRule nmR
  simp [prTime, dec3, dig1]
theorem Names_end (k : Nat) (s : ByteArray) (hs : s.size ≤ 30) (x4 x5 : Bool) (h4 : x4 = s.data.toList.all ltrB) (h5 : x5 = namedB s) :
    longcaselaw08_PosixNames.l0 (k + 4) s true x4 x5 s.size = some true := by
  have q : posix_Print.f 0 false s 0 false (⟨#[]⟩ : ByteArray) false 0 0 0 0 0 0 0 0 0 0 false = some (if (nmR s).right false = true then (Tx (prRule (nmR s)), 0) else (emptyS, 1)) := rfl
  have q2 : posix_Right.f (k + 3) 0 false s 0 false (⟨#[]⟩ : ByteArray) false 0 0 0 0 0 0 0 0 0 0 true = some ((nmR s).right true) := rightR_eq k ..
  rw [longcaselaw08_PosixNames.l0, if_neg (by omega), q, q2, nmR_right, nmR_right, h4, h5, nmR_pr]
  simp only [Option.bind_some]
  have he : emptyS.toList = [] := tl8_nil
  have hsz : s.data.toList.length = s.size := Array.length_toList ..
  have hT := Tx_of s
  cases hn : namedB s
  · simp [longcaselaw08_PosixNames.j2, he]
  · unfold prName
    generalize s.data.toList = l at hT hsz
    subst hT
    have c1 : (⟨#[48]⟩ : ByteArray) = Tx [48] := rfl
    have c2 : (⟨#[60]⟩ : ByteArray) = Tx [60] := rfl
    have c3 : (⟨#[62, 48]⟩ : ByteArray) = Tx [62, 48] := rfl
    rw [Tx_size] at hs
    cases hp : l.all ltrB
    · have s1 : 1 + (Tx l).size ≤ 9223372036854775807 := by rw [Tx_size]; omega
      have s2 : (Tx [60] ++ Tx l).size + 2 ≤ 9223372036854775807 := by rw [Tx_app, Tx_size]; simp; omega
      simp only [longcaselaw08_PosixNames.j2, c2, c3, if_pos s1, if_pos s2, if_true]
      simp [Tx_app]
    · have s1 : (Tx l).size + 1 ≤ 9223372036854775807 := by rw [Tx_size]; omega
      simp only [longcaselaw08_PosixNames.j2, c1, if_pos s1, if_true]
      simp [Tx_app]
theorem PosixNames_pure (s : ByteArray) : longcaselaw08_PosixNames.f 40 s = some true := by
  unfold longcaselaw08_PosixNames.f longcaselaw08_shown.f
  simp only [Option.bind_some]
  have h1 := cut_ok s 30
  have h2 := cut_size s 30
  rw [show ((30 : Nat) : Int) = 30 from rfl] at h1 h2
  rw [if_pos h1.1, if_pos h1.2]
  generalize s.extract 0 (mn (s.size : Int) 30).toNat = s at h2
  have hj : ∀ b, b = (decide (3 ≤ s.size) && decide (s.size ≤ 20)) → longcaselaw08_PosixNames.j0 40 s true true b = some true := by
    intro b hb
    rw [longcaselaw08_PosixNames.j0]
    have := Names_loop s h2 true 30 8 0 true b (by omega) (by omega)
    rw [show ((0 : Nat) : Int) = 0 from rfl] at this
    rw [show 39 = 8 + 30 + 1 from rfl, this]
    obtain ⟨k, hk⟩ : ∃ k, 8 + 30 + 1 - (s.size - 0) = k + 4 := ⟨35 - s.size, by omega⟩
    rw [hk]
    refine Names_end k s h2 _ _ (by simp) ?_
    rw [hb]
    unfold namedB
    simp
  by_cases h3 : ((s.size : Int) ≥ 3)
  · rw [if_pos h3]
    refine hj _ ?_
    rw [decide_eq_true (show 3 ≤ s.size by omega), Bool.true_and, decide_eq_decide]
    omega
  · rw [if_neg h3]
    refine hj _ ?_
    rw [decide_eq_false (show ¬ 3 ≤ s.size by omega), Bool.false_and]

theorem PosixNames_walk (s : ByteArray) (w : World) (hG : GL w) :
    Calls Tryd.prog 9 #[.string s] w fun e w' => e = .returned (.bool true) ∧ Below w.heap.size w w' :=
  longcaselaw08_PosixNames.calls 40 s true w hG (PosixNames_pure s)
end Go.Proofs.YtnbjneknicppcaaDoor.Fn
