/- PosixSaved, as a plain law. -/
import Derived.Test.YtnbjneknicppcaaDoorK5
import Derived.Test.YtnbjneknicppcaaDoorK8
import Derived.Test.YtnbjneknicppcaaDoorKFlongcaselaw08PosixSaved
namespace Go.Proofs.YtnbjneknicppcaaDoor.Fn
set_option linter.unusedVariables false
set_option linter.unusedSimpArgs false
open Go.RowKit Go.Proofs.YtnbjneknicppcaaDoorW.PrintWords Go.Proofs.YtnbjneknicppcaaDoorW.PrintLast Go.Proofs.YtnbjneknicppcaaDoorW.PrintMore

theorem tmod_in (a b : Int) (hb : 0 < b) : -b < Int.tmod a b ∧ Int.tmod a b < b := by
  have h2 := Int.tmod_eq_emod (a := a) (b := b)
  have h3 := Int.emod_nonneg a (show b ≠ 0 by omega)
  have h4 := Int.emod_lt_of_pos a hb
  have hn : (b.natAbs : Int) = b := Int.natAbs_of_nonneg (by omega)
  by_cases hd : 0 ≤ a ∨ b ∣ a
  · rw [if_pos hd] at h2; omega
  · rw [if_neg hd, hn] at h2
    have hne : a % b ≠ 0 := fun e => hd (.inr (Int.dvd_of_emod_eq_zero e))
    omega
theorem tl_len (s : ByteArray) : s.toList.length = s.size := by
  have := tl8_len s s.size 0 [] rfl
  unfold ByteArray.toList
  simpa using this
def svR (o p : Int) : Rul := ⟨⟨o, false, ⟨#[65, 65, 65]⟩⟩, ⟨p, true, ⟨#[66, 66, 66]⟩⟩, true, ⟨2, 0, 0, 0, 7200⟩, ⟨2, 0, 0, 0, 7200⟩⟩
def svA (o : Int) : Rul := ⟨⟨o, false, ⟨#[65, 65, 65]⟩⟩, .zero, false, .zero, .zero⟩
theorem sv_name1 : namedB ⟨#[65, 65, 65]⟩ = true := by kernel_rfl
theorem sv_name2 : namedB ⟨#[66, 66, 66]⟩ = true := by kernel_rfl
theorem svR_right (o p : Int) (ho : -89999 ≤ o ∧ o ≤ 89999) (hp : -89999 ≤ p ∧ p ≤ 89999) : (svR o p).right false = true := by
  unfold Rul.right svR rightB
  have i1 : inB o (-89999) 89999 = true := (inB_iff ..).2 ho
  have i2 : inB p (-89999) 89999 = true := (inB_iff ..).2 hp
  have i3 : chgB 2 0 0 0 7200 false = true := by decide
  simp [sv_name1, sv_name2, i1, i2, i3]
theorem svA_right (o : Int) (ho : -89999 ≤ o ∧ o ≤ 89999) : (svA o).right false = true := by
  unfold Rul.right svA rightB
  have i1 : inB o (-89999) 89999 = true := (inB_iff ..).2 ho
  have he : emptyS.toList = [] := tl8_nil
  simp [sv_name1, i1, Kd.zero, Chg.zero, he]
theorem prTime_pos (n : Int) : 1 ≤ (prTime n).length := by
  have := List.length_pos_iff.2 (dec3_ne (n.natAbs / 3600))
  unfold prTime
  simp only [List.length_append]
  omega
theorem svA_pr (o : Int) : prRule (svA o) = [65, 65, 65] ++ prTime (-o) := by
  unfold prRule svA
  simp [prName, ltrB]
theorem svR_pr (o p : Int) : prRule (svR o p) = [65, 65, 65] ++ (prTime (-o) ++ ([66, 66, 66] ++ ((if p ≠ o + 3600 then prTime (-p) else []) ++ [44, 48, 44, 48]))) := by
  unfold prRule svR
  simp [prName, ltrB, prChg, prDay, dec3, dig1]
theorem PosixSaved_pure (a b : Int) : longcaselaw08_PosixSaved.f a b = some true := by
  unfold longcaselaw08_PosixSaved.f longcaselaw08_shown.f
  have ho := tmod_in a 80001 (by decide)
  have hp := tmod_in b 80001 (by decide)
  generalize Int.tmod a 80001 = o at ho
  generalize Int.tmod b 80001 = p at hp
  rw [w64 (a := o + 3600) ⟨by omega, by omega⟩]
  have q1 : posix_Print.f o false (⟨#[65, 65, 65]⟩ : ByteArray) 0 false (⟨#[]⟩ : ByteArray) false 0 0 0 0 0 0 0 0 0 0 false = some (Tx (prRule (svA o)), 0) := Print_of (svA_right o (by omega))
  have q2 : posix_Print.f o false (⟨#[65, 65, 65]⟩ : ByteArray) (o + 3600) true (⟨#[66, 66, 66]⟩ : ByteArray) true 2 0 0 0 7200 2 0 0 0 7200 false = some (Tx (prRule (svR o (o + 3600))), 0) := Print_of (svR_right o (o + 3600) (by omega) (by omega))
  have q3 : posix_Print.f o false (⟨#[65, 65, 65]⟩ : ByteArray) p true (⟨#[66, 66, 66]⟩ : ByteArray) true 2 0 0 0 7200 2 0 0 0 7200 false = some (Tx (prRule (svR o p)), 0) := Print_of (svR_right o p (by omega) (by omega))
  rw [q1, q2, q3]
  simp only [Option.bind_some, if_true]
  rw [svA_pr, svR_pr, svR_pr]
  have hl : (prTime (-o)).length ≤ 10 := prTime_len4 _ 3 (dec3_len3 _)
  have hl2 := prTime_pos (-p)
  have hsz : (Tx ([65, 65, 65] ++ prTime (-o))).size + 7 ≤ 9223372036854775807 := by rw [Tx_size]; simp; omega
  have hnn : ¬ (o + 3600 ≠ o + 3600) := fun h => h rfl
  rw [if_pos hsz, if_neg hnn]
  have hcat : Tx ([65, 65, 65] ++ prTime (-o)) ++ (⟨#[66, 66, 66, 44, 48, 44, 48]⟩ : ByteArray) = Tx ([65, 65, 65] ++ (prTime (-o) ++ ([66, 66, 66] ++ ([] ++ [44, 48, 44, 48])))) := by
    have : (⟨#[66, 66, 66, 44, 48, 44, 48]⟩ : ByteArray) = Tx [66, 66, 66, 44, 48, 44, 48] := rfl
    rw [this, Tx_app]
    simp
  rw [hcat, if_pos rfl]
  by_cases he : p = o + 3600
  · rw [he, if_neg hnn]
    simp
  · rw [if_pos he]
    have hne : ¬ (Tx ([65, 65, 65] ++ (prTime (-o) ++ ([66, 66, 66] ++ (prTime (-p) ++ [44, 48, 44, 48]))))).toList = (Tx ([65, 65, 65] ++ (prTime (-o) ++ ([66, 66, 66] ++ ([] ++ [44, 48, 44, 48]))))).toList := by
      intro h
      have := congrArg List.length h
      rw [tl_len, tl_len, Tx_size, Tx_size] at this
      simp only [List.length_append, List.length_cons, List.length_nil] at this
      omega
    have e1 : ((Tx ([65, 65, 65] ++ (prTime (-o) ++ ([66, 66, 66] ++ (prTime (-p) ++ [44, 48, 44, 48]))))).toList == (Tx ([65, 65, 65] ++ (prTime (-o) ++ ([66, 66, 66] ++ ([] ++ [44, 48, 44, 48]))))).toList) = false := beq_eq_false_iff_ne.2 hne
    have e2 : (p == o + 3600) = false := beq_eq_false_iff_ne.2 he
    rw [e1, e2, if_neg he, Tx_size, Tx_size]
    simp
    omega

theorem PosixSaved_walk (a b : Int) (w : World) (hG : GL w) :
    Calls Tryd.prog 12 #[.int .i64 a, .int .i64 b] w fun e w' => e = .returned (.bool true) ∧ Below w.heap.size w w' :=
  longcaselaw08_PosixSaved.calls a b true w hG (PosixSaved_pure a b)
end Go.Proofs.YtnbjneknicppcaaDoor.Fn
