/- PosixOffsets, as a plain law. -/
import Derived.Test.YtnbjneknicppcaaDoorKFlongcaselaw08PosixOffsets
import Derived.Test.YtnbjneknicppcaaDoorK1
import Derived.Test.YtnbjneknicppcaaDoorK2
import Derived.Test.YtnbjneknicppcaaDoorK3
import Derived.Test.YtnbjneknicppcaaDoorK4
import Derived.Test.YtnbjneknicppcaaDoorK5
import Derived.Test.YtnbjneknicppcaaDoorK6
import Derived.Test.YtnbjneknicppcaaDoorK7
import Derived.Test.YtnbjneknicppcaaDoorK8
namespace Go.Proofs.YtnbjneknicppcaaDoor.Fn
set_option linter.unusedVariables false
set_option linter.unusedSimpArgs false
open Go.RowKit Go.Proofs.YtnbjneknicppcaaDoorW.PrintWords Go.Proofs.YtnbjneknicppcaaDoorW.PrintLast Go.Proofs.YtnbjneknicppcaaDoorW.PrintMore

theorem tmod_of (a b : Int) (hb : 0 < b) : -b < Int.tmod a b ∧ Int.tmod a b < b := by
  have h2 := Int.tmod_eq_emod (a := a) (b := b)
  have h3 := Int.emod_nonneg a (show b ≠ 0 by omega)
  have h4 := Int.emod_lt_of_pos a hb
  have hn : (b.natAbs : Int) = b := Int.natAbs_of_nonneg (by omega)
  by_cases hd : 0 ≤ a ∨ b ∣ a
  · rw [if_pos hd] at h2; omega
  · rw [if_neg hd, hn] at h2
    have hne : a % b ≠ 0 := fun e => hd (.inr (Int.dvd_of_emod_eq_zero e))
    omega
theorem pair_eq (n : Nat) (h : n < 100) : longcaselaw08_pair.f (n : Int) = some (Tx (two n)) := refTwo_eq n h
theorem tkTwo_app (n : Nat) (t : List UInt8) (h : n < 100) : tkNum 2 (two n ++ t) = some ((n : Int), t) := by
  have hr := run_app digB (two n) 2 t (two_all n h) (by simp [two]) (.inr (by simp [two]))
  have hq := rest_app digB (two n) 2 t (two_all n h) (by simp [two]) (.inr (by simp [two]))
  unfold tkNum
  rw [hr, hq, if_neg (by simp [two])]
  unfold numOf
  rw [two_num n h]
/-- Hours, minutes and seconds, all written. -/
def hms (n : Nat) : List UInt8 := two (n / 3600) ++ (58 :: (two (n / 60 % 60) ++ (58 :: (two (n % 60) ++ []))))
theorem two_head (n : Nat) (t : List UInt8) (h : n < 100) (c : UInt8) (hc : digB c = false) : eats c (two n ++ t) = false := by
  unfold two
  rw [List.cons_append, eats_cons, beq_eq_false_iff_ne]
  rintro rfl
  have := dig1_dig (n / 10) (by omega)
  rw [hc] at this
  cases this
theorem hms_time (sg : List UInt8) (g : Int) (n : Nat) (hn : n ≤ 89999) (h : (sg = [] ∧ g = 1) ∨ (sg = [43] ∧ g = 1) ∨ (sg = [45] ∧ g = -1)) :
    tkTime true false (sg ++ hms n) = some (g * n, []) := by
  have hs : signRest true (sg ++ hms n) = hms n ∧ signOf true (sg ++ hms n) = g := by
    have h45 : eats 45 (hms n) = false := two_head _ _ (by omega) 45 (by decide)
    have h43 : eats 43 (hms n) = false := two_head _ _ (by omega) 43 (by decide)
    rcases h with ⟨rfl, rfl⟩ | ⟨rfl, rfl⟩ | ⟨rfl, rfl⟩
    · unfold signRest signOf
      rw [List.nil_append, h45, h43]
      simp
    · unfold signRest signOf
      simp [eats]
    · unfold signRest signOf
      simp [eats]
  unfold tkTime
  rw [hs.1, hs.2]
  unfold hms
  simp only [Bool.false_eq_true, if_false]
  rw [tkTwo_app _ _ (by omega), Option.bind_some, if_pos (by show ((n / 3600 : Nat) : Int) ≤ 24; omega)]
  simp only [tkSixty_app _ _ (show n / 60 % 60 < 60 by omega), tkSixty_app _ _ (show n % 60 < 60 by omega), Option.bind_some, if_true, Option.some.injEq, Prod.mk.injEq, and_true]
  congr 1
  omega
def ofR (o : Int) : Rul := ⟨⟨o, false, ⟨#[65, 66, 67]⟩⟩, .zero, false, .zero, .zero⟩
theorem of_name : namedB ⟨#[65, 66, 67]⟩ = true := by kernel_rfl
theorem ofR_right (o : Int) (ho : -89999 ≤ o ∧ o ≤ 89999) (wide : Bool) : (ofR o).right wide = true := by
  unfold Rul.right ofR rightB
  have i1 : inB o (-89999) 89999 = true := (inB_iff ..).2 ho
  have he : emptyS.toList = [] := tl8_nil
  simp [of_name, i1, Kd.zero, Chg.zero, he]
theorem ofR_read (sg : List UInt8) (g : Int) (n : Nat) (hn : n ≤ 89999) (h : (sg = [] ∧ g = 1) ∨ (sg = [43] ∧ g = 1) ∨ (sg = [45] ∧ g = -1)) :
    tkRule false ([65, 66, 67] ++ (sg ++ hms n)) = some (ofR (-(g * n))) := by
  have hst : Stop ltrB (sg ++ hms n) := by
    rcases h with ⟨rfl, rfl⟩ | ⟨rfl, rfl⟩ | ⟨rfl, rfl⟩
    · rw [List.nil_append]
      unfold hms two
      rw [List.cons_append]
      refine Stop.cons ?_ _
      unfold ltrB
      rw [dig1_nat _ (by omega)]
      simp
      omega
    · exact Stop.cons (by decide) _
    · exact Stop.cons (by decide) _
  have hw := takeWhile_app ltrB [65, 66, 67] (sg ++ hms n) (by decide) hst
  have hnm : tkName ([65, 66, 67] ++ (sg ++ hms n)) = some ([65, 66, 67], sg ++ hms n) := by
    unfold tkName
    have he : eats 60 ([65, 66, 67] ++ (sg ++ hms n)) = false := rfl
    have h3 : namedL [65, 66, 67] = true := by kernel_rfl
    rw [he, if_neg (by decide), hw, h3, if_pos rfl]
    rfl
  unfold tkRule
  rw [hnm, Option.bind_some, hms_time sg g n hn h, Option.bind_some, if_pos rfl]
  rfl
theorem Offsets_j2 (k : Nat) (o : Int) (sg : List UInt8) (g : Int) (n : Nat) (hn : n ≤ 89999) (h : (sg = [] ∧ g = 1) ∨ (sg = [43] ∧ g = 1) ∨ (sg = [45] ∧ g = -1)) (ho : o = -(g * n)) :
    longcaselaw08_PosixOffsets.j2 (k + 1) true (n : Int) (Tx ([65, 66, 67] ++ sg)) o false (⟨#[65, 66, 67]⟩ : ByteArray) 0 false (⟨#[]⟩ : ByteArray) false 0 0 0 0 0 0 0 0 0 0 = some true := by
  have hob : -89999 ≤ o ∧ o ≤ 89999 := by rcases h with ⟨_, rfl⟩ | ⟨_, rfl⟩ | ⟨_, rfl⟩ <;> omega
  have hsl : sg.length ≤ 1 := by rcases h with ⟨rfl, _⟩ | ⟨rfl, _⟩ | ⟨rfl, _⟩ <;> simp
  have e1 : wrap64 (Int.tdiv (n : Int) 3600) = ((n / 3600 : Nat) : Int) := by rw [Int.tdiv_eq_ediv_of_nonneg (by omega), w64 ⟨by omega, by omega⟩]; omega
  have e3 : Int.tmod (n : Int) 60 = ((n % 60 : Nat) : Int) := by rw [Int.tmod_eq_emod_of_nonneg (by omega)]; omega
  have e4 : Int.tmod (wrap64 (Int.tdiv (n : Int) 60)) 60 = ((n / 60 % 60 : Nat) : Int) := by rw [Int.tdiv_eq_ediv_of_nonneg (by omega), w64 ⟨by omega, by omega⟩, Int.tmod_eq_emod_of_nonneg (by omega)]; omega
  have hrd := ofR_read sg g n hn h
  rw [← ho] at hrd
  have hsh := tkRule_short hrd
  have q1 : posix_Print.f o false (⟨#[65, 66, 67]⟩ : ByteArray) 0 false (⟨#[]⟩ : ByteArray) false 0 0 0 0 0 0 0 0 0 0 false = some (Tx (prRule (ofR o)), 0) := Print_of (ofR_right o hob false)
  have q2 := Parse_pr (ofR_right o hob true)
  have hlist : [65, 66, 67] ++ sg ++ two (n / 3600) ++ [58] ++ two (n / 60 % 60) ++ [58] ++ two (n % 60) = [65, 66, 67] ++ (sg ++ hms n) := by unfold hms; simp
  have q3 : posix_Parse.f (Tx ([65, 66, 67] ++ (sg ++ hms n))) false = some ((ofR o).tup 0) := Parse_some (by rw [Tx_size]; unfold hms two; simp; omega) (by rw [Tx_list]; exact hrd)
  have hp := pr_size (ofR_right o hob true)
  rw [longcaselaw08_PosixOffsets.j2, e1, e3, e4, pair_eq _ (by omega), pair_eq _ (by omega), pair_eq _ (by omega), q1]
  have c1 : (⟨#[58]⟩ : ByteArray) = Tx [58] := rfl
  simp only [c1, Tx_app, Option.bind_some, hlist, q2, q3]
  rw [if_pos (by rw [Tx_size, Tx_size]; simp [two]; omega), if_pos (by rw [Tx_size]; simp [two]; omega), if_pos (by rw [Tx_size, Tx_size]; simp [two]; omega), if_pos (by rw [Tx_size]; simp [two]; omega), if_pos (by rw [Tx_size, Tx_size]; simp [two]; omega)]
  have hle : ((Tx (prRule (ofR o))).size : Int) ≤ ((Tx ([65, 66, 67] ++ (sg ++ hms n))).size : Int) := by rw [Tx_size, Tx_size]; omega
  generalize Tx (prRule (ofR o)) = P at hle ⊢
  simp [Rul.tup, ofR, Kd.zero, Chg.zero]
  simpa using hle
theorem PosixOffsets_pure (a : Int) (plus : Bool) : longcaselaw08_PosixOffsets.f 5 a plus = some true := by
  have ho := tmod_of a 90000 (by decide)
  unfold longcaselaw08_PosixOffsets.f longcaselaw08_shown.f
  simp only [Option.bind_some]
  generalize Int.tmod a 90000 = o at ho
  have hc : (⟨#[65, 66, 67]⟩ : ByteArray) = Tx [65, 66, 67] := rfl
  have hz : (⟨#[]⟩ : ByteArray) = Tx [] := rfl
  have hm : (⟨#[45]⟩ : ByteArray) = Tx [45] := rfl
  have hp : (⟨#[43]⟩ : ByteArray) = Tx [43] := rfl
  by_cases h : o ≤ 0
  · rw [if_pos h, w64 ⟨by omega, by omega⟩, longcaselaw08_PosixOffsets.j0, if_pos (by decide), if_pos tl8_nil, longcaselaw08_PosixOffsets.j1]
    have hn : -o = ((-o).toNat : Int) := by omega
    have hcat0 : (⟨#[65, 66, 67]⟩ : ByteArray) ++ (⟨#[]⟩ : ByteArray) = Tx ([65, 66, 67] ++ []) := by rw [hc, hz, Tx_app]
    have hcat1 : (⟨#[65, 66, 67]⟩ : ByteArray) ++ (⟨#[]⟩ : ByteArray) ++ (⟨#[43]⟩ : ByteArray) = Tx ([65, 66, 67] ++ [43]) := by rw [hc, hz, hp, Tx_app, Tx_app]; rfl
    rw [hcat1, hcat0, hn]
    cases plus
    · rw [if_neg (by decide)]
      exact Offsets_j2 2 o [] 1 _ (by omega) (.inl ⟨rfl, rfl⟩) (by omega)
    · rw [if_pos rfl, if_pos (by rw [Tx_size]; decide)]
      exact Offsets_j2 2 o [43] 1 _ (by omega) (.inr (.inl ⟨rfl, rfl⟩)) (by omega)
  · have hne : ¬ (⟨#[45]⟩ : ByteArray).toList = [] := by rw [ByteArray.toList_eq]; decide
    have hn : o = (o.toNat : Int) := by omega
    have hcat : (⟨#[65, 66, 67]⟩ : ByteArray) ++ (⟨#[45]⟩ : ByteArray) = Tx ([65, 66, 67] ++ [45]) := by rw [hc, hm, Tx_app]
    rw [if_neg h, longcaselaw08_PosixOffsets.j0, if_pos (by decide), if_neg hne, longcaselaw08_PosixOffsets.j1, if_neg (by decide), hcat]
    have := Offsets_j2 2 o [45] (-1) o.toNat (by omega) (.inr (.inr ⟨rfl, rfl⟩)) (by omega)
    rw [← hn] at this
    exact this

theorem PosixOffsets_walk (a : Int) (plus : Bool) (w : World) (hG : GL w) :
    Calls Tryd.prog 7 #[.int .i64 a, .bool plus] w fun e w' => e = .returned (.bool true) ∧ Below w.heap.size w w' :=
  longcaselaw08_PosixOffsets.calls 5 a plus true w hG (PosixOffsets_pure a plus)
end Go.Proofs.YtnbjneknicppcaaDoor.Fn
