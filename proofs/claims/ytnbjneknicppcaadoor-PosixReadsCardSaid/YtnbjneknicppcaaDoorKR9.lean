/- Part 9 of the texts for KTR: contracts and plain laws that it leans on. -/
import Derived.Test.YtnbjneknicppcaaDoorKR6
import Derived.Test.YtnbjneknicppcaaDoorKR5
import Derived.Test.YtnbjneknicppcaaDoorKR7
import Derived.Test.YtnbjneknicppcaaDoorKR8
namespace Go.Proofs.YtnbjneknicppcaaDoor.Fn
set_option linter.unusedVariables false
set_option linter.unusedSimpArgs false
open Go.RowKit Go.Proofs.YtnbjneknicppcaaDoorW.PrintWords Go.Proofs.YtnbjneknicppcaaDoorW.PrintLast Go.Proofs.YtnbjneknicppcaaDoorW.PrintMore
structure Rest (s : ByteArray) (i : Int) (l : List UInt8) : Prop where
  suf : l <:+ s.data.toList
  pos : i = (s.size : Int) - l.length
theorem Rest.len {s : ByteArray} {i : Int} {l : List UInt8} (h : Rest s i l) : l.length ≤ s.size := by
  have := h.suf.length_le; simpa using this
theorem Rest.nn {s : ByteArray} {i : Int} {l : List UInt8} (h : Rest s i l) : 0 ≤ i := by have := h.len; have := h.pos; omega
theorem Rest.tail {s : ByteArray} {i : Int} {c : UInt8} {t : List UInt8} (h : Rest s i (c :: t)) : Rest s (i + 1) t :=
  ⟨(List.suffix_cons c t).trans h.suf, by have := h.pos; simp at this ⊢; omega⟩
theorem Rest.lt {s : ByteArray} {i : Int} {c : UInt8} {t : List UInt8} (h : Rest s i (c :: t)) : i < s.size := by have := h.pos; simp at this; omega
theorem Rest.end_ {s : ByteArray} {i : Int} (h : Rest s i []) : i = s.size := by have := h.pos; simpa using this
theorem Rest.bt {s : ByteArray} {i : Int} {c : UInt8} {t : List UInt8} (h : Rest s i (c :: t)) : bt s i = (c.toNat : Int) := by
  obtain ⟨u, hu⟩ := h.suf
  have hl : s.data.toList.length = u.length + (t.length + 1) := by rw [← hu]; simp
  have hs : s.data.toList.length = s.size := Array.length_toList ..
  have hp := h.pos
  simp at hp
  have hi : i.toNat = u.length := by omega
  have hlt : i.toNat < s.size := by omega
  rw [← bt_at s i hlt]
  have e : s.data.toList[i.toNat]? = some c := by rw [hi, ← hu]; simp
  have e2 : s.data.toList[i.toNat]? = some (s[i.toNat]'hlt) := by rw [List.getElem?_eq_getElem (by simpa using hlt)]; rfl
  rw [Option.some.inj (e2.symm.trans e)]
theorem Rest.of_suf {s : ByteArray} {i : Int} {l l' : List UInt8} (h : Rest s i l) (hs : l' <:+ l) : Rest s ((s.size : Int) - l'.length) l' := ⟨hs.trans h.suf, rfl⟩
theorem Rest.extract {s : ByteArray} {i : Int} {l : List UInt8} (h : Rest s i l) (n : Nat) (hn : n ≤ l.length) : s.extract i.toNat (i + n).toNat = Tx (l.take n) := by
  obtain ⟨u, hu⟩ := h.suf
  have hl : s.data.toList.length = u.length + l.length := by rw [← hu]; simp
  have hs : s.data.toList.length = s.size := Array.length_toList ..
  have hp := h.pos
  have hi : i.toNat = u.length := by omega
  have hj : (i + n).toNat = u.length + n := by omega
  rw [hi, hj]
  apply ByteArray.ext
  rw [ByteArray.data_extract]
  apply Array.toList_inj.1
  rw [Array.toList_extract, ← hu]
  simp [List.extract_eq_take_drop]
theorem inB_dig (c : UInt8) : inB (c.toNat : Int) 48 57 = digB c := by unfold inB digB; rw [Bool.eq_iff_iff]; simp; omega
theorem letB_ltr (c : UInt8) : letB (c.toNat : Int) = ltrB c := by unfold letB ltrB; rw [Bool.eq_iff_iff]; simp; omega
theorem refDigits_l0 (s : ByteArray) (hs : s.size ≤ 1000) (frm most : Int) (h0 : 0 ≤ frm) (hf : frm ≤ 1000) (hm : 0 ≤ most ∧ most ≤ 3) : ∀ (m k acc : Nat) (i : Int) (l : List UInt8), Rest s i l → frm ≤ i → i + m = frm + most → (acc + 1) * 10 ^ m ≤ 1000 →
    longcaseref08_digits.l0 (k + m + 1) s i most acc frm =
      some (if i + (runOf digB m l).length = frm then (0, -1) else ((((runOf digB m l).foldl (fun n c => n * 10 + (c.toNat - 48)) acc : Nat) : Int), i + (runOf digB m l).length)) := by
  intro m
  induction m with
  | zero =>
    intro k acc i l hr hi hw hb
    have hz : runOf digB 0 l = [] := rfl
    have hn := hr.nn
    have hlen := hr.pos
    rw [longcaseref08_digits.l0, hz]
    have hx : ¬ i < wrap64 (frm + most) := by rw [w64 ⟨by omega, by omega⟩]; omega
    by_cases hlt : i < (s.size : Int)
    · rw [if_pos hlt, if_neg hx]
      by_cases he : i = frm
      · rw [if_pos he, if_pos (by simpa using he)]
      · rw [if_neg he, if_neg (by simpa using he)]; simp
    · rw [if_neg hlt]
      by_cases he : i = frm
      · rw [if_pos he, if_pos (by simpa using he)]
      · rw [if_neg he, if_neg (by simpa using he)]; simp
  | succ m ih =>
    intro k acc i l hr hi hw hb
    have hn := hr.nn
    have hlen := hr.len
    cases l with
    | nil =>
      have := hr.end_
      rw [longcaseref08_digits.l0, if_neg (by omega), runOf_nil]
      by_cases he : i = frm
      · rw [if_pos he, if_pos (by simpa using he)]
      · rw [if_neg he, if_neg (by simpa using he)]; simp
    | cons c t =>
      have hlt := hr.lt
      rw [longcaseref08_digits.l0, if_pos hlt, if_pos (by rw [w64 ⟨by omega, by omega⟩]; omega), if_pos hn, refDigit_eq, hr.bt, inB_dig, runOf_cons]
      simp only [Option.bind_some]
      cases hd : digB c
      · simp only [Bool.false_eq_true, if_false]
        by_cases he : i = frm
        · rw [if_pos he, if_pos (by simpa using he)]
        · rw [if_neg he, if_neg (by simpa using he)]; simp
      · rw [if_pos rfl, if_pos rfl]
        have hc : 48 ≤ c.toNat ∧ c.toNat ≤ 57 := by simpa [digB] using hd
        have hacc : acc + 1 ≤ 1000 := by
          have : 1 ≤ 10 ^ (m + 1) := Nat.one_le_pow _ _ (by decide)
          calc acc + 1 = (acc + 1) * 1 := by omega
            _ ≤ (acc + 1) * 10 ^ (m + 1) := Nat.mul_le_mul_left _ this
            _ ≤ 1000 := hb
        have e1 : wrap64 ((acc : Int) * 10) = ((acc * 10 : Nat) : Int) := by rw [w64 ⟨by omega, by omega⟩]; omega
        have e2 : wrap64 (wrap64 ((acc : Int) * 10) + ((c.toNat : Int) - 48) % 256) = ((acc * 10 + (c.toNat - 48) : Nat) : Int) := by
          rw [e1, w64 ⟨by omega, by omega⟩]; omega
        rw [e2, w64 ⟨by omega, by omega⟩, show k + (m + 1) = k + m + 1 by omega,
          ih k (acc * 10 + (c.toNat - 48)) (i + 1) t hr.tail (by omega) (by omega) (by
            have : (acc * 10 + (c.toNat - 48) + 1) * 10 ^ m ≤ ((acc + 1) * 10) * 10 ^ m := Nat.mul_le_mul_right _ (by omega)
            have e : ((acc + 1) * 10) * 10 ^ m = (acc + 1) * 10 ^ (m + 1) := by rw [Nat.pow_succ, Nat.mul_assoc, Nat.mul_comm 10]
            omega)]
        have hge : 0 ≤ ((runOf digB m t).length : Int) := Int.natCast_nonneg _
        rw [if_neg (by omega), if_neg (by rw [List.length_cons]; omega), List.foldl_cons, List.length_cons]
        congr 2
        omega
def encN (s : ByteArray) : Option (Int × List UInt8) → Int × Int
  | some (n, l) => (n, (s.size : Int) - l.length)
  | none => (0, -1)
theorem tkNum_suf {m : Nat} {l l' : List UInt8} {n : Int} (h : tkNum m l = some (n, l')) : l' <:+ l := by
  unfold tkNum at h
  split at h
  · cases h
  · cases h; exact List.drop_suffix _ _
theorem refDigits_eq (s : ByteArray) (hs : s.size ≤ 1000) (k most : Nat) (hm : most ≤ 3) (i : Int) (l : List UInt8) (hr : Rest s i l) : longcaseref08_digits.f (k + 4) s i most = some (encN s (tkNum most l)) := by
  have hn := hr.nn
  have hp := hr.pos
  have := refDigits_l0 s hs i most hn (by have := hr.len; omega) ⟨by omega, by omega⟩ most (k + 3 - most) 0 i l hr (by omega) rfl (by
    have : 10 ^ most ≤ 10 ^ 3 := Nat.pow_le_pow_right (by decide) hm
    omega)
  unfold longcaseref08_digits.f
  rw [show k + 3 - most + most + 1 = k + 4 by omega] at this
  rw [show ((0 : Nat) : Int) = 0 from rfl] at this
  rw [this]
  unfold tkNum
  by_cases he : runOf digB most l = []
  · rw [if_pos he, he, if_pos (by simp)]; rfl
  · rw [if_neg he, if_neg (by have := List.length_pos_iff.2 he; omega)]
    unfold encN numOf numN
    have h2 := run_rest digB most l
    simp only [Option.some.injEq, Prod.mk.injEq, true_and]
    omega
theorem eats_split {c : UInt8} {l : List UInt8} (h : eats c l = true) : ∃ t, l = c :: t := by
  cases l with
  | nil => cases h
  | cons x t => rw [eats_cons] at h; exact ⟨t, by rw [eq_of_beq h]⟩
def encS (s : ByteArray) : Option (Int × Bool × List UInt8) → Int × Int
  | some (n, true, l) => (n, (s.size : Int) - l.length)
  | _ => (0, -1)
theorem tkSixty_suf {l l' : List UInt8} {n : Int} {b : Bool} (h : tkSixty l = some (n, b, l')) : l' <:+ l := by
  unfold tkSixty at h
  split at h
  · split at h
    · split at h
      · cases h; exact (List.drop_suffix _ _).trans (List.tail_suffix _)
      · cases h
    · cases h
  · cases h; exact List.suffix_refl _
theorem refSixty_eq (s : ByteArray) (hs : s.size ≤ 1000) (k : Nat) (i : Int) (t : List UInt8) (hr : Rest s i (58 :: t)) : longcaseref08_sixty.f (k + 5) s i = some (encS s (tkSixty (58 :: t))) := by
  have hn := hr.nn
  have hp := hr.pos
  have hl := hr.len
  rw [List.length_cons] at hp hl
  unfold longcaseref08_sixty.f tkSixty
  have e58 : eats 58 (58 :: t) = true := rfl
  rw [e58, if_pos rfl, List.tail_cons, w64 ⟨by omega, by omega⟩]
  by_cases hsz : i + 2 ≥ (s.size : Int)
  · rw [if_pos hsz, longcaseref08_sixty.j0, if_pos rfl]
    have : (runOf digB 2 t).length ≠ 2 := by have := run_len2 digB 2 t; omega
    rw [if_neg this]
    rfl
  · rw [if_neg hsz, if_pos hn, if_pos hr.lt, longcaseref08_sixty.j0, hr.bt]
    rw [if_neg (by decide), w64 ⟨by omega, by omega⟩, show (2 : Int) = ((2 : Nat) : Int) from rfl, refDigits_eq s hs k 2 (by decide) (i + 1) t hr.tail, w64 ⟨by omega, by omega⟩]
    simp only [Option.bind_some]
    unfold tkNum
    by_cases he : runOf digB 2 t = []
    · rw [if_pos he]
      have hm : ¬ (-1 : Int) = i + 3 := by omega
      rw [he]
      simp only [encN, hm, if_false]
      rfl
    · rw [if_neg he]
      have h2 := run_rest digB 2 t
      simp only [encN]
      by_cases hq : (runOf digB 2 t).length = 2
      · rw [if_pos hq]
        have hpos : (s.size : Int) - ((runRest digB 2 t).length : Int) = i + 3 := by omega
        simp only [hpos, if_true]
        by_cases h60 : numOf (runOf digB 2 t) > 59
        · rw [if_pos h60, if_neg (by omega)]; rfl
        · rw [if_neg h60, if_pos (by omega)]; simp only [encS, hpos]
      · have hpos : ¬ (s.size : Int) - ((runRest digB 2 t).length : Int) = i + 3 := by omega
        rw [if_neg hq]
        simp only [hpos, if_false]
        rfl
end Go.Proofs.YtnbjneknicppcaaDoor.Fn

namespace Go.Proofs.YtnbjneknicppcaaDoor.Fn
set_option linter.unusedVariables false
set_option linter.unusedSimpArgs false
open Go.RowKit Go.Proofs.YtnbjneknicppcaaDoorW.PrintWords Go.Proofs.YtnbjneknicppcaaDoorW.PrintLast Go.Proofs.YtnbjneknicppcaaDoorW.PrintMore
def sgn (mn : Bool) (n : Int) : Int := if mn = true then -n else n
theorem eats_bt {s : ByteArray} {i : Int} {c : UInt8} {t : List UInt8} (hr : Rest s i (c :: t)) (x : UInt8) : (bt s i == (x.toNat : Int)) = eats x (c :: t) := by
  rw [hr.bt, eats_cons, Bool.eq_iff_iff]
  simp only [beq_iff_eq]
  constructor
  · intro h; exact UInt8.toNat_inj.1 (Int.ofNat.inj h)
  · rintro rfl; rfl
theorem refTime_j5 (s : ByteArray) (hs : s.size ≤ 1000) (k : Nat) (i : Int) (l : List UInt8) (hr : Rest s i l) (mn : Bool) (n : Int) (hn : -10000000 ≤ n ∧ n ≤ 10000000) :
    longcaseref08_time.j5 (k + 6) s i mn n (eats 58 l) = some (encN s ((tkSixty l).bind fun z => some (sgn mn (n + z.1), z.2.2))) := by
  rw [longcaseref08_time.j5]
  cases he : eats 58 l
  · rw [if_neg (by decide), tkSixty_none _ he]
    have := hr.pos
    cases mn
    · rw [if_neg (by decide)]; simp [encN, sgn, this]
    · rw [if_pos rfl, w64 ⟨by omega, by omega⟩]; simp [encN, sgn, this]
  · obtain ⟨t, rfl⟩ := eats_split he
    rw [if_pos rfl, refSixty_eq s hs k i t hr]
    simp only [Option.bind_some]
    cases hx : tkSixty (58 :: t) with
    | none => rfl
    | some z =>
      obtain ⟨z1, z2, z3⟩ := z
      have hz := tkSixty_short hx
      rcases hz with ⟨hz1, ⟨rfl, hz2⟩ | ⟨rfl, rfl, rfl⟩⟩
      · have hl := hr.len
        rw [encS, if_neg (by show ¬ (s.size : Int) - z3.length < 0; omega)]
        simp only [Option.bind_some, encN]
        cases mn
        · rw [if_neg (by decide), w64 ⟨by omega, by omega⟩]; rfl
        · rw [if_pos rfl, w64 (a := n + z1) ⟨by omega, by omega⟩, w64 (a := -(n + z1)) ⟨by omega, by omega⟩]; rfl
      · unfold tkSixty at hx
        rw [he, if_pos rfl] at hx
        split at hx
        · split at hx
          · simp at hx
          · simp at hx
        · simp at hx
theorem sixty_rest {s : ByteArray} {i : Int} {l l' : List UInt8} {n : Int} {b : Bool} (hr : Rest s i l) (h : tkSixty l = some (n, b, l')) : Rest s ((s.size : Int) - l'.length) l' := hr.of_suf (tkSixty_suf h)
theorem at_eats {s : ByteArray} {i : Int} {l : List UInt8} (hr : Rest s i l) {α : Type} (x : UInt8) (F : Bool → Option α) :
    (if i < (s.size : Int) then (if 0 ≤ i then F (bt s i == (x.toNat : Int)) else none) else F false) = F (eats x l) := by
  cases l with
  | nil => rw [if_neg (by have := hr.end_; omega)]; rfl
  | cons c t => rw [if_pos hr.lt, if_pos hr.nn, eats_bt hr]
theorem refTime_j4 (s : ByteArray) (hs : s.size ≤ 1000) (k : Nat) (i : Int) (l : List UInt8) (hr : Rest s i l) (mn : Bool) (n : Int) (hn : -9000000 ≤ n ∧ n ≤ 9000000) :
    longcaseref08_time.j4 (k + 7) s i mn n (eats 58 l) = some (encN s ((tkSixty l).bind fun m => if m.2.1 = true then (tkSixty m.2.2).bind fun z => some (sgn mn (n + (m.1 * 60 + z.1)), z.2.2) else some (sgn mn n, m.2.2))) := by
  rw [longcaseref08_time.j4]
  cases he : eats 58 l
  · rw [if_neg (by decide), tkSixty_none _ he]
    have := hr.pos
    cases mn
    · rw [if_neg (by decide)]; simp [encN, sgn, this]
    · rw [if_pos rfl, w64 ⟨by omega, by omega⟩]; simp [encN, sgn, this]
  · obtain ⟨t, rfl⟩ := eats_split he
    rw [if_pos rfl, refSixty_eq s hs (k + 1) i t hr]
    simp only [Option.bind_some]
    cases hx : tkSixty (58 :: t) with
    | none => rfl
    | some z =>
      obtain ⟨z1, z2, z3⟩ := z
      have hz := tkSixty_short hx
      rcases hz with ⟨hz1, ⟨rfl, hz2⟩ | ⟨rfl, rfl, rfl⟩⟩
      · have hl := hr.len
        have hr3 := sixty_rest hr hx
        rw [encS, if_neg (by show ¬ (s.size : Int) - z3.length < 0; omega)]
        simp only [Option.bind_some]
        rw [w64 (a := 60 * z1) ⟨by omega, by omega⟩, w64 ⟨by omega, by omega⟩]
        have := at_eats hr3 58 (fun b => longcaseref08_time.j5 (k + 6) s ((s.size : Int) - z3.length) mn (n + 60 * z1) b)
        simp only [show ((58 : UInt8).toNat : Int) = 58 from rfl] at this
        rw [this, refTime_j5 s hs k _ z3 hr3 mn _ (by omega)]
        simp only [if_true]
        congr 3
        funext z
        rw [show n + 60 * z1 + z.1 = n + (z1 * 60 + z.1) by omega]
      · unfold tkSixty at hx
        rw [he, if_pos rfl] at hx
        split at hx
        · split at hx
          · simp at hx
          · simp at hx
        · simp at hx
theorem tkNum_le {m : Nat} (hm : m ≤ 3) {l l' : List UInt8} {n : Int} (h : tkNum m l = some (n, l')) : 0 ≤ n ∧ n < 1000 := by
  unfold tkNum at h
  split at h
  · cases h
  · simp only [Option.some.injEq, Prod.mk.injEq] at h
    have h1 := numN_lt (runOf digB m l) (run_all digB m l)
    have h2 := run_len digB m l
    have h3 : 10 ^ (runOf digB m l).length ≤ 10 ^ 3 := Nat.pow_le_pow_right (by decide) (by omega)
    have h4 := h.1
    unfold numOf at h4
    omega
theorem refTime_j2 (s : ByteArray) (hs : s.size ≤ 1000) (k : Nat) (i : Int) (l : List UInt8) (hr : Rest s i l) (mn : Bool) (many : Nat) (hm : many ≤ 3) (top : Int) (ht : top ≤ 1000) :
    longcaseref08_time.j2 (k + 9) s i mn many top = some (encN s ((tkNum many l).bind fun h => if h.1 ≤ top then
      (tkSixty h.2).bind fun m => if m.2.1 = true then (tkSixty m.2.2).bind fun z => some (sgn mn (h.1 * 3600 + (m.1 * 60 + z.1)), z.2.2) else some (sgn mn (h.1 * 3600), m.2.2) else none)) := by
  rw [longcaseref08_time.j2, refDigits_eq s hs (k + 4) many hm i l hr]
  simp only [Option.bind_some]
  cases hx : tkNum many l with
  | none => rw [encN, if_pos (by show (-1 : Int) < 0; decide), longcaseref08_time.j3, if_pos rfl]; rfl
  | some z =>
    obtain ⟨n, l'⟩ := z
    have hz := tkNum_le hm hx
    have hr' := hr.of_suf (tkNum_suf hx)
    have hl := hr'.nn
    rw [encN, if_neg (by show ¬ (s.size : Int) - l'.length < 0; omega), longcaseref08_time.j3]
    simp only [Option.bind_some]
    by_cases hc : n ≤ top
    · have : decide (n > top) = false := by simp; omega
      rw [this, if_neg (by decide), if_pos hc, w64 (a := n * 3600) ⟨by omega, by omega⟩]
      have := at_eats hr' 58 (fun b => longcaseref08_time.j4 (k + 7) s ((s.size : Int) - l'.length) mn (n * 3600) b)
      simp only [show ((58 : UInt8).toNat : Int) = 58 from rfl] at this
      rw [this, refTime_j4 s hs k _ l' hr' mn _ (by omega)]
    · have : decide (n > top) = true := by simp; omega
      rw [this, if_pos rfl, if_neg hc]
      rfl
theorem refTime_j1 (s : ByteArray) (hs : s.size ≤ 1000) (k : Nat) (i : Int) (l : List UInt8) (hr : Rest s i l) (mn wide : Bool) :
    longcaseref08_time.j1 (k + 10) s i wide mn = some (encN s ((tkNum (if wide = true then 3 else 2) l).bind fun h => if h.1 ≤ (if wide = true then 167 else 24) then
      (tkSixty h.2).bind fun m => if m.2.1 = true then (tkSixty m.2.2).bind fun z => some (sgn mn (h.1 * 3600 + (m.1 * 60 + z.1)), z.2.2) else some (sgn mn (h.1 * 3600), m.2.2) else none)) := by
  rw [longcaseref08_time.j1]
  cases wide
  · rw [if_neg (by decide), if_neg (by decide), if_neg (by decide)]
    exact refTime_j2 s hs k i l hr mn 2 (by decide) 24 (by decide)
  · rw [if_pos rfl, if_pos rfl, if_pos rfl]
    exact refTime_j2 s hs k i l hr mn 3 (by decide) 167 (by decide)
theorem sgn_of (sg : Bool) (l : List UInt8) (n : Int) : sgn (sg && eats 45 l) n = signOf sg l * n := by
  unfold sgn signOf
  cases sg
  · simp
  · cases eats 45 l <;> simp
theorem tkTime_sgn (sg wide : Bool) (l : List UInt8) : tkTime sg wide l = (tkNum (if wide = true then 3 else 2) (signRest sg l)).bind fun h => if h.1 ≤ (if wide = true then 167 else 24) then
      (tkSixty h.2).bind fun m => if m.2.1 = true then (tkSixty m.2.2).bind fun z => some (sgn (sg && eats 45 l) (h.1 * 3600 + (m.1 * 60 + z.1)), z.2.2) else some (sgn (sg && eats 45 l) (h.1 * 3600), m.2.2) else none := by
  unfold tkTime
  simp only [sgn_of]
theorem refTime_eq (s : ByteArray) (hs : s.size ≤ 1000) (k : Nat) (i : Int) (l : List UInt8) (hr : Rest s i l) (sg wide : Bool) :
    longcaseref08_time.f (k + 11) s i sg wide = some (encN s (tkTime sg wide l)) := by
  have hl := hr.len
  have hp := hr.pos
  have hn := hr.nn
  rw [tkTime_sgn]
  unfold longcaseref08_time.f
  have hj : ∀ b, longcaseref08_time.j0 (k + 11) s i wide false b = (if b = true then (if 0 ≤ i then (if i < (s.size : Int) then (longcaseref08_time.j1 (k + 10) s (wrap64 (i + 1)) wide (bt s i == 45)) else none) else none) else longcaseref08_time.j1 (k + 10) s i wide false) := fun b => by
    rw [longcaseref08_time.j0]
  simp only [hj]
  cases sg
  · rw [if_neg (by decide), if_neg (by decide), refTime_j1 s hs k i l hr]
    rfl
  · rw [if_pos rfl]
    cases l with
    | nil => rw [if_neg (by have := hr.end_; omega), if_neg (by decide), refTime_j1 s hs k i [] hr]; rfl
    | cons c t =>
      have e45 := eats_bt hr 45
      have e43 := eats_bt hr 43
      simp only [show ((45 : UInt8).toNat : Int) = 45 from rfl] at e45
      simp only [show ((43 : UInt8).toNat : Int) = 43 from rfl] at e43
      rw [if_pos hr.lt, if_pos hn]
      rw [List.length_cons] at hl hp
      have hwi : wrap64 (i + 1) = i + 1 := w64 ⟨by omega, by omega⟩
      by_cases h45 : bt s i = 45
      · have e : eats 45 (c :: t) = true := by rw [← e45]; simpa using h45
        have hsr : signRest true (c :: t) = t := by unfold signRest; rw [e]; rfl
        rw [if_pos h45]
        simp only [if_true]
        rw [if_pos hn, if_pos hr.lt, hwi, refTime_j1 s hs k _ t hr.tail, e45, e, hsr]
        rfl
      · have e : eats 45 (c :: t) = false := by rw [← e45]; simpa using h45
        have hsr : signRest true (c :: t) = if eats 43 (c :: t) = true then t else c :: t := by unfold signRest; rw [e]; rfl
        rw [if_neg h45, e43, e45, e, hsr]
        cases eats 43 (c :: t)
        · simp only [Bool.false_eq_true, if_false]
          rw [refTime_j1 s hs k i _ hr]; rfl
        · simp only [if_true]
          rw [if_pos hn, if_pos hr.lt, hwi, refTime_j1 s hs k _ t hr.tail]; rfl
theorem tkTime_suf {sg w : Bool} {l l' : List UInt8} {n : Int} (h : tkTime sg w l = some (n, l')) : l' <:+ l := by
  have hsr : signRest sg l <:+ l := by
    unfold signRest
    split
    · split
      · exact List.tail_suffix _
      · split
        · exact List.tail_suffix _
        · exact List.suffix_refl _
    · exact List.suffix_refl _
  unfold tkTime at h
  generalize (if w = true then (167 : Int) else 24) = top at h
  generalize (if w = true then 3 else 2) = many at h
  cases h1 : tkNum many (signRest sg l) with
  | none => rw [h1] at h; cases h
  | some z =>
    rw [h1, Option.bind_some] at h
    by_cases hz : z.1 ≤ top
    · rw [if_pos hz] at h
      cases h2 : tkSixty z.2 with
      | none => rw [h2] at h; cases h
      | some y =>
        obtain ⟨y1, y2, y3⟩ := y
        rw [h2, Option.bind_some] at h
        have s1 := tkNum_suf h1
        have s2 := tkSixty_suf h2
        cases y2
        · simp only [Bool.false_eq_true, if_false, Option.some.injEq, Prod.mk.injEq] at h
          rw [← h.2]
          exact (s2.trans s1).trans hsr
        · simp only [if_true] at h
          cases h3 : tkSixty y3 with
          | none => rw [h3] at h; cases h
          | some x =>
            obtain ⟨x1, x2, x3⟩ := x
            rw [h3] at h
            have s3 := tkSixty_suf h3
            simp only [Option.bind_some, Option.some.injEq, Prod.mk.injEq] at h
            rw [← h.2]
            exact ((s3.trans s2).trans s1).trans hsr
    · rw [if_neg hz] at h; cases h
end Go.Proofs.YtnbjneknicppcaaDoor.Fn

namespace Go.Proofs.YtnbjneknicppcaaDoor.Fn
set_option linter.unusedVariables false
set_option linter.unusedSimpArgs false
open Go.RowKit Go.Proofs.YtnbjneknicppcaaDoorW.PrintWords Go.Proofs.YtnbjneknicppcaaDoorW.PrintLast Go.Proofs.YtnbjneknicppcaaDoorW.PrintMore
theorem tkName_suf {l l' nm : List UInt8} (h : tkName l = some (nm, l')) : l' <:+ l := by
  unfold tkName at h
  split at h
  · split at h
    · split at h
      · cases h; exact (List.drop_suffix _ _).trans (List.tail_suffix _)
      · cases h
    · cases h
  · split at h
    · cases h; exact List.drop_suffix _ _
    · cases h
theorem isEnd_bt {s : ByteArray} {i : Int} {c : UInt8} {t : List UInt8} (hr : Rest s i (c :: t)) : (bt s i = 62) ↔ isEnd c = true := by
  rw [hr.bt]
  unfold isEnd
  rw [beq_iff_eq]
  constructor
  · intro h; exact UInt8.toNat_inj.1 (Int.ofNat.inj h)
  · rintro rfl; rfl
def encW (s : ByteArray) : Option (List UInt8 × List UInt8) → ByteArray × Int
  | some (n, l) => (Tx n, (s.size : Int) - l.length)
  | none => (emptyS, -1)
theorem refWord_l0 (s : ByteArray) (hs : s.size ≤ 1000) (i : Int) (h0 : 0 ≤ i) : ∀ (l : List UInt8) (k : Nat) (x : Int), Rest s x l → i + 1 ≤ x →
    longcaseref08_word.l0 (k + l.length + 23) s i x = some (if (l.takeWhile fun c => !isEnd c).length < l.length then
      (if namedB (s.extract (i + 1).toNat (x + ((l.takeWhile fun c => !isEnd c).length : Int)).toNat) = true then (s.extract (i + 1).toNat (x + ((l.takeWhile fun c => !isEnd c).length : Int)).toNat, x + ((l.takeWhile fun c => !isEnd c).length : Int) + 1) else (emptyS, -1)) else (emptyS, -1)) := by
  intro l
  induction l with
  | nil =>
    intro k x hr hx
    have := hr.end_
    rw [longcaseref08_word.l0, if_neg (by omega), if_pos this]
    rfl
  | cons c t ih =>
    intro k x hr hx
    have hl := hr.len
    have hp := hr.pos
    have hlt := hr.lt
    rw [List.length_cons] at hl hp
    rw [show k + (c :: t).length + 23 = (k + t.length + 23) + 1 by rw [List.length_cons]; omega, longcaseref08_word.l0, if_pos hlt, if_pos hr.nn]
    have e := isEnd_bt hr
    cases hc : isEnd c
    · rw [if_neg (by rw [e, hc]; decide), w64 (a := x + 1) ⟨by omega, by omega⟩, ih k (x + 1) hr.tail (by omega), List.takeWhile_cons, hc]
      have : ((!false) = true) := rfl
      rw [if_pos this, List.length_cons, List.length_cons]
      have e2 : x + 1 + ((List.takeWhile (fun c => !isEnd c) t).length : Int) = x + (((List.takeWhile (fun c => !isEnd c) t).length + 1 : Nat) : Int) := by omega
      rw [e2]
      by_cases hq : (List.takeWhile (fun c => !isEnd c) t).length < t.length
      · have hq' : (List.takeWhile (fun c => !isEnd c) t).length + 1 < t.length + 1 := by omega
        simp only [hq, hq', if_true]
      · have hq' : ¬ (List.takeWhile (fun c => !isEnd c) t).length + 1 < t.length + 1 := by omega
        simp only [hq, hq', if_false]
    · rw [if_pos (e.2 hc), List.takeWhile_cons, hc]
      have : ¬ ((!true) = true) := by decide
      rw [if_neg this, if_neg (by omega), w64 (a := i + 1) ⟨by omega, by omega⟩, if_pos (by omega), if_pos hx, if_pos (by omega), show k + t.length + 23 = (k + t.length + 1) + 22 by omega, refName_eq, if_pos (by simp)]
      simp only [Option.bind_some, List.length_nil, Int.natCast_zero, Int.add_zero]
      cases namedB (s.extract (i + 1).toNat x.toNat)
      · rfl
      · rw [if_pos rfl, if_pos rfl, w64 ⟨by omega, by omega⟩]
theorem refWord_l1 (s : ByteArray) (hs : s.size ≤ 1000) (i : Int) (h0 : 0 ≤ i) : ∀ (l : List UInt8) (k : Nat) (x : Int), Rest s x l → i ≤ x →
    longcaseref08_word.l1 (k + l.length + 23) s i x = some
      (if namedB (s.extract i.toNat (x + ((l.takeWhile ltrB).length : Int)).toNat) = true then (s.extract i.toNat (x + ((l.takeWhile ltrB).length : Int)).toNat, x + ((l.takeWhile ltrB).length : Int)) else (emptyS, -1)) := by
  intro l
  induction l with
  | nil =>
    intro k x hr hx
    have := hr.end_
    rw [longcaseref08_word.l1, if_neg (by omega), if_pos h0, if_pos hx, if_pos (by omega), show k + ([] : List UInt8).length + 22 = k + 22 from rfl, refName_eq]
    simp only [Option.bind_some, List.takeWhile_nil, List.length_nil, Int.natCast_zero, Int.add_zero]
    cases namedB (s.extract i.toNat x.toNat) <;> rfl
  | cons c t ih =>
    intro k x hr hx
    have hl := hr.len
    have hp := hr.pos
    have hlt := hr.lt
    rw [List.length_cons] at hl hp
    rw [show k + (c :: t).length + 23 = (k + t.length + 23) + 1 by rw [List.length_cons]; omega, longcaseref08_word.l1, if_pos hlt, if_pos hr.nn, refLetter_eq, hr.bt, letB_ltr]
    simp only [Option.bind_some]
    cases hc : ltrB c
    · rw [if_neg (by decide), if_pos h0, if_pos hx, if_pos (by omega), List.takeWhile_cons, hc, show k + t.length + 23 = (k + t.length + 1) + 22 by omega, refName_eq]
      have : ¬ (false = true) := by decide
      rw [if_neg this]
      simp only [Option.bind_some, List.length_nil, Int.natCast_zero, Int.add_zero]
      cases namedB (s.extract i.toNat x.toNat) <;> rfl
    · rw [if_pos rfl, w64 (a := x + 1) ⟨by omega, by omega⟩, ih k (x + 1) hr.tail (by omega), List.takeWhile_cons, hc, if_pos rfl, List.length_cons]
      have e2 : x + 1 + ((List.takeWhile ltrB t).length : Int) = x + (((List.takeWhile ltrB t).length + 1 : Nat) : Int) := by omega
      rw [e2]
theorem takeWhile_take (p : UInt8 → Bool) (l : List UInt8) : l.take (l.takeWhile p).length = l.takeWhile p := (List.prefix_iff_eq_take.1 (List.takeWhile_prefix p)).symm
theorem refWord_eq (s : ByteArray) (hs : s.size ≤ 1000) (K : Nat) (i : Int) (l : List UInt8) (hr : Rest s i l) (hK : l.length + 24 ≤ K) : longcaseref08_word.f K s i = some (encW s (tkName l)) := by
  obtain ⟨k, rfl⟩ : ∃ k, K = k + l.length + 24 := ⟨K - l.length - 24, by omega⟩
  have hn := hr.nn
  have hl := hr.len
  have hp := hr.pos
  unfold longcaseref08_word.f
  have := at_eats hr 60 (fun b => longcaseref08_word.j0 (k + l.length + 24) s i b)
  simp only [show ((60 : UInt8).toNat : Int) = 60 from rfl] at this
  rw [this, longcaseref08_word.j0]
  unfold tkName
  cases he : eats 60 l
  · rw [if_neg (by decide), if_neg (by decide), refWord_l1 s hs i hn l k i hr (Int.le_refl _)]
    have hle := takeWhile_len ltrB l
    have hx := hr.extract (l.takeWhile ltrB).length hle
    rw [takeWhile_take] at hx
    rw [hx, namedL_eq, Tx_list]
    cases namedL (l.takeWhile ltrB)
    · rfl
    · rw [if_pos rfl, if_pos rfl]
      have : (l.drop (l.takeWhile ltrB).length).length = l.length - (l.takeWhile ltrB).length := List.length_drop
      simp only [encW, Option.some.injEq, Prod.mk.injEq, true_and]
      omega
  · obtain ⟨t, rfl⟩ := eats_split he
    rw [List.length_cons] at hl hp
    have hrt := hr.tail
    rw [if_pos rfl, if_pos rfl, List.tail_cons, w64 ⟨by omega, by omega⟩, show k + (60 :: t).length + 23 = (k + 1) + t.length + 23 by rw [List.length_cons]; omega, refWord_l0 s hs i hn t (k + 1) (i + 1) hrt (Int.le_refl _)]
    have hle := takeWhile_len (fun c => !isEnd c) t
    have hx := hrt.extract (t.takeWhile fun c => !isEnd c).length hle
    rw [takeWhile_take] at hx
    rw [hx, namedL_eq, Tx_list]
    by_cases hlt : (t.takeWhile fun c => !isEnd c).length < t.length
    · rw [if_pos hlt, if_pos hlt]
      cases namedL (t.takeWhile fun c => !isEnd c)
      · rfl
      · rw [if_pos rfl, if_pos rfl]
        have : (t.drop ((t.takeWhile fun c => !isEnd c).length + 1)).length = t.length - ((t.takeWhile fun c => !isEnd c).length + 1) := List.length_drop
        simp only [encW, Option.some.injEq, Prod.mk.injEq, true_and]
        omega
    · rw [if_neg hlt, if_neg hlt]; rfl
/-! ### when -/
def WhenOK (s : ByteArray) (wide : Bool) (o : Option (Chg × List UInt8)) (r : Int × Int × Int × Int × Int × Int) : Prop :=
  match o with
  | some (c, l) => if chgB c.how c.n c.week c.wday c.time wide = true then r = (c.how, c.n, c.week, c.wday, c.time, (s.size : Int) - l.length) else r.2.2.2.2.2 = -1
  | none => r.2.2.2.2.2 = -1
theorem refWhen_j5 (s : ByteArray) (hs : s.size ≤ 1000) (k : Nat) (i : Int) (l : List UInt8) (hr : Rest s i l) (wide : Bool) (h n a b t : Int) :
    ∃ r, longcaseref08_when.j5 (k + 12) s i wide (eats 47 l) h n a b t = some r ∧ WhenOK s wide (if eats 47 l = true then (tkTime wide wide l.tail).bind fun t => some (⟨h, n, a, b, t.1⟩, t.2) else some (⟨h, n, a, b, t⟩, l)) r := by
  have hl := hr.len
  have hp := hr.pos
  have hn := hr.nn
  rw [longcaseref08_when.j5]
  cases he : eats 47 l
  · simp only [Bool.false_eq_true, if_false]
    rw [if_neg (show ¬ i < 0 by omega), show k + 11 = (k + 10) + 1 from rfl, refChange_eq]
    simp only [Option.bind_some, WhenOK]
    cases chgB h n a b t wide
    · exact ⟨_, rfl, rfl⟩
    · exact ⟨_, rfl, by rw [hp]; rfl⟩
  · obtain ⟨u, rfl⟩ := eats_split he
    rw [List.length_cons] at hl hp
    rw [if_pos rfl, if_pos rfl, List.tail_cons, w64 ⟨by omega, by omega⟩, refTime_eq s hs k (i + 1) u hr.tail wide wide]
    simp only [Option.bind_some]
    cases hx : tkTime wide wide u with
    | none => exact ⟨_, rfl, rfl⟩
    | some z =>
      obtain ⟨z1, z2⟩ := z
      have hr2 := (hr.tail.of_suf (tkTime_suf hx)).nn
      have hng : ¬ (s.size : Int) - (z2.length : Int) < 0 := by omega
      simp only [encN, hng, if_false]
      rw [show k + 11 = (k + 10) + 1 from rfl, refChange_eq]
      simp only [Option.bind_some, WhenOK]
      cases chgB h n a b z1 wide
      · exact ⟨_, rfl, rfl⟩
      · exact ⟨_, rfl, rfl⟩
theorem refWhen_j3 (s : ByteArray) (hs : s.size ≤ 1000) (k : Nat) (i : Int) (l : List UInt8) (hr : Rest s i l) (wide : Bool) (x9 h n a b t : Int) :
    ∃ r, longcaseref08_when.j3 (k + 13) s i wide x9 false h n a b t = some r ∧ WhenOK s wide (if eats 47 l = true then (tkTime wide wide l.tail).bind fun t => some (⟨h, n, a, b, t.1⟩, t.2) else some (⟨h, n, a, b, t⟩, l)) r := by
  have := at_eats hr 47 (fun b_ => longcaseref08_when.j5 (k + 12) s i wide b_ h n a b t)
  simp only [show ((47 : UInt8).toNat : Int) = 47 from rfl] at this
  rw [longcaseref08_when.j3, if_neg (by decide), if_pos (by have := hr.nn; omega), this]
  exact refWhen_j5 s hs k i l hr wide h n a b t
theorem refWhen_neg (s : ByteArray) (k : Nat) (wide : Bool) (x9 h n a b t : Int) : ∃ r, longcaseref08_when.l0 (k + 14) s (-1) wide x9 h n a b t = some r ∧ r.2.2.2.2.2 = -1 := by
  have hj4 : ∃ r, longcaseref08_when.j4 (k + 12) s (-1) wide x9 true h n a b t = some r ∧ r.2.2.2.2.2 = -1 := by
    rw [longcaseref08_when.j4, if_pos rfl]; exact ⟨_, rfl, rfl⟩
  have hj3 : ∀ b_, ∃ r, longcaseref08_when.j3 (k + 13) s (-1) wide x9 b_ h n a b t = some r ∧ r.2.2.2.2.2 = -1 := by
    intro b_
    rw [longcaseref08_when.j3]
    cases b_
    · rw [if_neg (by decide), if_neg (by decide), longcaseref08_when.j5, if_neg (by decide), if_pos (by decide)]; exact ⟨_, rfl, rfl⟩
    · rw [if_pos rfl, if_pos (by decide)]; exact hj4
  rw [longcaseref08_when.l0]
  split
  · exact hj3 _
  · exact hj3 _
theorem refWhen_dot (s : ByteArray) (hs : s.size ≤ 1000) (k : Nat) (i : Int) (l : List UInt8) (hr : Rest s i l) (wide : Bool) (x9 : Int) (h9 : x9 = 0 ∨ x9 = 1) (n a b t : Int) :
    match tkDot l with
    | some (m, l') => longcaseref08_when.l0 (k + 17) s i wide x9 3 n a b t = longcaseref08_when.l0 (k + 14) s ((s.size : Int) - l'.length) wide (x9 + 1) 3 n (if x9 = 0 then m else a) (if x9 = 0 then b else m) t
    | none => ∃ r, longcaseref08_when.l0 (k + 17) s i wide x9 3 n a b t = some r ∧ r.2.2.2.2.2 = -1 := by
  have hn := hr.nn
  have hl := hr.len
  have hp := hr.pos
  have hL : longcaseref08_when.l0 (k + 17) s i wide x9 3 n a b t = longcaseref08_when.j4 (k + 15) s i wide x9 (!eats 46 l) 3 n a b t := by
    have h92 : x9 < 2 := by omega
    have h10 : ¬ i < 0 := by omega
    have e3 : ((3 : Int) == 3) = true := rfl
    rw [longcaseref08_when.l0, if_pos h92, longcaseref08_when.j3, e3, if_pos rfl, if_neg h10]
    cases l with
    | nil => rw [if_pos (by have := hr.end_; omega)]; rfl
    | cons c u =>
      have e46 := eats_bt hr 46
      simp only [show ((46 : UInt8).toNat : Int) = 46 from rfl] at e46
      have e : (bt s i != 46) = !eats 46 (c :: u) := by rw [← e46]; rfl
      rw [if_neg (by have := hr.lt; omega), if_pos hn, if_pos hr.lt, e]
  rw [hL]
  unfold tkDot
  cases he : eats 46 l
  · rw [longcaseref08_when.j4]
    simp only [Bool.not_false, if_true, Bool.false_eq_true, if_false]
    exact ⟨_, rfl, rfl⟩
  · obtain ⟨u, rfl⟩ := eats_split he
    rw [List.length_cons] at hl hp
    have hd := refDigits_eq s hs (k + 10) 3 (by decide) (i + 1) u hr.tail
    rw [show ((3 : Nat) : Int) = 3 from rfl, show k + 10 + 4 = k + 14 from rfl] at hd
    have hj : longcaseref08_when.j4 (k + 15) s i wide x9 (!true) 3 n a b t = (if x9 = 0 then longcaseref08_when.l0 (k + 14) s (encN s (tkNum 3 u)).2 wide (x9 + 1) 3 n (encN s (tkNum 3 u)).1 b t else longcaseref08_when.l0 (k + 14) s (encN s (tkNum 3 u)).2 wide (x9 + 1) 3 n a (encN s (tkNum 3 u)).1 t) := by
      have hnt : ¬ ((!true) = true) := by decide
      rw [longcaseref08_when.j4, if_neg hnt, w64 (a := i + 1) ⟨by omega, by omega⟩, hd, w64 (a := x9 + 1) ⟨by omega, by omega⟩]
      rfl
    rw [hj]
    simp only [if_true, List.tail_cons]
    cases hx : tkNum 3 u with
    | none =>
      rcases h9 with rfl | rfl
      · exact refWhen_neg s k wide (0 + 1) 3 n 0 b t
      · exact refWhen_neg s k wide (1 + 1) 3 n a 0 t
    | some z =>
      obtain ⟨z1, z2⟩ := z
      rcases h9 with rfl | rfl
      · rfl
      · rfl
theorem tkDot_suf {l l' : List UInt8} {n : Int} (h : tkDot l = some (n, l')) : l' <:+ l := by
  unfold tkDot at h
  split at h
  · exact (tkNum_suf h).trans (List.tail_suffix _)
  · cases h
theorem refWhen_j1 (s : ByteArray) (hs : s.size ≤ 1000) (k : Nat) (i : Int) (l : List UInt8) (hr : Rest s i l) (wide : Bool) (h n : Int) (h3 : h = 1 ∨ h = 2 ∨ h = 3) :
    ∃ r, longcaseref08_when.j1 (k + 21) s i wide h n 0 0 7200 = some r ∧ WhenOK s wide ((tkNum 3 l).bind fun n =>
      (if h = 3 then (tkDot n.2).bind fun w => (tkDot w.2).bind fun d => some (w.1, d.1, d.2) else some (0, 0, n.2)).bind fun wd =>
        if eats 47 wd.2.2 = true then (tkTime wide wide wd.2.2.tail).bind fun t => some (⟨h, n.1, wd.1, wd.2.1, t.1⟩, t.2)
        else some (⟨h, n.1, wd.1, wd.2.1, 7200⟩, wd.2.2)) r := by
  have hd := refDigits_eq s hs (k + 16) 3 (by decide) i l hr
  rw [show ((3 : Nat) : Int) = 3 from rfl, show k + 16 + 4 = k + 20 from rfl] at hd
  rw [longcaseref08_when.j1, hd]
  simp only [Option.bind_some]
  cases hx : tkNum 3 l with
  | none =>
    obtain ⟨r, h1, h2⟩ := refWhen_neg s (k + 6) wide 0 h 0 0 0 7200
    exact ⟨r, h1, h2⟩
  | some z =>
    obtain ⟨z1, z2⟩ := z
    have hr2 := hr.of_suf (tkNum_suf hx)
    simp only [encN, Option.bind_some]
    by_cases hq : h = 3
    · subst hq
      rw [if_pos rfl]
      have d1 := refWhen_dot s hs (k + 3) _ z2 hr2 wide 0 (.inl rfl) z1 0 0 7200
      cases hy : tkDot z2 with
      | none =>
        rw [hy] at d1
        obtain ⟨r, h1, h2⟩ := d1
        exact ⟨r, h1, h2⟩
      | some y =>
        obtain ⟨y1, y2⟩ := y
        rw [hy] at d1
        simp only [if_true] at d1
        rw [show k + 20 = k + 3 + 17 from rfl, d1, show k + 3 + 14 = k + 17 from rfl]
        have hr3 := hr2.of_suf (tkDot_suf hy)
        have d2 := refWhen_dot s hs k _ y2 hr3 wide (0 + 1) (.inr rfl) z1 y1 0 7200
        simp only [Option.bind_some]
        cases hw : tkDot y2 with
        | none =>
          rw [hw] at d2
          obtain ⟨r, h1, h2⟩ := d2
          exact ⟨r, h1, h2⟩
        | some v =>
          obtain ⟨v1, v2⟩ := v
          rw [hw] at d2
          have h10 : ¬ ((0 : Int) + 1 = 0) := by decide
          simp only [h10, if_false] at d2
          rw [d2, longcaseref08_when.l0, if_neg (by decide)]
          exact refWhen_j3 s hs k _ v2 (hr3.of_suf (tkDot_suf hw)) wide _ 3 z1 y1 v1 7200
    · rw [if_neg hq, longcaseref08_when.l0, if_pos (by decide)]
      have : (h == 3) = false := by simpa using hq
      rw [this]
      exact refWhen_j3 s hs (k + 6) _ z2 hr2 wide 0 h z1 0 0 7200
theorem refWhen_eq (s : ByteArray) (hs : s.size ≤ 1000) (k : Nat) (i : Int) (l : List UInt8) (hr : Rest s i l) (wide : Bool) :
    ∃ r, longcaseref08_when.f (k + 22) s i wide = some r ∧ WhenOK s wide (tkChg wide l) r := by
  have hn := hr.nn
  have hl := hr.len
  have hp := hr.pos
  have hbad : ∃ r, longcaseref08_when.j0 (k + 22) s i wide true 2 0 0 0 7200 = some r ∧ r.2.2.2.2.2 = -1 := by
    rw [longcaseref08_when.j0, if_pos rfl]; exact ⟨_, rfl, rfl⟩
  unfold longcaseref08_when.f tkChg
  rw [w64 ⟨by omega, by omega⟩]
  cases l with
  | nil =>
    rw [if_pos (by have := hr.end_; omega)]
    exact hbad
  | cons c u =>
    rw [List.length_cons] at hl hp
    have e44 := eats_bt hr 44
    simp only [show ((44 : UInt8).toNat : Int) = 44 from rfl] at e44
    have e : (bt s i != 44) = !eats 44 (c :: u) := by rw [← e44]; rfl
    cases u with
    | nil =>
      rw [if_pos (by have := hr.tail.end_; omega)]
      obtain ⟨r, h1, h2⟩ := hbad
      refine ⟨r, h1, ?_⟩
      split
      · have : tkNum 3 (howRest [c].tail) = none := by rfl
        rw [this]; exact h2
      · exact h2
    | cons d v =>
      have hr2 := hr.tail
      rw [if_neg (by have := hr2.lt; omega), if_pos hn, if_pos hr.lt, e]
      cases he : eats 44 (c :: d :: v)
      · exact hbad
      · have hnt : ¬ ((!true) = true) := by decide
        rw [if_pos rfl, longcaseref08_when.j0, if_neg hnt, w64 (a := i + 1) ⟨by omega, by omega⟩, if_pos (by omega), if_pos hr2.lt, List.tail_cons]
        have e74 := eats_bt hr2 74
        have e77 := eats_bt hr2 77
        simp only [show ((74 : UInt8).toNat : Int) = 74 from rfl] at e74
        simp only [show ((77 : UInt8).toNat : Int) = 77 from rfl] at e77
        have hwi : wrap64 (i + 1 + 1) = i + 1 + 1 := w64 ⟨by omega, by omega⟩
        rw [hwi]
        by_cases h74 : bt s (i + 1) = 74
        · have e1 : eats 74 (d :: v) = true := by rw [← e74]; simpa using h74
          rw [if_pos h74]
          have hh : howOf (d :: v) = 1 := by unfold howOf; rw [e1]; rfl
          have hq : howRest (d :: v) = v := by unfold howRest; rw [e1]; rfl
          rw [hh, hq]
          exact refWhen_j1 s hs k _ v hr2.tail wide 1 0 (.inl rfl)
        · have e1 : eats 74 (d :: v) = false := by rw [← e74]; simpa using h74
          rw [if_neg h74]
          by_cases h77 : bt s (i + 1) = 77
          · have e2 : eats 77 (d :: v) = true := by rw [← e77]; simpa using h77
            rw [if_pos h77]
            have hh : howOf (d :: v) = 3 := by unfold howOf; rw [e1, e2]; rfl
            have hq : howRest (d :: v) = v := by unfold howRest; rw [e1, e2]; rfl
            rw [hh, hq]
            exact refWhen_j1 s hs k _ v hr2.tail wide 3 0 (.inr (.inr rfl))
          · have e2 : eats 77 (d :: v) = false := by rw [← e77]; simpa using h77
            rw [if_neg h77]
            have hh : howOf (d :: v) = 2 := by unfold howOf; rw [e1, e2]; rfl
            have hq : howRest (d :: v) = d :: v := by unfold howRest; rw [e1, e2]; rfl
            rw [hh, hq]
            exact refWhen_j1 s hs k _ (d :: v) hr2 wide 2 0 (.inr (.inl rfl))
end Go.Proofs.YtnbjneknicppcaaDoor.Fn
