/- Whole numbers in plain words: signs, texts. -/
import Derived.Test.YtkjlmibleoecgaaGreatDoorCon
namespace Go.Proofs.YtkjlmibleoecgaaGreatDoor
set_option linter.unusedSimpArgs false
set_option linter.unusedVariables false
open Go.RowKit
theorem data_inj0 {a b : ByteArray} (h : a.data.toList = b.data.toList) : a = b := by
  obtain ⟨⟨l⟩⟩ := a; obtain ⟨⟨m⟩⟩ := b
  cases h; rfl
/-- A size and a sign. -/
def sgn (b : Bool) (n : Nat) : Int := if b = true then -(n : Int) else (n : Int)
theorem sgn_abs (b : Bool) (n : Nat) : (sgn b n).natAbs = n := by unfold sgn; split <;> omega
theorem sgn_neg (b : Bool) (n : Nat) : decide (sgn b n < 0) = (b && decide (0 < n)) := by
  unfold sgn
  cases b <;> simp
theorem sgn_self (z : Int) : sgn (decide (z < 0)) z.natAbs = z := by
  unfold sgn
  by_cases h : z < 0 <;> simp [h] <;> omega
theorem sgn_zero (b : Bool) : sgn b 0 = 0 := by unfold sgn; split <;> rfl
/-- A whole number's sign. -/
def sgZ (z : Int) : Int := if z < 0 then -1 else if z = 0 then 0 else 1
/-- The order. -/
def cmpZ (x y : Int) : Int := if x < y then -1 else if y < x then 1 else 0
/-- A whole number's text. -/
def numS (z : Int) : ByteArray := if z < 0 then (⟨#[45]⟩ : ByteArray) ++ decS z.natAbs else decS z.natAbs
/-- Is a text a whole number's? Which? -/
def isZ (l : List UInt8) : Bool := if l.head? = some 45 then isNum l.tail && decide (0 < pNum l.tail) else isNum l
def zNum (l : List UInt8) : Int := if isZ l = true then (if l.head? = some 45 then -(pNum l.tail : Int) else (pNum l : Int)) else 0
theorem zNum_text {s : ByteArray} (h : isZ s.data.toList = true) : numS (zNum s.data.toList) = s := by
  unfold zNum
  rw [if_pos h]
  unfold isZ at h
  by_cases h1 : s.data.toList.head? = some 45
  · rw [if_pos h1] at h ⊢
    simp only [Bool.and_eq_true, decide_eq_true_eq] at h
    unfold numS
    rw [if_pos (by omega)]
    refine data_inj0 ?_
    have e : (-(pNum s.data.toList.tail : Int)).natAbs = pNum s.data.toList.tail := by omega
    rw [e, ByteArray.data_append, Array.toList_append, decS_data]
    have hp : pNum s.data.toList.tail = numL s.data.toList.tail := by unfold pNum; rw [if_pos h.1]
    rw [hp, dec_num h.1]
    cases hl : s.data.toList with
    | nil => rw [hl] at h1; cases h1
    | cons a r =>
      rw [hl] at h1
      simp only [List.head?_cons, Option.some.injEq] at h1
      subst h1
      rfl
  · rw [if_neg h1] at h ⊢
    unfold numS
    rw [if_neg (by omega)]
    have hp : pNum s.data.toList = numL s.data.toList := by unfold pNum; rw [if_pos h]
    refine decS_of ?_
    rw [Int.natAbs_natCast, hp, dec_num h]
theorem isNum_len {l : List UInt8} (hi : isNum l = true) {b : Nat} (hb : 10 ≤ b) : (dg b (pNum l)).length ≤ l.length := by
  have hp : pNum l = numL l := by unfold pNum; rw [if_pos hi]
  have hd : l.all dig = true := by
    unfold isNum at hi
    simp only [Bool.and_eq_true] at hi
    exact hi.1.2
  rw [hp]
  exact dg_len (by omega) (Nat.lt_of_lt_of_le (numL_lt hd) (Nat.pow_le_pow_left hb _))
theorem zNum_len {l : List UInt8} {b : Nat} (hb : 10 ≤ b) : (dg b (zNum l).natAbs).length ≤ l.length := by
  unfold zNum
  by_cases h : isZ l = true
  · rw [if_pos h]
    unfold isZ at h
    by_cases h1 : l.head? = some 45
    · rw [if_pos h1] at h ⊢
      simp only [Bool.and_eq_true] at h
      have e : (-(pNum l.tail : Int)).natAbs = pNum l.tail := by omega
      rw [e]
      have := isNum_len h.1 hb
      simp at this
      omega
    · rw [if_neg h1] at h ⊢
      rw [Int.natAbs_natCast]
      exact isNum_len h hb
  · rw [if_neg h]
    rw [show (0 : Int).natAbs = 0 from rfl, dg_zero]
    simp
end Go.Proofs.YtkjlmibleoecgaaGreatDoor
