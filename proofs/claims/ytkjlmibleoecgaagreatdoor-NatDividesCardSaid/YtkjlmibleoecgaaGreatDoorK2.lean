/- Plain lemmas on decimal texts. -/
import Derived.Test.YtkjlmibleoecgaaGreatDoorK0
import Derived.Lib.ItoaNum
import Derived.Lib.ParseIntB
import Derived.Lib.SlTrimSet
namespace Go.Proofs.YtkjlmibleoecgaaGreatDoor
open Go.Lib

/-- Is it a digit? -/
def dig (c : UInt8) : Bool := decide (48 ≤ c.toNat ∧ c.toNat ≤ 57)
/-- The number that digits are. -/
def numL (l : List UInt8) : Nat := l.foldl (fun a c => a * 10 + (c.toNat - 48)) 0
theorem numL_snoc (l : List UInt8) (c : UInt8) : numL (l ++ [c]) = numL l * 10 + (c.toNat - 48) := by simp [numL]
theorem numL_nil : numL [] = 0 := rfl
theorem numL_append (l : List UInt8) : ∀ r : List UInt8, numL (l ++ r) = numL l * 10 ^ r.length + numL r := by
  intro r
  induction hn : r.length generalizing r with
  | zero => rw [List.length_eq_zero_iff.1 hn]; simp [numL]
  | succ n ih =>
    rcases List.eq_nil_or_concat r with rfl | ⟨r', c, rfl⟩
    · cases hn
    · rw [List.concat_eq_append] at *
      have := ih r' (by simpa using hn)
      rw [← List.append_assoc, numL_snoc, this, numL_snoc, Nat.pow_succ, Nat.add_mul, Nat.mul_assoc]
      omega
theorem numL_lt {l : List UInt8} (h : l.all dig = true) : numL l < 10 ^ l.length := by
  induction hn : l.length generalizing l with
  | zero => rw [List.length_eq_zero_iff.1 hn]; simp [numL]
  | succ n ih =>
    rcases List.eq_nil_or_concat l with rfl | ⟨r, c, rfl⟩
    · cases hn
    · rw [List.concat_eq_append] at *
      simp only [List.all_append, Bool.and_eq_true, List.all_cons, List.all_nil, and_true] at h
      have h1 := ih h.1 (by simpa using hn)
      have h2 := h.2
      simp only [dig, decide_eq_true_eq] at h2
      rw [numL_snoc, Nat.pow_succ]; omega
/-- Is it a number's text? -/
def isNum (l : List UInt8) : Bool := !l.isEmpty && l.all dig && (l.head? != some 48 || l.length == 1)
def pErr (l : List UInt8) : Int := if isNum l = true then 0 else 10
def pNum (l : List UInt8) : Nat := if isNum l = true then numL l else 0
theorem isNum_snoc {l : List UInt8} {c : UInt8} (h : isNum (l ++ [c]) = true) (hl : l ≠ []) : isNum l = true ∧ dig c = true ∧ l.head? ≠ some 48 := by
  cases l with
  | nil => exact absurd rfl hl
  | cons a r =>
    simp [isNum] at h ⊢
    exact ⟨⟨⟨h.1.1, h.1.2.1⟩, .inl h.2⟩, h.1.2.2, h.2⟩
theorem numL_pos {l : List UInt8} (hl : l ≠ []) (hd : l.all dig = true) (h0 : l.head? ≠ some 48) : 0 < numL l := by
  cases l with
  | nil => exact absurd rfl hl
  | cons a r =>
    have e := numL_append [a] r
    rw [List.singleton_append] at e
    rw [e]
    simp only [List.all_cons, Bool.and_eq_true, dig, decide_eq_true_eq] at hd
    have ha : a.toNat ≠ 48 := fun h => h0 (by simp; exact UInt8.toNat_inj.1 h)
    have : 1 ≤ numL [a] := by simp [numL]; omega
    have h10 : 0 < 10 ^ r.length := Nat.pow_pos (by omega)
    have := Nat.mul_le_mul this h10
    omega
theorem dec_small {i : Nat} (h : i < 10) : decDigits i = [UInt8.ofNat (48 + i)] := decDigits_one h
theorem dec_big {u : Nat} (h : ¬ u < 10) : decDigits u = decDigits (u / 10) ++ [UInt8.ofNat (48 + u % 10)] := by
  conv => lhs; rw [decDigits]
  rw [dif_neg h]
theorem dec_num {l : List UInt8} (h : isNum l = true) : decDigits (numL l) = l := by
  induction hn : l.length generalizing l with
  | zero => rw [List.length_eq_zero_iff.1 hn] at h; simp [isNum] at h
  | succ n ih =>
    rcases List.eq_nil_or_concat l with rfl | ⟨r, c, rfl⟩
    · cases hn
    · rw [List.concat_eq_append] at *
      by_cases hr : r = []
      · subst hr
        simp only [List.nil_append] at *
        have hc : dig c = true := by simp [isNum] at h; exact h
        simp only [dig, decide_eq_true_eq] at hc
        have e : numL [c] = c.toNat - 48 := by simp [numL]
        rw [e, dec_small (by omega)]
        congr 1
        apply UInt8.toNat_inj.1
        rw [UInt8.toNat_ofNat']
        omega
      · obtain ⟨h1, h2, h3⟩ := isNum_snoc h hr
        have hp := numL_pos hr (by simp [isNum] at h1; simpa using h1.1.2) h3
        simp only [dig, decide_eq_true_eq] at h2
        rw [numL_snoc, dec_big (by omega), show (numL r * 10 + (c.toNat - 48)) / 10 = numL r from by omega, ih h1 (by simpa using hn)]
        congr 2
        apply UInt8.toNat_inj.1
        rw [UInt8.toNat_ofNat']
        omega
theorem num_dec (u : Nat) : numL (decDigits u) = u := by
  induction u using Nat.strongRecOn with
  | _ u ih =>
    by_cases h : u < 10
    · rw [dec_small h]
      simp [numL, UInt8.toNat_ofNat']; omega
    · rw [dec_big h, numL_snoc, ih _ (by omega), UInt8.toNat_ofNat']; omega
theorem dec_dig (u : Nat) : (decDigits u).all dig = true := by
  induction u using Nat.strongRecOn with
  | _ u ih =>
    by_cases h : u < 10
    · rw [dec_small h]
      simp [dig, UInt8.toNat_ofNat']; omega
    · rw [dec_big h, List.all_append, ih _ (by omega)]
      simp [dig, UInt8.toNat_ofNat']; omega
theorem dec_ne (u : Nat) : decDigits u ≠ [] := by
  by_cases h : u < 10
  · rw [dec_small h]; simp
  · rw [dec_big h]; simp
theorem dec_head (u : Nat) : (decDigits u).head? = some 48 → u = 0 := by
  induction u using Nat.strongRecOn with
  | _ u ih =>
    intro hh
    by_cases h : u < 10
    · rw [dec_small h] at hh
      simp at hh
      have := congrArg UInt8.toNat hh
      rw [UInt8.toNat_ofNat'] at this
      simp at this; omega
    · rw [dec_big h, List.head?_append] at hh
      have h1 := dec_ne (u / 10)
      cases hd : decDigits (u / 10) with
      | nil => exact absurd hd h1
      | cons a r =>
        rw [hd] at hh
        have := ih (u / 10) (by omega) (by rw [hd]; simpa using hh); omega
theorem isNum_dec (u : Nat) : isNum (decDigits u) = true := by
  unfold isNum
  have h1 := dec_ne u
  have h2 := dec_dig u
  by_cases h : (decDigits u).head? = some 48
  · rw [dec_head u h, dec_small (by omega)]; decide
  · have h3 : ((decDigits u).head? != some 48) = true := by simpa using h
    rw [h2, h3]; simp [h1]
theorem pErr_dec (u : Nat) : pErr (decDigits u) = 0 := by unfold pErr; rw [if_pos (isNum_dec u)]
theorem pNum_dec (u : Nat) : pNum (decDigits u) = u := by unfold pNum; rw [if_pos (isNum_dec u), num_dec]
theorem dec_inj {a b : Nat} (h : decDigits a = decDigits b) : a = b := by rw [← num_dec a, ← num_dec b, h]

theorem parseM_ok {M : Nat} : ∀ (l : List UInt8) (acc : Nat), l.all dig = true → (∀ k, k ≤ l.length → acc * 10 ^ k + 10 ^ k ≤ 1000000000) → 1000000000 ≤ M → parseUintM M acc l = .ok (l.foldl (fun a c => a * 10 + (c.toNat - 48)) acc)
  | [], acc, _, _, _ => rfl
  | c :: r, acc, h, hb, hM => by
    simp only [List.all_cons, Bool.and_eq_true] at h
    have hc := h.1
    simp only [dig, decide_eq_true_eq] at hc
    have h1 := hb 1 (by simp)
    simp only [parseUintM]
    rw [if_pos hc, if_neg (by omega), if_neg (by omega), parseM_ok r _ h.2 _ hM]
    · rfl
    · intro k hk
      have h2 := hb (k + 1) (by simp; omega)
      rw [Nat.pow_succ] at h2
      have h3 : (acc * 10 + (c.toNat - 48)) * 10 ^ k + 10 ^ k ≤ (acc * 10 + 9) * 10 ^ k + 10 ^ k := by
        have := Nat.mul_le_mul_right (10 ^ k) (show acc * 10 + (c.toNat - 48) ≤ acc * 10 + 9 by omega)
        omega
      have h4 : (acc * 10 + 9) * 10 ^ k + 10 ^ k = acc * (10 ^ k * 10) + 10 ^ k * 10 := by
        rw [Nat.add_mul, Nat.mul_assoc, Nat.mul_comm 10 (10 ^ k)]; omega
      omega
theorem parse32_ok {l : List UInt8} (h0 : l ≠ []) (hd : l.all dig = true) (hl : l.length ≤ 9) : parseUintB 32 l = .ok (numL l) := by
  unfold parseUintB
  rw [if_neg h0]
  exact parseM_ok l 0 hd (fun k hk => by
    have : 10 ^ k ≤ 10 ^ 9 := Nat.pow_le_pow_right (by omega) (by omega)
    omega) (by decide)
def tens : List UInt8 := [48, 49, 50, 51, 52, 53, 54, 55, 56, 57]
theorem tens_dig (c : UInt8) : tens.contains c = dig c := by
  rw [Bool.eq_iff_iff]
  simp only [tens, dig, decide_eq_true_eq, List.contains_iff_mem, List.mem_cons, List.not_mem_nil, or_false]
  constructor
  · rintro (rfl | rfl | rfl | rfl | rfl | rfl | rfl | rfl | rfl | rfl) <;> decide
  · intro h
    have : c = UInt8.ofNat c.toNat := by simp
    generalize c.toNat = n at *
    subst this
    have : n = 48 ∨ n = 49 ∨ n = 50 ∨ n = 51 ∨ n = 52 ∨ n = 53 ∨ n = 54 ∨ n = 55 ∨ n = 56 ∨ n = 57 := by omega
    rcases this with rfl | rfl | rfl | rfl | rfl | rfl | rfl | rfl | rfl | rfl <;> simp
theorem trim_digits (l : List UInt8) : trimS l tens = [] ↔ l.all dig = true := by
  have e : (fun c => tens.contains c) = dig := funext tens_dig
  unfold trimS trimLeftS trimRightS
  rw [e]
  constructor
  · intro h
    have h1 : ∀ m : List UInt8, m.dropWhile dig = [] ↔ m.all dig = true := fun m => by
      induction m with
      | nil => simp
      | cons a r ih =>
        simp only [List.dropWhile_cons, List.all_cons]
        cases dig a <;> simp [ih]
    rw [h1, List.all_reverse, ← h1] at h
    by_cases h2 : l.reverse.dropWhile dig = []
    · rw [h1, List.all_reverse] at h2; exact h2
    · exfalso
      have h3 := List.head?_dropWhile_not dig l.reverse
      generalize l.reverse.dropWhile dig = m at *
      cases m with
      | nil => exact h2 rfl
      | cons a r =>
        simp at h3 h
        rw [List.dropWhile_cons] at h
        simp [h3] at h
  · intro h
    have h1 : l.reverse.dropWhile dig = [] := by
      have h2 : ∀ m : List UInt8, m.all dig = true → m.dropWhile dig = [] := fun m => by
        induction m with
        | nil => simp
        | cons a r ih => intro hm; simp only [List.all_cons, Bool.and_eq_true] at hm; rw [List.dropWhile_cons, if_pos hm.1, ih hm.2]
      exact h2 _ (by rw [List.all_reverse]; exact h)
    rw [h1]; rfl
end Go.Proofs.YtkjlmibleoecgaaGreatDoor
