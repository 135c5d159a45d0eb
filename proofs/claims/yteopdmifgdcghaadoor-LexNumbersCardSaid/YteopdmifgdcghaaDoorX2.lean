/- Decimal texts, and whole numbers' texts, in plain words. -/
import Derived.Test.YteopdmifgdcghaaDoorB0
import Derived.Lib.ItoaNum
import Derived.Lib.AtoiAll
namespace Go.Proofs.YteopdmifgdcghaaDoor
open Go.Lib

/-- Is it a digit? -/
def dig (c : UInt8) : Bool := decide (48 ≤ c.toNat ∧ c.toNat ≤ 57)
/-- The number that digits are. -/
def numL (l : List UInt8) : Nat := l.foldl (fun a c => a * 10 + (c.toNat - 48)) 0
theorem numL_snoc (l : List UInt8) (c : UInt8) : numL (l ++ [c]) = numL l * 10 + (c.toNat - 48) := by simp [numL]
theorem numL_nil : numL [] = 0 := rfl
theorem numL_append (l : List UInt8) : ∀ r : List UInt8, numL (l ++ r) = numL l * 10 ^ r.length + numL r := by
  intro r
  induction hn : r.length generalizing r with
  | zero => rw [List.length_eq_zero_iff.1 hn]; simp [numL]
  | succ n ih =>
    rcases List.eq_nil_or_concat r with rfl | ⟨r', c, rfl⟩
    · cases hn
    · rw [List.concat_eq_append] at *
      have := ih r' (by simpa using hn)
      rw [← List.append_assoc, numL_snoc, this, numL_snoc, Nat.pow_succ, Nat.add_mul, Nat.mul_assoc]
      omega
theorem numL_lt {l : List UInt8} (h : l.all dig = true) : numL l < 10 ^ l.length := by
  induction hn : l.length generalizing l with
  | zero => rw [List.length_eq_zero_iff.1 hn]; simp [numL]
  | succ n ih =>
    rcases List.eq_nil_or_concat l with rfl | ⟨r, c, rfl⟩
    · cases hn
    · rw [List.concat_eq_append] at *
      simp only [List.all_append, Bool.and_eq_true, List.all_cons, List.all_nil, and_true] at h
      have h1 := ih h.1 (by simpa using hn)
      have h2 := h.2
      simp only [dig, decide_eq_true_eq] at h2
      rw [numL_snoc, Nat.pow_succ]; omega
/-- Is it a number's text? -/
def isNum (l : List UInt8) : Bool := !l.isEmpty && l.all dig && (l.head? != some 48 || l.length == 1)
def pErr (l : List UInt8) : Int := if isNum l = true then 0 else 10
def pNum (l : List UInt8) : Nat := if isNum l = true then numL l else 0
theorem isNum_snoc {l : List UInt8} {c : UInt8} (h : isNum (l ++ [c]) = true) (hl : l ≠ []) : isNum l = true ∧ dig c = true ∧ l.head? ≠ some 48 := by
  cases l with
  | nil => exact absurd rfl hl
  | cons a r =>
    simp [isNum] at h ⊢
    exact ⟨⟨⟨h.1.1, h.1.2.1⟩, .inl h.2⟩, h.1.2.2, h.2⟩
theorem numL_pos {l : List UInt8} (hl : l ≠ []) (hd : l.all dig = true) (h0 : l.head? ≠ some 48) : 0 < numL l := by
  cases l with
  | nil => exact absurd rfl hl
  | cons a r =>
    have e := numL_append [a] r
    rw [List.singleton_append] at e
    rw [e]
    simp only [List.all_cons, Bool.and_eq_true, dig, decide_eq_true_eq] at hd
    have ha : a.toNat ≠ 48 := fun h => h0 (by simp; exact UInt8.toNat_inj.1 h)
    have : 1 ≤ numL [a] := by simp [numL]; omega
    have h10 : 0 < 10 ^ r.length := Nat.pow_pos (by omega)
    have := Nat.mul_le_mul this h10
    omega
theorem dec_small {i : Nat} (h : i < 10) : decDigits i = [UInt8.ofNat (48 + i)] := decDigits_one h
theorem dec_big {u : Nat} (h : ¬ u < 10) : decDigits u = decDigits (u / 10) ++ [UInt8.ofNat (48 + u % 10)] := by
  conv => lhs; rw [decDigits]
  rw [dif_neg h]
theorem dec_num {l : List UInt8} (h : isNum l = true) : decDigits (numL l) = l := by
  induction hn : l.length generalizing l with
  | zero => rw [List.length_eq_zero_iff.1 hn] at h; simp [isNum] at h
  | succ n ih =>
    rcases List.eq_nil_or_concat l with rfl | ⟨r, c, rfl⟩
    · cases hn
    · rw [List.concat_eq_append] at *
      by_cases hr : r = []
      · subst hr
        simp only [List.nil_append] at *
        have hc : dig c = true := by simp [isNum] at h; exact h
        simp only [dig, decide_eq_true_eq] at hc
        have e : numL [c] = c.toNat - 48 := by simp [numL]
        rw [e, dec_small (by omega)]
        congr 1
        apply UInt8.toNat_inj.1
        rw [UInt8.toNat_ofNat']
        omega
      · obtain ⟨h1, h2, h3⟩ := isNum_snoc h hr
        have hp := numL_pos hr (by simp [isNum] at h1; simpa using h1.1.2) h3
        simp only [dig, decide_eq_true_eq] at h2
        rw [numL_snoc, dec_big (by omega), show (numL r * 10 + (c.toNat - 48)) / 10 = numL r from by omega, ih h1 (by simpa using hn)]
        congr 2
        apply UInt8.toNat_inj.1
        rw [UInt8.toNat_ofNat']
        omega
theorem num_dec (u : Nat) : numL (decDigits u) = u := by
  induction u using Nat.strongRecOn with
  | _ u ih =>
    by_cases h : u < 10
    · rw [dec_small h]
      simp [numL, UInt8.toNat_ofNat']; omega
    · rw [dec_big h, numL_snoc, ih _ (by omega), UInt8.toNat_ofNat']; omega
theorem dec_dig (u : Nat) : (decDigits u).all dig = true := by
  induction u using Nat.strongRecOn with
  | _ u ih =>
    by_cases h : u < 10
    · rw [dec_small h]
      simp [dig, UInt8.toNat_ofNat']; omega
    · rw [dec_big h, List.all_append, ih _ (by omega)]
      simp [dig, UInt8.toNat_ofNat']; omega
theorem dec_ne (u : Nat) : decDigits u ≠ [] := by
  by_cases h : u < 10
  · rw [dec_small h]; simp
  · rw [dec_big h]; simp
theorem dec_head (u : Nat) : (decDigits u).head? = some 48 → u = 0 := by
  induction u using Nat.strongRecOn with
  | _ u ih =>
    intro hh
    by_cases h : u < 10
    · rw [dec_small h] at hh
      simp at hh
      have := congrArg UInt8.toNat hh
      rw [UInt8.toNat_ofNat'] at this
      simp at this; omega
    · rw [dec_big h, List.head?_append] at hh
      have h1 := dec_ne (u / 10)
      cases hd : decDigits (u / 10) with
      | nil => exact absurd hd h1
      | cons a r =>
        rw [hd] at hh
        have := ih (u / 10) (by omega) (by rw [hd]; simpa using hh); omega
theorem isNum_dec (u : Nat) : isNum (decDigits u) = true := by
  unfold isNum
  have h1 := dec_ne u
  have h2 := dec_dig u
  by_cases h : (decDigits u).head? = some 48
  · rw [dec_head u h, dec_small (by omega)]; decide
  · have h3 : ((decDigits u).head? != some 48) = true := by simpa using h
    rw [h2, h3]; simp [h1]
theorem pErr_dec (u : Nat) : pErr (decDigits u) = 0 := by unfold pErr; rw [if_pos (isNum_dec u)]
theorem pNum_dec (u : Nat) : pNum (decDigits u) = u := by unfold pNum; rw [if_pos (isNum_dec u), num_dec]
theorem dec_inj {a b : Nat} (h : decDigits a = decDigits b) : a = b := by rw [← num_dec a, ← num_dec b, h]
theorem numL_ge : ∀ l : List UInt8, l ≠ [] → l.all dig = true → l.head? ≠ some 48 → 10 ^ (l.length - 1) ≤ numL l
  | [], h, _, _ => absurd rfl h
  | c :: r, _, hd, hh => by
    have e := numL_append [c] r
    rw [List.singleton_append] at e
    rw [e]
    have h1 : dig c = true := by simp at hd; exact hd.1
    have h2 : c ≠ 48 := fun h => hh (by rw [h]; rfl)
    have h3 : 1 ≤ numL [c] := by
      unfold dig at h1
      have h4 := of_decide_eq_true h1
      have h5 : c.toNat ≠ 48 := fun h => h2 (UInt8.toNat_inj.1 h)
      have : numL [c] = c.toNat - 48 := by simp [numL]
      omega
    have : 10 ^ ((c :: r).length - 1) = 10 ^ r.length := by simp
    rw [this]
    have := Nat.mul_le_mul_right (10 ^ r.length) h3
    omega
theorem parse10_ok : ∀ (l : List UInt8) (acc : Nat), l.all dig = true → (acc + 1) * 10 ^ l.length ≤ 1000000000000000000 → parseUint10 acc l = .ok (acc * 10 ^ l.length + numL l)
  | [], acc, _, _ => by simp [parseUint10, numL]
  | c :: r, acc, hd, hb => by
    have h1 : dig c = true := by simp at hd; exact hd.1
    have h2 : r.all dig = true := by
      rw [List.all_cons, Bool.and_eq_true] at hd
      exact hd.2
    unfold dig at h1
    have h4 := of_decide_eq_true h1
    have hp : 1 ≤ 10 ^ r.length := Nat.one_le_pow _ _ (by omega)
    have hb2 : (acc + 1) * (10 ^ r.length * 10) ≤ 1000000000000000000 := by rw [← Nat.pow_succ]; exact hb
    have hb3 : (acc * 10 + (c.toNat - 48) + 1) * 10 ^ r.length ≤ 1000000000000000000 := by
      refine Nat.le_trans (Nat.mul_le_mul_right _ (show acc * 10 + (c.toNat - 48) + 1 ≤ (acc + 1) * 10 by omega)) ?_
      rw [Nat.mul_assoc, Nat.mul_comm 10]
      exact hb2
    have hs : acc * 10 + (c.toNat - 48) + 1 ≤ 1000000000000000000 := Nat.le_trans (by
      have := Nat.mul_le_mul_left (acc * 10 + (c.toNat - 48) + 1) hp
      omega) hb3
    unfold parseUint10
    rw [if_pos h4, if_neg (by omega), if_neg (by omega), parse10_ok r _ h2 hb3]
    have e := numL_append [c] r
    rw [List.singleton_append] at e
    have e1 : numL [c] = c.toNat - 48 := by simp [numL]
    rw [e, e1, List.length_cons, Nat.pow_succ]
    congr 1
    rw [Nat.add_mul, Nat.mul_assoc, Nat.mul_comm 10]
    omega
/-- The document's rule for the text of a number. -/
def refN (l : List UInt8) : Option Int :=
  if l.head? = some 45 then (if isNum l.tail = true ∧ l.tail.length ≤ 10 ∧ l.tail.head? ≠ some 48 ∧ numL l.tail ≤ 1000000000 then some (-(numL l.tail : Int)) else none)
  else (if isNum l = true ∧ l.length ≤ 10 ∧ numL l ≤ 1000000000 then some (numL l : Int) else none)
theorem dec_len {u : Nat} (h : u ≤ 1000000000) : (decDigits u).length ≤ 10 := by
  by_cases h0 : u = 0
  · subst h0
    rw [decDigits_one (by omega)]
    decide
  · have h1 := numL_ge (decDigits u) (dec_ne u) (dec_dig u) (fun hh => h0 (dec_head u hh))
    rw [num_dec] at h1
    rcases Nat.lt_or_ge 10 (decDigits u).length with hh | hh
    · have : 10 ^ 10 ≤ 10 ^ ((decDigits u).length - 1) := Nat.pow_le_pow_right (by omega) (by omega)
      omega
    · exact hh
theorem dec_head_dig (u : Nat) : ∃ c r, decDigits u = c :: r ∧ dig c = true := by
  have h1 := dec_ne u
  have h2 := dec_dig u
  cases h : decDigits u with
  | nil => exact absurd h h1
  | cons c r =>
    rw [h, List.all_cons, Bool.and_eq_true] at h2
    exact ⟨c, r, rfl, h2.1⟩
theorem not_minus {c : UInt8} (h : dig c = true) : c ≠ 45 ∧ c.toNat ≠ 45 ∧ c.toNat ≠ 43 := by
  unfold dig at h
  have h4 := of_decide_eq_true h
  refine ⟨fun e => ?_, by omega, by omega⟩
  rw [e] at h4
  revert h4
  decide
/-- A number's text is read as that number. -/
theorem refN_itoa {n : Int} (h0 : -1000000000 ≤ n) (h1 : n ≤ 1000000000) : refN (itoa n) = some n := by
  by_cases hn : n < 0
  · obtain ⟨u, rfl⟩ : ∃ u : Nat, n = -(u : Int) := ⟨n.natAbs, by omega⟩
    have e : itoa (-(u : Int)) = 45 :: decDigits u := by unfold itoa; rw [if_pos hn]; simp
    rw [e]
    unfold refN
    rw [if_pos (show (45 :: decDigits u).head? = some 45 from rfl), List.tail_cons, if_pos ⟨isNum_dec u, dec_len (by omega), fun hh => by have := dec_head u hh; omega, by rw [num_dec]; omega⟩, num_dec]
  · obtain ⟨u, rfl⟩ : ∃ u : Nat, n = (u : Int) := ⟨n.toNat, by omega⟩
    have e : itoa (u : Int) = decDigits u := by unfold itoa; rw [if_neg hn]; simp
    rw [e]
    obtain ⟨c, r, ec, hc⟩ := dec_head_dig u
    unfold refN
    rw [if_neg (by rw [ec]; intro h; injection h with h; exact (not_minus hc).1 h), if_pos ⟨isNum_dec u, dec_len (by omega), by rw [num_dec]; omega⟩, num_dec]
/-- And no other text is. -/
theorem refN_some {l : List UInt8} {n : Int} (h : refN l = some n) : l = itoa n ∧ -1000000000 ≤ n ∧ n ≤ 1000000000 := by
  unfold refN at h
  split at h
  · rename_i hm
    split at h
    · rename_i hc
      obtain ⟨c1, c2, c3, c4⟩ := hc
      injection h with h
      subst h
      obtain ⟨c, r, e⟩ : ∃ c r, l = c :: r := by
        cases l with
        | nil => cases hm
        | cons c r => exact ⟨c, r, rfl⟩
      subst e
      injection hm with hm
      subst hm
      rw [List.tail_cons] at *
      have hd := dec_num c1
      have hpos : 0 < numL r := by
        unfold isNum at c1
        simp only [Bool.and_eq_true, Bool.not_eq_true', List.isEmpty_eq_false_iff] at c1
        exact numL_pos c1.1.1 c1.1.2 c3
      refine ⟨?_, by omega, by omega⟩
      unfold itoa
      rw [if_pos (by omega)]
      simp [hd]
    · cases h
  · split at h
    · rename_i hc
      obtain ⟨c1, c2, c4⟩ := hc
      injection h with h
      subst h
      refine ⟨?_, by omega, by omega⟩
      unfold itoa
      rw [if_neg (by omega)]
      simp [dec_num c1]
    · cases h
/-- strconv's own reading of a number's text. -/
theorem atoi_itoa {n : Int} (h0 : -1000000000 ≤ n) (h1 : n ≤ 1000000000) : atoiAll (itoa n) = .ok n := by
  have hp : ∀ u : Nat, u ≤ 1000000000 → parseMag (decDigits u) = .ok u := by
    intro u hu
    unfold parseMag
    rw [if_neg (dec_ne u)]
    have := parse10_ok (decDigits u) 0 (dec_dig u) (by
      have h := dec_len hu
      have : 10 ^ (decDigits u).length ≤ 10 ^ 10 := Nat.pow_le_pow_right (by omega) h
      omega)
    rw [this, num_dec]
    simp
  by_cases hn : n < 0
  · obtain ⟨u, rfl⟩ : ∃ u : Nat, n = -(u : Int) := ⟨n.natAbs, by omega⟩
    have e : itoa (-(u : Int)) = 45 :: decDigits u := by unfold itoa; rw [if_pos hn]; simp
    rw [e]
    unfold atoiAll
    simp only [show (45 : UInt8).toNat = 45 from rfl, or_true, if_true, hp u (by omega)]
    rw [if_neg (by omega), if_neg (by omega)]
  · obtain ⟨u, rfl⟩ : ∃ u : Nat, n = (u : Int) := ⟨n.toNat, by omega⟩
    have e : itoa (u : Int) = decDigits u := by unfold itoa; rw [if_neg hn]; simp
    rw [e]
    obtain ⟨c, r, ec, hc⟩ := dec_head_dig u
    have hm := not_minus hc
    have hpu := hp u (by omega)
    rw [ec] at hpu ⊢
    unfold atoiAll
    simp only [hm.2.1, hm.2.2, or_self, if_false, hpu, not_false_eq_true, true_and, false_and]
    rw [if_neg (by omega)]
/-- What the program makes of a text. -/
theorem prog_num (l : List UInt8) : (∃ n, atoiAll l = .ok n ∧ -1000000000 ≤ n ∧ n ≤ 1000000000 ∧ itoa n = l ∧ refN l = some n) ∨ ((∀ n, atoiAll l = .ok n → n < -1000000000 ∨ 1000000000 < n ∨ itoa n ≠ l) ∧ refN l = none) := by
  cases h : refN l with
  | some n =>
    obtain ⟨h1, h2, h3⟩ := refN_some h
    exact .inl ⟨n, by rw [h1]; exact atoi_itoa h2 h3, h2, h3, h1.symm, rfl⟩
  | none =>
    refine .inr ⟨fun n hn => ?_, rfl⟩
    by_cases h2 : n < -1000000000
    · exact .inl h2
    by_cases h3 : 1000000000 < n
    · exact .inr (.inl h3)
    · refine .inr (.inr fun e => ?_)
      have := refN_itoa (n := n) (by omega) (by omega)
      rw [e, h] at this
      cases this
end Go.Proofs.YteopdmifgdcghaaDoor
