/- Plain: a number's decimal text, nine digits at a time. -/
import Derived.Test.YtkjlmibleoecgaaGreatDoorK2
namespace Go.Proofs.YtkjlmibleoecgaaGreatDoor
open Go.Lib (decDigits)

/-- Zeros ahead, to nine digits. -/
def pad9 (l : List UInt8) : List UInt8 := List.replicate (9 - l.length) 48 ++ l
theorem numL_zeros (k : Nat) (l : List UInt8) : numL (List.replicate k 48 ++ l) = numL l := by
  rw [numL_append]
  have : numL (List.replicate k 48) = 0 := by
    induction k with
    | zero => rfl
    | succ k ih =>
      rw [List.replicate_succ', numL_snoc, ih]; rfl
  rw [this, Nat.zero_mul, Nat.zero_add]
theorem dec_len_le {u k : Nat} (h : u < 10 ^ k) (hk : 0 < k) : (decDigits u).length ≤ k := by
  rcases Nat.eq_zero_or_pos u with rfl | h0
  · rw [dec_small (by omega)]; simp; omega
  · have hne := dec_ne u
    have hh : (decDigits u).head? ≠ some 48 := fun h1 => by have := dec_head u h1; omega
    have hd := dec_dig u
    have hv := num_dec u
    generalize decDigits u = l at *
    rw [← hv] at h
    cases l with
    | nil => exact absurd rfl hne
    | cons a r =>
      have e : numL (a :: r) = numL [a] * 10 ^ r.length + numL r := by rw [show a :: r = [a] ++ r from rfl, numL_append]
      have ha : 0 < numL [a] := numL_pos (by simp) (by simp at hd; simp [hd.1]) (by simpa using hh)
      have h1 : 10 ^ r.length ≤ numL [a] * 10 ^ r.length := Nat.le_mul_of_pos_left _ ha
      have h2 : 10 ^ r.length < 10 ^ k := by omega
      have := (Nat.pow_lt_pow_iff_right (a := 10) (by omega)).1 h2
      simp; omega
theorem pad9_len {u : Nat} (h : u < 1000000000) : (pad9 (decDigits u)).length = 9 := by
  have := dec_len_le (u := u) (k := 9) h (by omega)
  unfold pad9; simp; omega
theorem dec_nine {m : Nat} (h : 0 < m / 1000000000) : decDigits m = decDigits (m / 1000000000) ++ pad9 (decDigits (m % 1000000000)) := by
  have hr : m % 1000000000 < 1000000000 := Nat.mod_lt _ (by omega)
  have hn : numL (decDigits (m / 1000000000) ++ pad9 (decDigits (m % 1000000000))) = m := by
    rw [numL_append, pad9_len hr, num_dec]
    unfold pad9
    rw [numL_zeros, num_dec]
    have := Nat.div_add_mod m 1000000000
    have e : (10 : Nat) ^ 9 = 1000000000 := rfl
    rw [e]; omega
  have hi : isNum (decDigits (m / 1000000000) ++ pad9 (decDigits (m % 1000000000))) = true := by
    have hne := dec_ne (m / 1000000000)
    have hh : (decDigits (m / 1000000000)).head? ≠ some 48 := fun h1 => by have := dec_head _ h1; omega
    have h1 := dec_dig (m / 1000000000)
    have h2 := dec_dig (m % 1000000000)
    generalize decDigits (m / 1000000000) = a at *
    generalize decDigits (m % 1000000000) = b at *
    have hz : (List.replicate (9 - b.length) (48 : UInt8)).all dig = true := by
      rw [List.all_eq_true]; intro x hx; rw [List.eq_of_mem_replicate hx]; rfl
    unfold isNum pad9
    cases a with
    | nil => exact absurd rfl hne
    | cons c r =>
      rw [List.all_append, List.all_append, h1, h2, hz]
      have h3 : (some c != some 48) = true := by simpa using hh
      simp only [List.cons_append, List.head?_cons, h3]
      rfl
  have := dec_num hi
  rw [hn] at this
  exact this
end Go.Proofs.YtkjlmibleoecgaaGreatDoor
