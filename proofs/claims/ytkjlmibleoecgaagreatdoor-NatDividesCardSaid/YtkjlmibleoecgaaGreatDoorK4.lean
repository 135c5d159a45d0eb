/- Plain: how many binary digits a number has. -/
import Derived.Test.YtkjlmibleoecgaaGreatDoorNat10
namespace Go.Proofs.YtkjlmibleoecgaaGreatDoor
open Go.RowKit

theorem bitLenAux_spec : ∀ (f x : Nat), 0 < x → x < 2 ^ f → 0 < Lib.bitLenAux f x ∧ 2 ^ (Lib.bitLenAux f x - 1) ≤ x ∧ x < 2 ^ Lib.bitLenAux f x
  | 0, x, h0, h => by simp at h; omega
  | f + 1, x, h0, h => by
    unfold Lib.bitLenAux
    rw [if_neg (by omega)]
    by_cases h1 : x = 1
    · subst h1
      have : Lib.bitLenAux f (1 / 2) = 0 := by cases f <;> simp [Lib.bitLenAux]
      rw [this]; simp
    · obtain ⟨a, b, c⟩ := bitLenAux_spec f (x / 2) (by omega) (by rw [Nat.pow_succ] at h; omega)
      generalize Lib.bitLenAux f (x / 2) = k at *
      obtain ⟨j, rfl⟩ : ∃ j, k = j + 1 := ⟨k - 1, by omega⟩
      rw [show j + 1 - 1 = j by omega] at b
      refine ⟨by omega, ?_, ?_⟩
      · rw [show 1 + (j + 1) - 1 = j + 1 by omega, Nat.pow_succ]; omega
      · rw [show 1 + (j + 1) = j + 1 + 1 by omega, Nat.pow_succ 2 (j + 1)]; omega
theorem bitLen_spec {x : Nat} (h0 : 0 < x) (h : x < 2 ^ 64) : 0 < Lib.bitLen x ∧ 2 ^ (Lib.bitLen x - 1) ≤ x ∧ x < 2 ^ Lib.bitLen x := bitLenAux_spec 64 x h0 h
theorem B32_pow (k : Nat) : B32 ^ k = 2 ^ (32 * k) := by rw [B32_eq, Nat.pow_mul]
theorem bitsN_zero : bitsN 0 = 0 := rfl
theorem bitsN_spec {x : Nat} (h0 : 0 < x) : 0 < bitsN x ∧ 2 ^ (bitsN x - 1) ≤ x ∧ x < 2 ^ bitsN x := by
  have hne : dg B32 x ≠ [] := fun h => by rw [dg_nil B32_2] at h; omega
  have hl : 0 < (dg B32 x).length := List.length_pos_iff.2 hne
  have hv := dg_val B32_2 x
  have hlast := dg_last B32_2 x
  have hlt := dg_lt B32_2 x
  unfold bitsN
  rw [if_neg (by omega)]
  generalize dg B32 x = xs at *
  rcases List.eq_nil_or_concat xs with rfl | ⟨l, t, rfl⟩
  · exact absurd rfl hne
  · rw [List.concat_eq_append] at *
    have ht : t ≠ 0 := hlast t (by simp)
    have htl : t < B32 := hlt t (by simp)
    rw [val_snoc] at hv
    have hlow := val_lt (b := B32) (xs := l) (by rw [B32_eq]; omega) (fun d hd => hlt d (by simp [hd]))
    have hg : (l ++ [t]).getD ((l ++ [t]).length - 1) 0 = t := by simp
    rw [hg]
    obtain ⟨a, b, c⟩ := bitLen_spec (x := t) (by omega) (by rw [B32_eq] at htl; omega)
    generalize Lib.bitLen t = k at *
    rw [show (l ++ [t]).length - 1 = l.length by simp, ← hv]
    rw [B32_pow] at *
    obtain ⟨j, rfl⟩ : ∃ j, k = j + 1 := ⟨k - 1, by omega⟩
    rw [show j + 1 - 1 = j by omega] at b
    refine ⟨by omega, ?_, ?_⟩
    · rw [show 32 * l.length + (j + 1) - 1 = 32 * l.length + j by omega, Nat.pow_add]
      exact Nat.le_trans (Nat.mul_le_mul_left _ b) (Nat.le_add_left _ _)
    · rw [Nat.pow_add]
      have : 2 ^ (32 * l.length) * (t + 1) ≤ 2 ^ (32 * l.length) * 2 ^ (j + 1) := Nat.mul_le_mul_left _ (by omega)
      rw [Nat.mul_add] at this
      omega
theorem bitsN_is {x k : Nat} (h1 : 2 ^ k ≤ x) (h2 : x < 2 ^ (k + 1)) : bitsN x = k + 1 := by
  have h0 : 0 < x := Nat.lt_of_lt_of_le (Nat.pow_pos (by omega)) h1
  obtain ⟨a, b, c⟩ := bitsN_spec h0
  have e1 : k < bitsN x := (Nat.pow_lt_pow_iff_right (by omega)).1 (Nat.lt_of_le_of_lt h1 c)
  have e2 : bitsN x - 1 < k + 1 := (Nat.pow_lt_pow_iff_right (by omega)).1 (Nat.lt_of_le_of_lt b h2)
  omega
theorem bitsN_two {x : Nat} (h0 : 0 < x) : bitsN (x + x) = bitsN x + 1 := by
  obtain ⟨a, b, c⟩ := bitsN_spec h0
  generalize bitsN x = k at *
  obtain ⟨j, rfl⟩ : ∃ j, k = j + 1 := ⟨k - 1, by omega⟩
  rw [show j + 1 - 1 = j by omega] at b
  exact bitsN_is (by rw [Nat.pow_succ]; omega) (by rw [Nat.pow_succ 2 (j + 1)]; omega)
theorem bitsN_pow (k : Nat) : bitsN (2 ^ k) = k + 1 := bitsN_is (Nat.le_refl _) (Nat.pow_lt_pow_right (by omega) (by omega))
theorem bitsN_le {x k : Nat} (h : x < 2 ^ k) : bitsN x ≤ k := by
  rcases Nat.eq_zero_or_pos x with rfl | h0
  · rw [bitsN_zero]; omega
  · obtain ⟨a, b, c⟩ := bitsN_spec h0
    have : bitsN x - 1 < k := (Nat.pow_lt_pow_iff_right (by omega)).1 (Nat.lt_of_le_of_lt b h)
    omega
end Go.Proofs.YtkjlmibleoecgaaGreatDoor
