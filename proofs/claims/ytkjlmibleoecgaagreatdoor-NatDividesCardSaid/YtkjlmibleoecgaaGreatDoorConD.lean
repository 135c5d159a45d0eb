/- Contracts with sizes of the long division, of the greatest divisor; texts of 0 and 1. -/
import Derived.Test.YtkjlmibleoecgaaGreatDoorGcd
namespace Go.Proofs.YtkjlmibleoecgaaGreatDoor
set_option linter.unusedSimpArgs false
set_option linter.unusedVariables false
open Go.RowKit
section
variable {w : World} {u v : Value} {x y k j : Nat}
theorem remZ_le (x y : Nat) : remZ x y ≤ x := by unfold remZ; split; omega; exact Nat.mod_le _ _
theorem divmod_b (hu : NatB w u x k) (hv : NatB w v y j) (hk : k ≤ 100000) (hj : j ≤ 100000) :
    Calls Tryz.prog 14 #[u, v] w fun e w' => ∃ q r, e = .returned (.tuple #[q, r, .int .i64 (divE y)]) ∧ NatB w' q (x / y) k ∧ NatB w' r (remZ x y) k ∧ New w w' :=
  (divmod_c hu.v hv.v (by have := hu.k; omega) (by have := hv.k; omega)).mono fun e w' ⟨q, r, h1, h2, h3, h4⟩ => ⟨q, r, h1, ⟨h2, Nat.le_trans (dg_len_mono B32_2 (Nat.div_le_self x y)) hu.k⟩, ⟨h3, Nat.le_trans (dg_len_mono B32_2 (remZ_le x y)) hu.k⟩, h4⟩
theorem divmod_b0 (hu : NatB w u x k) (hv : NatB w v 0 j) (hk : k ≤ 100000) (hj : j ≤ 100000) :
    Calls Tryz.prog 14 #[u, v] w fun e w' => ∃ q r, e = .returned (.tuple #[q, r, .int .i64 12]) ∧ NatB w' q 0 k ∧ NatB w' r 0 k ∧ New w w' := by
  have := divmod_b hu hv hk hj
  rw [Nat.div_zero] at this
  exact this
theorem divmod_b1 (hu : NatB w u x k) (hv : NatB w v y j) (hk : k ≤ 100000) (hj : j ≤ 100000) (h0 : 0 < y) :
    Calls Tryz.prog 14 #[u, v] w fun e w' => ∃ q r, e = .returned (.tuple #[q, r, .int .i64 0]) ∧ NatB w' q (x / y) k ∧ NatB w' r (x % y) k ∧ New w w' := by
  have h := divmod_b hu hv hk hj
  have e1 : divE y = 0 := by unfold divE; rw [if_neg (by omega)]
  have e2 : remZ x y = x % y := by unfold remZ; rw [if_neg (by omega)]
  rw [e1, e2] at h
  exact h
theorem gcd_le_max (x y : Nat) : Nat.gcd x y ≤ max x y := by
  rcases Nat.eq_zero_or_pos x with rfl | h
  · rw [Nat.gcd_zero_left]; omega
  · have := Nat.gcd_le_left y h; omega
theorem gcd_b (hu : NatB w u x k) (hv : NatB w v y j) (hk : k ≤ 100000) (hj : j ≤ 100000) :
    Calls Tryz.prog 18 #[u, v] w fun e w' => ∃ v, e = .returned v ∧ NatB w' v (Nat.gcd x y) (k + j) ∧ New w w' :=
  (gcd_c hu.v hv.v (by have := hu.k; omega) (by have := hv.k; omega)).mono fun e w' ⟨v, h1, h2, h3⟩ => ⟨v, h1, ⟨h2, by
    have h4 := dg_len_mono B32_2 (gcd_le_max x y)
    have h5 := hu.k
    have h6 := hv.k
    rcases Nat.le_total x y with h | h
    · rw [Nat.max_eq_right h] at h4; omega
    · rw [Nat.max_eq_left h] at h4; omega⟩, h3⟩
theorem cmp_below (hu : NatB w u x k) (hv : NatB w v y j) (hk : k ≤ 100000) (hj : j ≤ 100000) (h : x < y) :
    Calls Tryz.prog 20 #[u, v] w fun e w' => e = .returned (.int .i64 (-1)) ∧ New w w' := by
  have := cmp_b hu hv hk hj
  unfold cmpN at this
  rw [if_pos h] at this
  exact this
end
theorem decS_zero : decS 0 = ⟨#[48]⟩ := by unfold decS; rw [dec_small (by omega)]; rfl
theorem decS_one : decS 1 = ⟨#[49]⟩ := by unfold decS; rw [dec_small (by omega)]; rfl
theorem zero_of_text {s : ByteArray} (h : s.toList = [48]) : s = decS 0 := by
  rw [decS_zero]
  have h2 : s.data.toList = [48] := by rw [← Lib.toList_data]; exact h
  obtain ⟨⟨l⟩⟩ := s
  simp only at h2
  rw [h2]
theorem text_zero {s : ByteArray} {y : Nat} (h : decS y = s) (h0 : y = 0) : s.toList = [48] := by
  rw [← h, h0, decS_zero, Lib.toList_data]
theorem text_pos {s : ByteArray} {y : Nat} (h : decS y = s) (h0 : y ≠ 0) : (s.toList == [48]) = false := by
  rw [beq_eq_false_iff_ne]
  intro h2
  exact h0 (decS_inj (by rw [h, zero_of_text h2]))
end Go.Proofs.YtkjlmibleoecgaaGreatDoor
