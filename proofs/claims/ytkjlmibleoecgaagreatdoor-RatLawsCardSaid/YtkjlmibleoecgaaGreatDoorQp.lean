/- Plain: Make's fraction is in its lowest terms, and is one. -/
import Derived.Test.YtkjlmibleoecgaaGreatDoorQ2
namespace Go.Proofs.YtkjlmibleoecgaaGreatDoor
set_option linter.unusedSimpArgs false
set_option linter.unusedVariables false
theorem mk_spec {a b : Int} (h : b ≠ 0) : 0 < gcdZ a b ∧ upZ a b = (gcdZ a b : Int) * mkN a b ∧ upZ b b = (gcdZ a b : Int) * mkD a b ∧ 0 < mkD a b ∧ Nat.gcd (mkN a b).natAbs (mkD a b).natAbs = 1 := by
  have hg : 0 < gcdZ a b := Nat.gcd_pos_of_pos_right _ (by omega)
  have e1 : mkN a b = (upZ a b).tdiv (gcdZ a b) := by unfold mkN; rw [if_neg h]
  have e2 : mkD a b = (upZ b b).tdiv (gcdZ a b) := by unfold mkD; rw [if_neg h]
  have ha : (upZ a b).natAbs = a.natAbs := by unfold upZ; split <;> omega
  have hb : (upZ b b).natAbs = b.natAbs := by unfold upZ; split <;> omega
  have hb0 : 0 < upZ b b := by unfold upZ; split <;> omega
  have d1 : ((gcdZ a b : Nat) : Int) ∣ upZ a b := by
    rw [← Int.natAbs_dvd_natAbs, ha, Int.natAbs_natCast]; exact Nat.gcd_dvd_left _ _
  have d2 : ((gcdZ a b : Nat) : Int) ∣ upZ b b := by
    rw [← Int.natAbs_dvd_natAbs, hb, Int.natAbs_natCast]; exact Nat.gcd_dvd_right _ _
  obtain ⟨q, hq⟩ := d1
  obtain ⟨r, hr⟩ := d2
  have hgz : ((gcdZ a b : Nat) : Int) ≠ 0 := by omega
  have f1 : mkN a b = q := by rw [e1, hq, Int.mul_tdiv_cancel_left _ hgz]
  have f2 : mkD a b = r := by rw [e2, hr, Int.mul_tdiv_cancel_left _ hgz]
  have hr0 : 0 < r := by
    rcases Int.lt_or_le 0 r with h1 | h1
    · exact h1
    · exfalso
      have := Int.mul_nonpos_of_nonneg_of_nonpos (show 0 ≤ ((gcdZ a b : Nat) : Int) by omega) h1
      omega
  refine ⟨hg, by rw [f1]; exact hq, by rw [f2]; exact hr, by rw [f2]; exact hr0, ?_⟩
  rw [f1, f2]
  have ga : a.natAbs = gcdZ a b * q.natAbs := by rw [← ha, hq, Int.natAbs_mul, Int.natAbs_natCast]
  have gb : b.natAbs = gcdZ a b * r.natAbs := by rw [← hb, hr, Int.natAbs_mul, Int.natAbs_natCast]
  have key : gcdZ a b = gcdZ a b * Nat.gcd q.natAbs r.natAbs := by
    have : gcdZ a b = Nat.gcd (gcdZ a b * q.natAbs) (gcdZ a b * r.natAbs) := by rw [← ga, ← gb]; rfl
    rw [Nat.gcd_mul_left] at this
    exact this
  have : gcdZ a b * 1 = gcdZ a b * Nat.gcd q.natAbs r.natAbs := by rw [Nat.mul_one]; exact key
  exact (Nat.eq_of_mul_eq_mul_left hg this).symm
/-- What it is worth. -/
theorem mk_cross {a b : Int} (h : b ≠ 0) : mkN a b * b = a * mkD a b := by
  obtain ⟨hg, h1, h2, h3, h4⟩ := mk_spec (a := a) h
  have e : upZ a b * b = a * upZ b b := by
    unfold upZ
    by_cases hb : b < 0
    · rw [if_pos hb, if_pos hb, Int.neg_mul, Int.mul_neg]
    · rw [if_neg hb, if_neg hb]
  rw [h1, h2] at e
  have e2 : (gcdZ a b : Int) * (mkN a b * b) = (gcdZ a b : Int) * (a * mkD a b) := by
    rw [← Int.mul_assoc, e, Int.mul_left_comm]
  exact Int.eq_of_mul_eq_mul_left (by omega) e2
/-- Lowest terms are one. -/
theorem low_uniq {n d n' d' : Int} (hd : 0 < d) (hd' : 0 < d') (hc : Nat.gcd n.natAbs d.natAbs = 1) (hc' : Nat.gcd n'.natAbs d'.natAbs = 1) (h : n * d' = n' * d) : n = n' ∧ d = d' := by
  have ha : n.natAbs * d'.natAbs = n'.natAbs * d.natAbs := by rw [← Int.natAbs_mul, h, Int.natAbs_mul]
  have e1 : d.natAbs ∣ d'.natAbs := by
    have : d.natAbs ∣ n.natAbs * d'.natAbs := ⟨n'.natAbs, by rw [ha, Nat.mul_comm]⟩
    exact Nat.Coprime.dvd_of_dvd_mul_left (k := d.natAbs) (m := n.natAbs) (by rw [Nat.coprime_comm]; exact hc) this
  have e2 : d'.natAbs ∣ d.natAbs := by
    have : d'.natAbs ∣ n'.natAbs * d.natAbs := ⟨n.natAbs, by rw [← ha, Nat.mul_comm]⟩
    exact Nat.Coprime.dvd_of_dvd_mul_left (k := d'.natAbs) (m := n'.natAbs) (by rw [Nat.coprime_comm]; exact hc') this
  have e3 := Nat.dvd_antisymm e1 e2
  have e4 : d = d' := by omega
  subst e4
  exact ⟨Int.eq_of_mul_eq_mul_right (by omega) h, rfl⟩
end Go.Proofs.YtkjlmibleoecgaaGreatDoor
