/- What the reference's Text says, in plain words. -/
import Derived.Test.YtkjlmibleoecgaaGreatDoorK2
import Derived.Test.YtkjlmibleoecgaaGreatDoorRef1
namespace Go.Proofs.YtkjlmibleoecgaaGreatDoor
open Go.RowKit
open Go.Lib (decDigits)
set_option linter.unusedVariables false
theorem dg_getD {b : Nat} (hb : 2 ≤ b) (i : Nat) : ∀ n, (dg b n).getD i 0 = n / b ^ i % b := by
  induction i with
  | zero =>
    intro n
    by_cases h : n = 0
    · subst h; rw [dg_zero]; simp
    · rw [dg_pos hb (by omega)]; simp
  | succ i ih =>
    intro n
    by_cases h : n = 0
    · subst h; rw [dg_zero]; simp
    · rw [dg_pos hb (by omega), List.getD_cons_succ, ih, Nat.div_div_eq_div_mul, Nat.pow_succ, Nat.mul_comm b]
theorem dg_above {b : Nat} (hb : 2 ≤ b) {n i : Nat} : i < (dg b n).length ↔ 0 < n / b ^ i := by
  have hp : 0 < b ^ i := Nat.pow_pos (by omega)
  rw [Nat.div_pos_iff]
  constructor
  · intro h
    refine ⟨hp, ?_⟩
    have hn : 0 < n := by
      rcases Nat.eq_zero_or_pos n with rfl | h0
      · rw [dg_zero] at h; cases h
      · exact h0
    exact Nat.le_trans (Nat.pow_le_pow_right (by omega) (by omega)) (pow_le_dg hb hn)
  · intro ⟨_, h⟩
    have h2 := dg_lt_pow hb n
    refine Nat.lt_of_not_le fun h3 => ?_
    have := Nat.pow_le_pow_right (n := b) (by omega) h3
    omega
/-- ds of N's digits are said; n is what is left of the limb, and takes e digits; M is above. -/
structure RT (N n j M : Nat) (ds : List Nat) : Prop where
  e : dg 10 N = ds ++ dg 10 (n + 10 ^ j * M)
  lt : n < 10 ^ j
theorem RT.step {N n e M : Nat} {ds : List Nat} (h : RT N n (e + 1) M ds) (hp : 0 < n ∨ 0 < M) : RT N (n / 10) e M (ds ++ [n % 10]) := by
  have h1 := h.lt
  have h10 : 0 < 10 ^ e := Nat.pow_pos (by omega)
  rw [Nat.pow_succ] at h1
  refine ⟨?_, by omega⟩
  rw [h.e]
  have e1 : 10 ^ (e + 1) * M = 10 * (10 ^ e * M) := by rw [Nat.pow_succ]; simp only [Nat.mul_assoc, Nat.mul_left_comm]
  have e2 : 0 < M → 0 < 10 ^ e * M := fun h => Nat.mul_pos h10 h
  rw [e1]
  generalize 10 ^ e * M = X at *
  rw [dg_pos (by omega) (by omega), show (n + 10 * X) % 10 = n % 10 by omega, show (n + 10 * X) / 10 = n / 10 + X by omega]
  simp
theorem RT.done {N n e M : Nat} {ds : List Nat} (h : RT N n e M ds) (hp : e = 0 ∨ n = 0 ∧ M = 0) : dg 10 N = ds ++ dg 10 M := by
  rw [h.e]
  rcases hp with rfl | ⟨rfl, rfl⟩
  · have := h.lt
    obtain rfl : n = 0 := by omega
    simp
  · simp
theorem RT.start {N i : Nat} {ds : List Nat} (h : dg 10 N = ds ++ dg 10 (N / B9 ^ i)) : RT N ((dg B9 N).getD i 0) 9 (N / B9 ^ (i + 1)) ds := by
  have e : N / B9 ^ (i + 1) = N / B9 ^ i / B9 := by rw [Nat.div_div_eq_div_mul, Nat.pow_succ]
  rw [dg_getD B9_2, e]
  refine ⟨?_, ?_⟩
  · rw [h]
    congr 2
    rw [show (10 : Nat) ^ 9 = B9 from rfl]
    have := Nat.mod_add_div (N / B9 ^ i) B9
    omega
  · exact Nat.mod_lt _ (by rw [B9_eq]; omega)
/-- A digit's byte. -/
def dgt (d : Nat) : UInt8 := UInt8.ofNat (48 + d)
theorem dec_dg {N : Nat} (h : 0 < N) : decDigits N = (dg 10 N).reverse.map dgt := by
  induction N using Nat.strongRecOn with
  | _ N ih =>
    by_cases h1 : N < 10
    · rw [dec_small h1, dg_pos (by omega) h, show N / 10 = 0 by omega, dg_zero, show N % 10 = N by omega]; rfl
    · rw [dec_big h1, ih _ (by omega) (by omega), dg_pos (b := 10) (by omega) h]
      simp [dgt]
theorem RT.len {N n e M : Nat} {ds : List Nat} (h : RT N n e M ds) : ds.length ≤ (dg 10 N).length := by rw [h.e]; simp
end Go.Proofs.YtkjlmibleoecgaaGreatDoor
