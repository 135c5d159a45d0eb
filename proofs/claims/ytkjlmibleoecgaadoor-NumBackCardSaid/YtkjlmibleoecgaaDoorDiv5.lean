/- word; numbers of two limbs. -/
import Derived.Test.YtkjlmibleoecgaaDoorCon
namespace Go.Proofs.YtkjlmibleoecgaaDoor
set_option linter.unusedSimpArgs false
set_option linter.unusedVariables false
open Go.RowKit
theorem NatV.len {w : World} {A : Option Addr} {l c n : Nat} (h : NatV w (.agg #[.slice A l c]) n) : l = (dg B32 n).length := by
  obtain ⟨_, e, A', c', rfl, _⟩ := h
  simp only [Value.agg.injEq, Array.mk.injEq, List.cons.injEq, and_true] at e
  injection e
theorem word_step {n d k : Nat} (hk : k < 2) (hn : n < B32 ^ k) (hd : d < B32) :
    Go.bits .or .u64 (n : Int) (IntKind.u64.wrap ((d : Int) * 2 ^ (32 * k))) = ((n + B32 ^ k * d : Nat) : Int) ∧ n + B32 ^ k * d < B32 ^ (k + 1) := by
  have e : B32 ^ k = 2 ^ (32 * k) := by rw [B32_eq, show (4294967296 : Nat) = 2 ^ 32 from rfl, ← Nat.pow_mul]
  have h1 : n + B32 ^ k * d < B32 ^ (k + 1) := by
    rw [Nat.pow_succ]
    have : B32 ^ k * (d + 1) ≤ B32 ^ k * B32 := Nat.mul_le_mul_left _ hd
    rw [Nat.mul_add] at this; omega
  have h2 : B32 ^ (k + 1) ≤ B32 ^ 2 := Nat.pow_le_pow_right (by rw [B32_eq]; omega) (by omega)
  have h3 : B32 ^ 2 = 18446744073709551616 := by rw [B32_eq]
  have h4 := Nat.two_pow_add_eq_or_of_lt (i := 32 * k) (b := n) (by rw [← e]; exact hn) d
  have h5 : IntKind.u64.wrap ((d : Int) * 2 ^ (32 * k)) = ((B32 ^ k * d : Nat) : Int) := by
    rw [show (d : Int) * 2 ^ (32 * k) = ((B32 ^ k * d : Nat) : Int) by rw [e, Int.natCast_mul, Int.natCast_pow, Int.mul_comm]; rfl]
    exact IntWalk.u64_in _ (by omega)
  refine ⟨?_, h1⟩
  rw [h5, u64_or_nat _ _ (by omega) (by omega), Nat.or_comm, e, ← h4, Nat.add_comm]
end Go.Proofs.YtkjlmibleoecgaaDoor
