/- The program's nat, part 11: Text. -/
import Derived.Test.YtkjlmibleoecgaaDoorNat9
import Derived.Test.YtkjlmibleoecgaaDoorK5
import Derived.Test.YtkjlmibleoecgaaDoorK6
import Derived.Lib.LazyBuf
import Derived.Lib.Repeat
namespace Go.Proofs.YtkjlmibleoecgaaDoor
open Go.RowKit
open Go.Lib (decDigits)
set_option linter.unusedSimpArgs false
set_option linter.unusedVariables false
set_option exponentiation.threshold 100

abbrev encS : ByteArray → Value := fun b : ByteArray => Value.string b
theorem info_string : (Tryd.prog.info? 9).map (fun i => (i.zero, i.size, i.bytes)) = some (some (.string ⟨#[]⟩), 1, 16) := by kernel_rfl
/-- The pieces' bytes, the last piece ahead. -/
def cat (ps : List ByteArray) : List UInt8 := (ps.reverse.map (·.data.toList)).flatten
theorem cat_snoc (ps : List ByteArray) (p : ByteArray) : cat (ps ++ [p]) = p.data.toList ++ cat ps := by simp [cat]
/-- What is left to be said, and the pieces. -/
def rest (m : Nat) : List UInt8 := if m = 0 then [] else decDigits m
theorem repeat_zero (c : Nat) : Lib.repeatL [48] c = List.replicate c 48 := by
  induction c with
  | zero => rfl
  | succ c ih => rw [Lib.repeatL, ih]; rfl
theorem rest_step {m : Nat} (h : 0 < m) : rest m = rest (m / 1000000000) ++ (if m / 1000000000 = 0 then decDigits (m % 1000000000) else pad9 (decDigits (m % 1000000000))) := by
  unfold rest
  rw [if_neg (by omega)]
  by_cases h1 : m / 1000000000 = 0
  · rw [if_pos h1, if_pos h1, Nat.mod_eq_of_lt (by omega)]; rfl
  · rw [if_neg h1, if_neg h1]; exact dec_nine (by omega)
theorem many_le {m n L k : Nat} (h0 : 0 < m) (h : m * 2 ^ k ≤ n) (hl : (dg B32 n).length ≤ L) : k < 32 * L := by
  have h1 := dg_lt_pow B32_2 n
  have h2 : B32 ^ (dg B32 n).length ≤ B32 ^ L := Nat.pow_le_pow_right (by rw [B32_eq]; omega) hl
  have h3 : 2 ^ k ≤ m * 2 ^ k := Nat.le_mul_of_pos_left _ h0
  have h4 : B32 ^ L = 2 ^ (32 * L) := by rw [B32_eq, Nat.pow_mul]
  exact (Nat.pow_lt_pow_iff_right (a := 2) (by omega)).1 (by omega)

theorem dec_len_of {n L : Nat} (hl : (dg B32 n).length ≤ L) (h0 : 0 < L) : (decDigits n).length ≤ 10 * L := by
  have h1 := dg_lt_pow B32_2 n
  have h2 : B32 ^ (dg B32 n).length ≤ B32 ^ L := Nat.pow_le_pow_right (by rw [B32_eq]; omega) hl
  have h3 : B32 ^ L ≤ (10 ^ 10) ^ L := Nat.pow_le_pow_left (by rw [B32_eq]; omega) _
  rw [← Nat.pow_mul] at h3
  have h4 : n < 10 ^ (10 * L) := Nat.lt_of_lt_of_le h1 (Nat.le_trans h2 h3)
  exact dec_len_le h4 (by omega)
end Go.Proofs.YtkjlmibleoecgaaDoor
