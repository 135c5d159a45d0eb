/- The laws of 01 over the contracts with sizes. -/
import Derived.Test.YtkjlmibleoecgaaGreatDoorLaw2a
import Derived.Test.YtkjlmibleoecgaaGreatDoorConR
namespace Go.Proofs.YtkjlmibleoecgaaGreatDoor
set_option linter.unusedSimpArgs false
set_option linter.unusedVariables false
open Go.RowKit
theorem num_ref {a : ByteArray} (h : a.size ≤ 256) (hi : isNum a.data.toList = true) : (dg B9 (pNum a.data.toList)).length ≤ 1024 := by
  have hp : pNum a.data.toList = numL a.data.toList := by unfold pNum; rw [if_pos hi]
  have hd : a.data.toList.all dig = true := by
    unfold isNum at hi
    simp only [Bool.and_eq_true] at hi
    exact hi.1.2
  rw [hp]
  have h1 := numL_lt hd
  have h2 : numL a.data.toList < B9 ^ a.data.toList.length := Nat.lt_of_lt_of_le h1 (Nat.pow_le_pow_left (by rw [B9_eq]; omega) _)
  have h3 := dg_len B9_2 h2
  rw [← Lib.size_eq] at h3
  omega
end Go.Proofs.YtkjlmibleoecgaaGreatDoor
