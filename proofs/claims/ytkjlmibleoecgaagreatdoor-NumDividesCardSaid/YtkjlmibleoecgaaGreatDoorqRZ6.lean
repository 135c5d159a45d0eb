/- The reference of num: DivMod, whole. (Printed by mkrz3.py.) -/
import Derived.Test.YtkjlmibleoecgaaGreatDoorqRZ4
import Derived.Test.YtkjlmibleoecgaaGreatDoorqRZ5
namespace Go.Proofs.YtkjlmibleoecgaaGreatDoor
set_option linter.unusedSimpArgs false
set_option linter.unusedVariables false
open Go.RowKit
section
variable {w : World} {u v : Value} {z y : Int} {k j : Nat}
theorem rdivmod_n (hz : RNumB w u z k) (hy : RNumB w v y j) (hk : k ≤ 30000) (hj : j ≤ 30000) :
    Calls Tryz.prog 48 #[u, v] w fun e w' => ∃ q r, e = .returned (.tuple #[q, r, .int .i64 (divI y)]) ∧ RNumB w' q (fq z y) (k + 4) ∧ RNumB w' r (fr z y) (k + j + 1) ∧ New w w' := by
  by_cases h1 : y = 0
  · exact rdivmod_0 hz hy hk hj h1
  · by_cases h2 : remI z y = 0
    · exact rdivmod_1 hz hy hk hj h1 h2
    · rcases Int.lt_or_le (remI z y) 0 with h3 | h3 <;> rcases Int.lt_or_le y 0 with h4 | h4
      · exact rdivmod_nn hz hy hk hj h1 h2 h3 h4
      · exact rdivmod_np hz hy hk hj h1 h2 h3 (by omega)
      · exact rdivmod_pn hz hy hk hj h1 h2 (by omega) h4
      · exact rdivmod_pp hz hy hk hj h1 h2 (by omega) (by omega)
end
end Go.Proofs.YtkjlmibleoecgaaGreatDoor
