/- Contracts with sizes of the reference. -/
import Derived.Test.YtkjlmibleoecgaaGreatDoorCon
import Derived.Test.YtkjlmibleoecgaaGreatDoorRef5
import Derived.Test.YtkjlmibleoecgaaGreatDoorRef6
import Derived.Test.YtkjlmibleoecgaaGreatDoorRef7
import Derived.Test.YtkjlmibleoecgaaGreatDoorRef8
namespace Go.Proofs.YtkjlmibleoecgaaGreatDoor
set_option linter.unusedSimpArgs false
set_option linter.unusedVariables false
open Go.RowKit
/-- v is the reference's nat n, of k digits at most. -/
structure RefB (w : World) (v : Value) (n k : Nat) : Prop where
  v : RefV w v n
  k : (dg B9 n).length ≤ k
theorem RefB.new {w w' : World} {v : Value} {n k : Nat} (h : RefB w v n k) (hn : New w w') : RefB w' v n k := ⟨h.v.new hn, h.k⟩
theorem RefB.form {w : World} {v : Value} {n k : Nat} (h : RefB w v n k) : ∃ A l c, v = .agg #[.slice A l c] := h.v.form
section
variable {w : World} {u v : Value} {x y k j : Nat}
theorem radd_b (hu : RefB w u x k) (hv : RefB w v y j) (hk : k ≤ 100000) (hj : j ≤ 100000) :
    Calls Tryz.prog 95 #[u, v] w fun e w' => ∃ v, e = .returned v ∧ RefB w' v (x + y) (k + j + 1) ∧ New w w' :=
  (radd_c hu.v hv.v (by have := hu.k; omega) (by have := hv.k; omega)).mono fun e w' ⟨v, h1, h2, h3⟩ => ⟨v, h1, ⟨h2, by have := dg_len_add B9_2 x y; have := hu.k; have := hv.k; omega⟩, h3⟩
theorem rmul_b (hu : RefB w u x k) (hv : RefB w v y j) (hk : k ≤ 100000) (hj : j ≤ 100000) :
    Calls Tryz.prog 97 #[u, v] w fun e w' => ∃ v, e = .returned v ∧ RefB w' v (x * y) (k + j) ∧ New w w' :=
  (rmul_c hu.v hv.v (by have := hu.k; omega) (by have := hv.k; omega)).mono fun e w' ⟨v, h1, h2, h3⟩ => ⟨v, h1, ⟨h2, by have := dg_len_mul B9_2 x y; have := hu.k; have := hv.k; omega⟩, h3⟩
theorem rsub_e (hu : RefB w u x k) (hv : RefB w v y j) (hk : k ≤ 100000) (hj : j ≤ 100000) :
    Calls Tryz.prog 78 #[u, v] w fun e w' => ∃ v, e = .returned (.tuple #[v, .int .i64 (subE x y)]) ∧ RefB w' v (x - y) k ∧ New w w' :=
  (rsub_c hu.v hv.v (by have := hu.k; omega) (by have := hv.k; omega)).mono fun e w' ⟨v, h1, h2, h3⟩ => ⟨v, h1, ⟨h2, by have := dg_len_mono B9_2 (Nat.sub_le x y); have := hu.k; omega⟩, h3⟩
theorem rcmp_b (hu : RefB w u x k) (hv : RefB w v y j) (hk : k ≤ 100000) (hj : j ≤ 100000) :
    Calls Tryz.prog 21 #[u, v] w fun e w' => e = .returned (.int .i64 (cmpN x y)) ∧ New w w' :=
  rcmp_c hu.v hv.v (by have := hu.k; omega) (by have := hv.k; omega)
theorem rtext_v (hu : RefB w u x k) (hk : k ≤ 100000) :
    Calls Tryz.prog 17 #[u] w fun e w' => e = .returned (.string (decS x)) ∧ New w w' :=
  rtext_c hu.v (by have := hu.k; omega)
end
end Go.Proofs.YtkjlmibleoecgaaGreatDoor
