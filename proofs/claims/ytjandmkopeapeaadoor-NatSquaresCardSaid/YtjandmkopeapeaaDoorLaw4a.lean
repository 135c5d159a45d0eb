/- Contracts with sizes of the reference, and texts, for the laws of 01. -/
import Derived.Test.YtjandmkopeapeaaDoorLaw2a
import Derived.Test.YtjandmkopeapeaaDoorRef6
import Derived.Test.YtjandmkopeapeaaDoorRef7
import Derived.Test.YtjandmkopeapeaaDoorRef8
namespace Go.Proofs.YtjandmkopeapeaaDoor
set_option linter.unusedSimpArgs false
set_option linter.unusedVariables false
open Go.RowKit
/-- A number's text. -/
def decS (n : Nat) : ByteArray := ⟨(Lib.decDigits n).toArray⟩
theorem decS_of {n : Nat} {s : ByteArray} (h : Lib.decDigits n = s.data.toList) : decS n = s := by unfold decS; rw [h]
theorem decS_data (n : Nat) : (decS n).data.toList = Lib.decDigits n := rfl
theorem decS_inj {a b : Nat} (h : decS a = decS b) : a = b := dec_inj (by rw [← decS_data, h, decS_data])
/-- v is the reference's nat n, of k digits at most. -/
structure RefB (w : World) (v : Value) (n k : Nat) : Prop where
  v : RefV w v n
  k : (dg B9 n).length ≤ k
theorem RefB.new {w w' : World} {v : Value} {n k : Nat} (h : RefB w v n k) (hn : New w w') : RefB w' v n k := ⟨h.v.new hn, h.k⟩
theorem RefB.form {w : World} {v : Value} {n k : Nat} (h : RefB w v n k) : ∃ A l c, v = .agg #[.slice A l c] := h.v.form
theorem num_ref {a : ByteArray} (h : a.size ≤ 256) (hi : isNum a.data.toList = true) : (dg B9 (pNum a.data.toList)).length ≤ 1024 := by
  have hp : pNum a.data.toList = numL a.data.toList := by unfold pNum; rw [if_pos hi]
  have hd : a.data.toList.all dig = true := by
    unfold isNum at hi
    simp only [Bool.and_eq_true] at hi
    exact hi.1.2
  rw [hp]
  have h1 := numL_lt hd
  have h2 : numL a.data.toList < B9 ^ a.data.toList.length := Nat.lt_of_lt_of_le h1 (Nat.pow_le_pow_left (by rw [B9_eq]; omega) _)
  have h3 := dg_len B9_2 h2
  rw [← Lib.size_eq] at h3
  omega
section
variable {w : World} {u v : Value} {x y k j : Nat}
theorem radd_b (hu : RefB w u x k) (hv : RefB w v y j) (hk : k ≤ 100000) (hj : j ≤ 100000) :
    Calls Tryd.prog 23 #[u, v] w fun e w' => ∃ v, e = .returned v ∧ RefB w' v (x + y) (k + j + 1) ∧ New w w' :=
  (radd_c hu.v hv.v (by have := hu.k; omega) (by have := hv.k; omega)).mono fun e w' ⟨v, h1, h2, h3⟩ => ⟨v, h1, ⟨h2, by have := dg_len_add B9_2 x y; have := hu.k; have := hv.k; omega⟩, h3⟩
theorem rmul_b (hu : RefB w u x k) (hv : RefB w v y j) (hk : k ≤ 100000) (hj : j ≤ 100000) :
    Calls Tryd.prog 24 #[u, v] w fun e w' => ∃ v, e = .returned v ∧ RefB w' v (x * y) (k + j) ∧ New w w' :=
  (rmul_c hu.v hv.v (by have := hu.k; omega) (by have := hv.k; omega)).mono fun e w' ⟨v, h1, h2, h3⟩ => ⟨v, h1, ⟨h2, by have := dg_len_mul B9_2 x y; have := hu.k; have := hv.k; omega⟩, h3⟩
theorem rsub_e (hu : RefB w u x k) (hv : RefB w v y j) (hk : k ≤ 100000) (hj : j ≤ 100000) :
    Calls Tryd.prog 22 #[u, v] w fun e w' => ∃ v, e = .returned (.tuple #[v, .int .i64 (subE x y)]) ∧ RefB w' v (x - y) k ∧ New w w' :=
  (rsub_c hu.v hv.v (by have := hu.k; omega) (by have := hv.k; omega)).mono fun e w' ⟨v, h1, h2, h3⟩ => ⟨v, h1, ⟨h2, by have := dg_len_mono B9_2 (Nat.sub_le x y); have := hu.k; omega⟩, h3⟩
theorem sub_e (hu : NatB w u x k) (hv : NatB w v y j) (hk : k ≤ 100000) (hj : j ≤ 100000) :
    Calls Tryd.prog 21 #[u, v] w fun e w' => ∃ v, e = .returned (.tuple #[v, .int .i64 (subE x y)]) ∧ NatB w' v (x - y) k ∧ New w w' :=
  (sub_c hu.v hv.v (by have := hu.k; omega) (by have := hv.k; omega)).mono fun e w' ⟨v, h1, h2, h3⟩ => ⟨v, h1, ⟨h2, by have := dg_len_mono B32_2 (Nat.sub_le x y); have := hu.k; omega⟩, h3⟩
theorem rcmp_b (hu : RefB w u x k) (hv : RefB w v y j) (hk : k ≤ 100000) (hj : j ≤ 100000) :
    Calls Tryd.prog 38 #[u, v] w fun e w' => e = .returned (.int .i64 (cmpN x y)) ∧ New w w' :=
  rcmp_c hu.v hv.v (by have := hu.k; omega) (by have := hv.k; omega)
theorem cmp_b (hu : NatB w u x k) (hv : NatB w v y j) (hk : k ≤ 100000) (hj : j ≤ 100000) :
    Calls Tryd.prog 13 #[u, v] w fun e w' => e = .returned (.int .i64 (cmpN x y)) ∧ New w w' :=
  cmp_c hu.v hv.v (by have := hu.k; omega) (by have := hv.k; omega)
theorem text_v (hu : NatB w u x k) (hk : k ≤ 100000) (L : Lib.TabIs Tryd.prog w "internal/strconv.uint64pow10" .u64 Lib.pow10Tab) :
    Calls Tryd.prog 18 #[u] w fun e w' => e = .returned (.string (decS x)) ∧ New w w' :=
  text_c hu.v (by have := hu.k; omega) L
theorem text_s {s : ByteArray} (hu : NatB w u x k) (hk : k ≤ 100000) (L : Lib.TabIs Tryd.prog w "internal/strconv.uint64pow10" .u64 Lib.pow10Tab) (hs : decS x = s) :
    Calls Tryd.prog 18 #[u] w fun e w' => e = .returned (.string s) ∧ New w w' := hs ▸ text_v hu hk L
theorem rtext_v (hu : RefB w u x k) (hk : k ≤ 100000) :
    Calls Tryd.prog 20 #[u] w fun e w' => e = .returned (.string (decS x)) ∧ New w w' :=
  rtext_c hu.v (by have := hu.k; omega)
end
end Go.Proofs.YtjandmkopeapeaaDoor
