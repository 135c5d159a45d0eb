/- Numbers by groups of seven bits, backwards: plain. -/
import Derived.Test.YtnmmcnblepadlaaR1
namespace Go.Proofs.Ytnmmcnblepadlaa
set_option linter.unusedSimpArgs false
set_option linter.unusedVariables false
open Go.RowKit

/-- What an unsigned number is as a signed one. -/
def dz (V : Nat) : Int := if V % 2 = 0 then ((V / 2 : Nat) : Int) else -((V / 2 : Nat) : Int) - 1
theorem dz_zz (m : Int) : dz (zz m) = m := by unfold dz zz; split <;> split <;> omega
theorem dz_ok {V : Nat} (h : V < 18446744073709551616) : i64ok (dz V) := by unfold dz i64ok; split <;> omega
theorem and127 (c : Nat) (h : c < 256) : bits .and .i64 (c : Int) 127 = ((c % 128 : Nat) : Int) := by
  show IntKind.i64.wrap ((BitVec.ofInt 64 (c : Int) &&& BitVec.ofInt 64 127).toNat : Int) = _
  rw [BitVec.toNat_and, ofInt64 _ (by omega) (by omega), ofInt64 _ (by omega) (by omega), Int.toNat_natCast, show (127 : Int).toNat = 2 ^ 7 - 1 from rfl, Nat.and_two_pow_sub_one_eq_mod, IntKind.wrap_i64]
  omega
theorem and1 (V : Nat) (h : V < 18446744073709551616) : bits .and .u64 (V : Int) 1 = ((V % 2 : Nat) : Int) := by
  show IntKind.u64.wrap ((BitVec.ofInt 64 (V : Int) &&& BitVec.ofInt 64 1).toNat : Int) = _
  rw [BitVec.toNat_and, ofInt64 _ (by omega) (by omega), ofInt64 _ (by omega) (by omega), Int.toNat_natCast, show (1 : Int).toNat = 2 ^ 1 - 1 from rfl, Nat.and_two_pow_sub_one_eq_mod, IntKind.wrap_u64]
  omega
theorem or64 (V x : Nat) (h : V < 18446744073709551616) (hx : x < 18446744073709551616) : bits .or .u64 (V : Int) (x : Int) = ((V ||| x : Nat) : Int) := by
  have hv : V ||| x < 2 ^ 64 := Nat.or_lt_two_pow (by omega) (by omega)
  show IntKind.u64.wrap ((BitVec.ofInt 64 (V : Int) ||| BitVec.ofInt 64 (x : Int)).toNat : Int) = _
  rw [BitVec.toNat_or, ofInt64 _ (by omega) (by omega), ofInt64 _ (by omega) (by omega), Int.toNat_natCast, Int.toNat_natCast, IntKind.wrap_u64]
  omega
/-- A group of seven bits more. -/
def nxt (V c j : Nat) : Nat := V ||| ((c % 128) * 2 ^ (7 * j)) % 18446744073709551616
theorem nxt_lt {V c j : Nat} (h : V < 18446744073709551616) : nxt V c j < 18446744073709551616 := by
  unfold nxt
  have : V ||| ((c % 128) * 2 ^ (7 * j)) % 18446744073709551616 < 2 ^ 64 := Nat.or_lt_two_pow (by omega) (by omega)
  omega
theorem nxt_eq {V c j : Nat} (h : V < 2 ^ (7 * j)) (hs : V + (c % 128) * 2 ^ (7 * j) < 18446744073709551616) : nxt V c j = V + (c % 128) * 2 ^ (7 * j) := by
  unfold nxt
  rw [Nat.mod_eq_of_lt (by omega), Nat.or_comm, Nat.mul_comm, ← Nat.two_pow_add_eq_or_of_lt h]
  omega
theorem nxt_word {V c j : Nat} (hV : V < 18446744073709551616) (hc : c < 256) :
    bits .or .u64 (V : Int) (IntKind.u64.wrap (IntKind.u64.wrap (bits .and .i64 (c : Int) 127) * 2 ^ (7 * j))) = ((nxt V c j : Nat) : Int) := by
  rw [and127 c hc, IntKind.wrap_u64, IntKind.wrap_u64]
  have e : (((c % 128 : Nat) : Int) % 18446744073709551616 * 2 ^ (7 * j)) % 18446744073709551616 = (((c % 128) * 2 ^ (7 * j) % 18446744073709551616 : Nat) : Int) := by
    have hx : ((c % 128 : Nat) : Int) % 18446744073709551616 = ((c % 128 : Nat) : Int) := Int.emod_eq_of_lt (by omega) (by omega)
    rw [hx, Int.natCast_emod ((c % 128) * 2 ^ (7 * j)), Int.natCast_mul (c % 128), Int.natCast_pow]
    rfl
  rw [e, or64 _ _ hV (Nat.mod_lt _ (by omega))]
  rfl
theorem xor_i64 (a : Nat) (h : a < 9223372036854775808) : bits .xor .i64 (a : Int) (-1) = -(a : Int) - 1 := by
  show IntKind.i64.wrap ((BitVec.ofInt 64 (a : Int) ^^^ BitVec.ofInt 64 (-1)).toNat : Int) = _
  rw [BitVec.toNat_xor, ofInt64 _ (by omega) (by omega), Int.toNat_natCast, show (BitVec.ofInt 64 (-1)).toNat = 18446744073709551615 from rfl, xor_ones _ (by omega), IntKind.wrap_i64]
  omega
theorem xor_i64_zero (a : Nat) (h : a < 9223372036854775808) : bits .xor .i64 (a : Int) 0 = (a : Int) := by
  show IntKind.i64.wrap ((BitVec.ofInt 64 (a : Int) ^^^ BitVec.ofInt 64 0).toNat : Int) = _
  rw [BitVec.toNat_xor, ofInt64 _ (by omega) (by omega), Int.toNat_natCast, show (BitVec.ofInt 64 0).toNat = 0 from rfl, Nat.xor_zero, IntKind.wrap_i64]
  omega
theorem dz_word {V : Nat} (h : V < 18446744073709551616) :
    bits .xor .i64 (wrap64 ((V : Int) / 2)) (wrap64 (-wrap64 (bits .and .u64 (V : Int) 1))) = dz V := by
  rw [and1 V h]
  unfold dz
  have e1 : wrap64 ((V : Int) / 2) = ((V / 2 : Nat) : Int) := by
    unfold wrap64; omega
  rw [e1]
  by_cases h2 : V % 2 = 0
  · rw [if_pos h2, h2, show wrap64 (-wrap64 ((0 : Nat) : Int)) = 0 by unfold wrap64; omega]
    exact xor_i64_zero (V / 2) (by omega)
  · rw [if_neg h2, show V % 2 = 1 by omega, show wrap64 (-wrap64 ((1 : Nat) : Int)) = -1 by unfold wrap64; omega]
    exact xor_i64 (V / 2) (by omega)
/-- The state of a reader of groups: what was read of z, and what is left. -/
def Mid (z V j : Nat) (M tl : List UInt8) : Prop := ∃ z', M = vb z' ++ tl ∧ z = V + z' * 2 ^ (7 * j) ∧ V < 2 ^ (7 * j) ∧ j ≤ 9
theorem Mid.start (z : Nat) (tl : List UInt8) : Mid z 0 0 (vb z ++ tl) tl := ⟨z, rfl, by simp, by simp, by omega⟩
theorem u8_lt {n : Nat} (h : n < 256) : (UInt8.ofNat n).toNat = n := by rw [UInt8.toNat_ofNat']; exact Nat.mod_eq_of_lt h
theorem Mid.lo {z V j : Nat} {M tl : List UInt8} (h : Mid z V j M tl) (hz : z < 18446744073709551616) (hc : (M.headD 0).toNat < 128) : nxt V (M.headD 0).toNat j = z ∧ M.drop 1 = tl ∧ M ≠ [] := by
  obtain ⟨z', rfl, h1, h2, h3⟩ := h
  by_cases hz' : z' < 128
  · rw [vb_lo hz']
    simp only [List.cons_append, List.nil_append, List.headD_cons, u8_lt (show z' < 256 by omega), List.drop_succ_cons, List.drop_zero]
    refine ⟨?_, by simp, by simp⟩
    rw [nxt_eq h2 (by rw [Nat.mod_eq_of_lt hz']; omega), Nat.mod_eq_of_lt hz', h1]
  · rw [vb_hi (by omega)] at hc
    simp only [List.cons_append, List.headD_cons, u8_lt (show z' % 128 + 128 < 256 by omega)] at hc
    omega
theorem Mid.hi {z V j : Nat} {M tl : List UInt8} (h : Mid z V j M tl) (hz : z < 18446744073709551616) (hc : ¬ (M.headD 0).toNat < 128) : Mid z (nxt V (M.headD 0).toNat j) (j + 1) (M.drop 1) tl ∧ M ≠ [] := by
  obtain ⟨z', rfl, h1, h2, h3⟩ := h
  by_cases hz' : z' < 128
  · rw [vb_lo hz'] at hc
    simp only [List.cons_append, List.headD_cons, u8_lt (show z' < 256 by omega)] at hc
    omega
  · rw [vb_hi (by omega)]
    simp only [List.cons_append, List.headD_cons, u8_lt (show z' % 128 + 128 < 256 by omega), List.drop_succ_cons, List.drop_zero]
    have e : z' = 128 * (z' / 128) + z' % 128 := (Nat.div_add_mod z' 128).symm
    have hp : 2 ^ (7 * (j + 1)) = 128 * 2 ^ (7 * j) := by rw [show 7 * (j + 1) = 7 + 7 * j by omega, Nat.pow_add]
    have hm : (z' % 128 + 128) % 128 = z' % 128 := by omega
    have hzz : z = V + (z' % 128) * 2 ^ (7 * j) + (z' / 128) * 2 ^ (7 * (j + 1)) := by
      rw [h1, hp, ← Nat.mul_assoc, Nat.add_assoc, ← Nat.add_mul]
      congr 2; omega
    have hq : 1 ≤ z' / 128 := by omega
    have hpow : 2 ^ (7 * (j + 1)) ≤ (z' / 128) * 2 ^ (7 * (j + 1)) := Nat.le_mul_of_pos_left _ hq
    have hnx := nxt_eq (c := z' % 128 + 128) h2 (by rw [hm]; omega)
    rw [hm] at hnx
    refine ⟨⟨z' / 128, rfl, by rw [hnx]; exact hzz, ?_, ?_⟩, by simp⟩
    · rw [hnx, hp]
      have : z' % 128 * 2 ^ (7 * j) ≤ 127 * 2 ^ (7 * j) := Nat.mul_le_mul_right _ (by omega)
      omega
    · by_cases h9 : j = 9
      · subst h9
        have : (2 : Nat) ^ (7 * (9 + 1)) = 1180591620717411303424 := by decide
        omega
      · omega
end Go.Proofs.Ytnmmcnblepadlaa
