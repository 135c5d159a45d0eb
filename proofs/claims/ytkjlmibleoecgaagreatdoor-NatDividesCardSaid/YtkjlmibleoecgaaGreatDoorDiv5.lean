/- word; numbers of two limbs. -/
import Derived.Test.YtkjlmibleoecgaaGreatDoorCon
namespace Go.Proofs.YtkjlmibleoecgaaGreatDoor
set_option linter.unusedSimpArgs false
set_option linter.unusedVariables false
open Go.RowKit
theorem NatV.len {w : World} {A : Option Addr} {l c n : Nat} (h : NatV w (.agg #[.slice A l c]) n) : l = (dg B32 n).length := by
  obtain ⟨_, e, A', c', rfl, _⟩ := h
  simp only [Value.agg.injEq, Array.mk.injEq, List.cons.injEq, and_true] at e
  injection e
theorem word_step {n d k : Nat} (hk : k < 2) (hn : n < B32 ^ k) (hd : d < B32) :
    Go.bits .or .u64 (n : Int) (IntKind.u64.wrap ((d : Int) * 2 ^ (32 * k))) = ((n + B32 ^ k * d : Nat) : Int) ∧ n + B32 ^ k * d < B32 ^ (k + 1) := by
  have e : B32 ^ k = 2 ^ (32 * k) := by rw [B32_eq, show (4294967296 : Nat) = 2 ^ 32 from rfl, ← Nat.pow_mul]
  have h1 : n + B32 ^ k * d < B32 ^ (k + 1) := by
    rw [Nat.pow_succ]
    have : B32 ^ k * (d + 1) ≤ B32 ^ k * B32 := Nat.mul_le_mul_left _ hd
    rw [Nat.mul_add] at this; omega
  have h2 : B32 ^ (k + 1) ≤ B32 ^ 2 := Nat.pow_le_pow_right (by rw [B32_eq]; omega) (by omega)
  have h3 : B32 ^ 2 = 18446744073709551616 := by rw [B32_eq]
  have h4 := Nat.two_pow_add_eq_or_of_lt (i := 32 * k) (b := n) (by rw [← e]; exact hn) d
  have h5 : IntKind.u64.wrap ((d : Int) * 2 ^ (32 * k)) = ((B32 ^ k * d : Nat) : Int) := by
    rw [show (d : Int) * 2 ^ (32 * k) = ((B32 ^ k * d : Nat) : Int) by rw [e, Int.natCast_mul, Int.natCast_pow, Int.mul_comm]; rfl]
    exact IntWalk.u64_in _ (by omega)
  refine ⟨?_, h1⟩
  rw [h5, u64_or_nat _ _ (by omega) (by omega), Nat.or_comm, e, ← h4, Nat.add_comm]
set_option maxHeartbeats 2000000 in
theorem word_c {x : Nat} {v : Value} {w : World} (h : NatV w v x) (hl : (dg B32 x).length ≤ 2) :
    Calls Tryz.prog 85 #[v] w fun e w' => e = .returned (.int .u64 (x : Int)) ∧ New w w' := by
  obtain ⟨_, rfl, A, c, rfl, hc, hmax, hr⟩ := h
  have hxs := dg_lt B32_2 x
  have hval := dg_val B32_2 x
  generalize dg B32 x = xs at *
  generalize hn : xs.length = n at *
  have HV := Lib.hid hval
  have HXS := Lib.hid hxs
  have HN := Lib.hid hn
  have HR := Lib.hid hr
  clear hval hxs hn hr
  go_enter Tryz.func85, Tryz.ntmps85
  go_wp2
  go_loopw [3, 9] (fun v3 i w' => ∃ (k s : Nat), k ≤ n ∧ i = .int .i64 (k : Int) ∧ v3 = .int .u64 (s : Int) ∧ Hid (s = val B32 (xs.take k) ∧ s < B32 ^ k) ∧
    w' = w.alloc (.cells #[.slice A n c] 26)) (fun _ i _ => n - (intOf i).toNat)
  case atStart => exact ⟨0, 0, by omega, rfl, rfl, ⟨rfl, by simp⟩, rfl⟩
  case round =>
    obtain ⟨k, s, hk, rfl, rfl, HS, rfl⟩ := hrel
    by_cases hlt : k < n
    · obtain ⟨b, o, C, fr, rfl, hbl, hcell⟩ := HR.out k hlt
      have hxd : xs.getD k 0 < B32 := HXS.out _ (getD_mem (by rw [HN.out]; exact hlt))
      obtain ⟨hst, hsl⟩ := word_step (k := k) (by omega) HS.out.2 hxd
      have HS2 : Hid (s + B32 ^ k * xs.getD k 0 = val B32 (xs.take (k + 1)) ∧ s + B32 ^ k * xs.getD k 0 < B32 ^ (k + 1)) := Lib.hid ⟨by rw [val_take_succ, HS.out.1], hsl⟩
      generalize xs.getD k 0 = xd at *
      generalize s + B32 ^ k * xd = s2 at *
      rw [B32_eq] at hxd
      have hw1 : IntKind.u64.wrap (xd : Int) = (xd : Int) := IntWalk.u64_in _ (by omega)
      clear hsl hbl
      rcases (show k = 0 ∨ k = 1 by omega) with rfl | rfl
      · rw [Nat.add_zero] at hcell
        have hc3 := fun o1 => ((New.refl w).alloc o1).still hcell
        have hst0 : Go.bits .or .u64 (s : Int) (xd : Int) = (s2 : Int) := by rw [← hst]; simp [hw1]
        clear hst hcell
        go_wp2
        go_roundw
        case rel => exact ⟨1, s2, by omega, by go_num, by go_num, HS2.out, by first | rfl | trivial⟩
        case measure => simp [intOf]; omega
      · have hc3 := fun o1 => ((New.refl w).alloc o1).still hcell
        have hw2 : IntKind.u64.wrap ((xd : Int) * 4294967296) = (xd : Int) * 4294967296 := IntWalk.u64_in _ (by omega)
        have hst0 : Go.bits .or .u64 (s : Int) ((xd : Int) * 4294967296) = (s2 : Int) := by rw [← hst, ← hw2]; rfl
        clear hst hcell
        go_wp2
        go_roundw
        case rel => exact ⟨2, s2, by omega, by go_num, by go_num, HS2.out, by first | rfl | trivial⟩
        case measure => simp [intOf]; omega
    · obtain rfl : n = k := by omega
      have hs := HS.out.1
      rw [List.take_of_length_le (by rw [HN.out]; omega), HV.out] at hs
      have HX := Lib.hid hs
      clear hs
      go_wp2
      go_ret
      exact ⟨by rw [HX.out]; rfl, (New.refl w).alloc _⟩
end Go.Proofs.YtkjlmibleoecgaaGreatDoor
