/- The program's nat, part 3: Cmp. -/
import Derived.Test.YtkjlmibleoecgaaGreatDoorNat2
import Derived.Deep.QuietTactic
import Derived.BigQuiet
namespace Go.Proofs.YtkjlmibleoecgaaGreatDoor
open Go.RowKit

/-- The order of two numbers, as -1, 0, 1. -/
def cmpN (x y : Nat) : Int := if x < y then -1 else if y < x then 1 else 0

theorem cmp_len {x y : Nat} (h : (dg B32 x).length < (dg B32 y).length) : x < y := by
  have h1 := dg_lt_pow B32_2 x
  have hy : 0 < y := by
    rcases Nat.eq_zero_or_pos y with rfl | h0
    · rw [dg_zero] at h; simp at h
    · exact h0
  have h2 := pow_le_dg B32_2 hy
  have h3 : B32 ^ (dg B32 x).length ≤ B32 ^ ((dg B32 y).length - 1) := Nat.pow_le_pow_right (by rw [B32_eq]; omega) (by omega)
  omega
theorem val_split {b : Nat} {xs : List Nat} {k : Nat} (h0 : 0 < k) (hk : k ≤ xs.length) : val b xs = val b (xs.take (k - 1)) + b ^ (k - 1) * (xs.getD (k - 1) 0 + b * val b (xs.drop k)) := by
  have e : xs = xs.take (k - 1) ++ xs.getD (k - 1) 0 :: xs.drop k := by
    rw [getD_lt (by omega)]
    have := List.take_append_drop (k - 1) xs
    rw [List.drop_eq_getElem_cons (by omega), show k - 1 + 1 = k from by omega] at this
    exact this.symm
  conv => lhs; rw [e]
  rw [val_append, List.length_take, Nat.min_eq_left (by omega)]; rfl
theorem cmp_digit {xs ys : List Nat} {k : Nat} (h0 : 0 < k) (hx : k ≤ xs.length) (hy : k ≤ ys.length) (hdx : ∀ d ∈ xs, d < B32) (he : xs.drop k = ys.drop k) (h : xs.getD (k - 1) 0 < ys.getD (k - 1) 0) : val B32 xs < val B32 ys := by
  rw [val_split h0 hx, val_split h0 hy, he]
  have h1 := val_lt (b := B32) (xs := xs.take (k - 1)) (by rw [B32_eq]; omega) (fun d hd => hdx d (List.mem_of_mem_take hd))
  rw [List.length_take, Nat.min_eq_left (by omega)] at h1
  have h2 : B32 ^ (k - 1) * (xs.getD (k - 1) 0 + B32 * val B32 (ys.drop k) + 1) ≤ B32 ^ (k - 1) * (ys.getD (k - 1) 0 + B32 * val B32 (ys.drop k)) := Nat.mul_le_mul_left _ (by omega)
  rw [Nat.mul_add _ _ 1] at h2
  omega

set_option maxHeartbeats 1000000 in
theorem cmp_c {x y : Nat} {u v : Value} {w : World} (hx : NatV w u x) (hy : NatV w v y) (hl : (dg B32 x).length ≤ 1099511627776) (hl2 : (dg B32 y).length ≤ 1099511627776) :
    Calls Tryz.prog 20 #[u, v] w fun e w' => e = .returned (.int .i64 (cmpN x y)) ∧ New w w' := by
  have hlt1 := cmp_len (x := x) (y := y)
  have hlt2 := cmp_len (x := y) (y := x)
  obtain ⟨_, rfl, A, c, rfl, hc, hmax, hr⟩ := hx
  obtain ⟨_, rfl, A', c', rfl, hc', hmax', hr'⟩ := hy
  have hxs := dg_lt B32_2 x
  have hval := dg_val B32_2 x
  have hxs' := dg_lt B32_2 y
  have hval' := dg_val B32_2 y
  generalize dg B32 x = xs at *
  generalize dg B32 y = ys at *
  generalize hn : xs.length = n at *
  generalize hm : ys.length = m at *
  by_cases h1 : n < m
  · have hx := hlt1 h1
    have hr0 : cmpN x y = -1 := by unfold cmpN; rw [if_pos hx]
    rw [hr0]
    clear hr hr' hval hval' hr0 hn hm
    go_enter Tryz.func20, Tryz.ntmps20
    go_wp2
    go_ret
    exact ⟨rfl, ((New.refl w).alloc _).alloc _⟩
  · by_cases h2 : m < n
    · have hy := hlt2 h2
      have hr0 : cmpN x y = 1 := by unfold cmpN; rw [if_neg (by omega), if_pos hy]
      rw [hr0]
      clear hr hr' hval hval' hr0 hn hm
      go_enter Tryz.func20, Tryz.ntmps20
      go_wp2
      go_ret
      exact ⟨rfl, ((New.refl w).alloc _).alloc _⟩
    · obtain rfl : m = n := by omega
      clear h1 h2 hlt1 hlt2
      have HV := Lib.hid hval
      have HV' := Lib.hid hval'
      have HN := Lib.hid hn
      have HM := Lib.hid hm
      clear hval hval' hn hm
      go_enter Tryz.func20, Tryz.ntmps20
      go_wp2
      go_loopw [5] (fun i w' => ∃ k : Nat, k ≤ m ∧ i = .int .i64 ((k : Int) - 1) ∧ Hid (xs.drop k = ys.drop k) ∧
        ∃ q, w' = ((w.alloc (.cells #[.slice A m c] 26)).alloc (.cells #[.slice A' m c'] 26)).drewN q) (fun i _ => (intOf i + 1).toNat)
      case atStart => exact ⟨m, Nat.le_refl _, rfl, by rw [List.drop_of_length_le (by have := HN.out; omega), List.drop_of_length_le (by have := HM.out; omega)]; exact rfl, 0, rfl⟩
      case round =>
        obtain ⟨k, hk, rfl, HE, q, rfl⟩ := hrel
        by_cases hlt : 0 < k
        · obtain ⟨b, o, C, fr, rfl, hbl, hcell⟩ := hr (k - 1) (by omega)
          obtain ⟨b', o', C', fr', rfl, hbl', hcell'⟩ := hr' (k - 1) (by omega)
          have hcl := cmp_digit (xs := xs) (ys := ys) hlt (by have := HN.out; omega) (by have := HM.out; omega) hxs HE.out
          have hcg := cmp_digit (xs := ys) (ys := xs) hlt (by have := HM.out; omega) (by have := HN.out; omega) hxs' HE.out.symm
          have hce : xs.getD (k - 1) 0 = ys.getD (k - 1) 0 → xs.drop (k - 1) = ys.drop (k - 1) := fun h => by
            have h1 := HN.out
            have h2 := HM.out
            rw [getD_lt (by omega), getD_lt (by omega)] at h
            rw [List.drop_eq_getElem_cons (by omega : k - 1 < xs.length), List.drop_eq_getElem_cons (by omega : k - 1 < ys.length), h, show k - 1 + 1 = k from by omega, HE.out]
          generalize xs.getD (k - 1) 0 = d at *
          generalize ys.getD (k - 1) 0 = e at *
          have hi : ((k : Int) - 1).toNat = k - 1 := by omega
          have hc3 := fun o1 o2 => ((New.refl w).alloc o1).alloc o2 |>.still hcell
          have hc4 := fun o1 o2 => ((New.refl w).alloc o1).alloc o2 |>.still hcell'
          clear hr hr' hcell hcell' hbl hbl' hxs hxs'
          rcases Nat.lt_trichotomy d e with h | h | h
          · have hne : ((d : Int) != (e : Int)) = true := by rw [bne_iff_ne]; omega
            have hlt3 : decide ((d : Int) < (e : Int)) = true := by simp; omega
            have hr0 : cmpN x y = -1 := by unfold cmpN; rw [if_pos]; rw [← HV.out, ← HV'.out]; exact hcl h
            have HR := Lib.hid hr0
            clear hcl hcg hce hr0
            go_wp2
            go_quiet (fail)
            go_wp2
            go_quiet (fail)
            go_wp2
            go_ret
            exact ⟨ret_i64 HR.out.symm, by repeat (first | exact New.refl _ | apply New.drewN | apply New.drew | apply New.alloc)⟩
          · have hne : ((d : Int) != (e : Int)) = false := by simp; omega
            have HC := Lib.hid (hce h)
            clear hcl hcg hce h
            go_wp2
            go_quiet (fail)
            go_wp2
            go_roundw
            case rel => exact ⟨k - 1, by omega, by rw [show ((k - 1 : Nat) : Int) = (k : Int) - 1 from by omega], HC, _, rfl⟩
            case measure => simp [intOf]; omega
          · have hne : ((d : Int) != (e : Int)) = true := by rw [bne_iff_ne]; omega
            have hlt3 : decide ((d : Int) < (e : Int)) = false := by simp; omega
            have hr0 : cmpN x y = 1 := by
              have := hcg h
              rw [HV.out, HV'.out] at this
              unfold cmpN; rw [if_neg (by omega), if_pos this]
            have HR := Lib.hid hr0
            clear hcl hcg hce hr0
            go_wp2
            go_quiet (fail)
            go_wp2
            go_quiet (fail)
            go_wp2
            go_ret
            exact ⟨ret_i64 HR.out.symm, by repeat (first | exact New.refl _ | apply New.drewN | apply New.drew | apply New.alloc)⟩
        · obtain rfl : k = 0 := by omega
          have hxy : x = y := by
            have := HE.out
            rw [List.drop_zero, List.drop_zero] at this
            rw [← HV.out, ← HV'.out, this]
          have hr0 : cmpN x y = 0 := by unfold cmpN; rw [if_neg (by omega), if_neg (by omega)]
          have HR := Lib.hid hr0
          clear hr hr' hxy hr0 hxs hxs'
          go_wp2
          go_ret
          exact ⟨ret_i64 HR.out.symm, by repeat (first | exact New.refl _ | apply New.drewN | apply New.drew | apply New.alloc)⟩
end Go.Proofs.YtkjlmibleoecgaaGreatDoor
