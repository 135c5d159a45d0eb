/- law03: long. -/
import Derived.Test.YtkjlmibleoecgaaGreatDoorqNat8
import Derived.Test.YtkjlmibleoecgaaGreatDoorqRef2
namespace Go.Proofs.YtkjlmibleoecgaaGreatDoor
set_option linter.unusedSimpArgs false
set_option linter.unusedVariables false
open Go.RowKit
set_option maxHeartbeats 1000000 in
theorem qlong_n (xs : List ByteArray) (b n c : Nat) (w : World) (hn : xs.length = n) (hc : ∀ i (h : i < xs.length), w.cell? ⟨b, i, none⟩ = some (.string xs[i])) (hb : b < w.heap.size) (hl : n ≤ 100) (hcl : n ≤ c) :
    Calls Tryz.prog 49 #[.slice (some ⟨b, 0, none⟩) n c] w fun e w' => ∃ r : Bool, e = .returned (.bool r) ∧ (r = false → ∀ s ∈ xs, s.size ≤ 256) ∧ New w w' := by
  have HC := Lib.hid hc
  clear hc
  have HN := Lib.hid hn
  clear hn
  go_enter Tryz.func49, Tryz.ntmps49
  go_wp2
  go_loopw [3, 4] (fun v3 v4 w' => ∃ (k S : Nat), v3 = .int .i64 (S : Int) ∧ v4 = .int .i64 (k : Int) ∧ k ≤ n ∧ S ≤ 100 + k * 1048576 ∧ Hid (S ≤ 256 → ∀ i (h : i < xs.length), i < k → (xs[i]).size ≤ 256) ∧ ∃ q, w' = w.drewN q) (fun _ v4 _ => n - (intOf v4).toNat)
  case atStart => exact ⟨0, n, rfl, rfl, Nat.zero_le _, by omega, (fun _ i _ h => absurd h (Nat.not_lt_zero i) : n ≤ 256 → ∀ i (h : i < xs.length), i < 0 → (xs[i]).size ≤ 256), 0, rfl⟩
  case round =>
    obtain ⟨k, S, rfl, rfl, hk, hS, HS, q, rfl⟩ := hrel
    by_cases hkn : k < n
    · by_cases hS2 : S ≤ 256
      · have hkl : k < xs.length := by rw [HN.out]; exact hkn
        have hcell := HC.out k hkl
        have hrel2 : S + min (xs[k]'hkl).size 1048576 ≤ 256 → ∀ i (h : i < xs.length), i < k + 1 → (xs[i]).size ≤ 256 := by
          intro h i hi hik
          by_cases e : i = k
          · subst e; omega
          · exact HS.out hS2 i hi (by omega)
        have HR := Lib.hid hrel2
        clear hrel2
        generalize xs[k]'hkl = x at *
        rcases Nat.lt_or_ge x.size 1048576 with hx | hx
        · have hm : min x.size 1048576 = x.size := by omega
          rw [hm] at HR
          clear hm
          go_wp2
          go_roundw
          case rel => exact ⟨k + 1, S + x.size, by go_num, by go_num, by omega, by omega, HR.out, _, rfl⟩
          case measure => simp [intOf]; omega
        · have hm : min x.size 1048576 = 1048576 := by omega
          rw [hm] at HR
          clear hm
          go_wp2
          go_roundw
          case rel => exact ⟨k + 1, S + 1048576, by go_num, by go_num, by omega, by omega, HR.out, _, rfl⟩
          case measure => simp [intOf]; omega
      · go_wp2
        go_ret
        exact ⟨true, rfl, fun h => absurd h (by decide), (New.refl w).drewN _⟩
    · obtain rfl : k = n := by omega
      have hfin : S ≤ 256 → ∀ s ∈ xs, s.size ≤ 256 := by
        intro h s hs
        obtain ⟨i, hi, rfl⟩ := List.getElem_of_mem hs
        exact HS.out h i hi (by rw [HN.out] at hi; exact hi)
      have HF := Lib.hid hfin
      clear hfin
      go_wp2
      go_ret
      refine ⟨_, rfl, fun h => HF.out (by simp at h; omega), (New.refl w).drewN _⟩

end Go.Proofs.YtkjlmibleoecgaaGreatDoor
