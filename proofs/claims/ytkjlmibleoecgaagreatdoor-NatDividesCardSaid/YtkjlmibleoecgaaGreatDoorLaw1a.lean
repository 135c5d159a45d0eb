/- The laws of 01: long, number. -/
import Derived.Test.YtkjlmibleoecgaaGreatDoorNat8
import Derived.Test.YtkjlmibleoecgaaGreatDoorRef2
namespace Go.Proofs.YtkjlmibleoecgaaGreatDoor
set_option linter.unusedSimpArgs false
set_option linter.unusedVariables false
open Go.RowKit

set_option maxHeartbeats 1000000 in
theorem long_c (xs : List ByteArray) (b n c : Nat) (w : World) (hn : xs.length = n) (hc : ∀ i (h : i < xs.length), w.cell? ⟨b, i, none⟩ = some (.string xs[i])) (hb : b < w.heap.size) (hl : n ≤ 100) (hcl : n ≤ c) :
    Calls Tryz.prog 12 #[.slice (some ⟨b, 0, none⟩) n c] w fun e w' => ∃ r : Bool, e = .returned (.bool r) ∧ (r = false → ∀ s ∈ xs, s.size ≤ 256) ∧ New w w' := by
  have HC := Lib.hid hc
  clear hc
  have HN := Lib.hid hn
  clear hn
  go_enter Tryz.func12, Tryz.ntmps12
  go_wp2
  go_loopw [3, 4] (fun v3 v4 w' => ∃ (k S : Nat), v3 = .int .i64 (S : Int) ∧ v4 = .int .i64 (k : Int) ∧ k ≤ n ∧ S ≤ 100 + k * 1048576 ∧ Hid (S ≤ 256 → ∀ i (h : i < xs.length), i < k → (xs[i]).size ≤ 256) ∧ ∃ q, w' = w.drewN q) (fun _ v4 _ => n - (intOf v4).toNat)
  case atStart => exact ⟨0, n, rfl, rfl, Nat.zero_le _, by omega, (fun _ i _ h => absurd h (Nat.not_lt_zero i) : n ≤ 256 → ∀ i (h : i < xs.length), i < 0 → (xs[i]).size ≤ 256), 0, rfl⟩
  case round =>
    obtain ⟨k, S, rfl, rfl, hk, hS, HS, q, rfl⟩ := hrel
    by_cases hkn : k < n
    · by_cases hS2 : S ≤ 256
      · have hkl : k < xs.length := by rw [HN.out]; exact hkn
        have hcell := HC.out k hkl
        have hrel2 : S + min (xs[k]'hkl).size 1048576 ≤ 256 → ∀ i (h : i < xs.length), i < k + 1 → (xs[i]).size ≤ 256 := by
          intro h i hi hik
          by_cases e : i = k
          · subst e; omega
          · exact HS.out hS2 i hi (by omega)
        have HR := Lib.hid hrel2
        clear hrel2
        generalize xs[k]'hkl = x at *
        rcases Nat.lt_or_ge x.size 1048576 with hx | hx
        · have hm : min x.size 1048576 = x.size := by omega
          rw [hm] at HR
          clear hm
          go_wp2
          go_roundw
          case rel => exact ⟨k + 1, S + x.size, by go_num, by go_num, by omega, by omega, HR.out, _, rfl⟩
          case measure => simp [intOf]; omega
        · have hm : min x.size 1048576 = 1048576 := by omega
          rw [hm] at HR
          clear hm
          go_wp2
          go_roundw
          case rel => exact ⟨k + 1, S + 1048576, by go_num, by go_num, by omega, by omega, HR.out, _, rfl⟩
          case measure => simp [intOf]; omega
      · go_wp2
        go_ret
        exact ⟨true, rfl, fun h => absurd h (by decide), (New.refl w).drewN _⟩
    · obtain rfl : k = n := by omega
      have hfin : S ≤ 256 → ∀ s ∈ xs, s.size ≤ 256 := by
        intro h s hs
        obtain ⟨i, hi, rfl⟩ := List.getElem_of_mem hs
        exact HS.out h i hi (by rw [HN.out] at hi; exact hi)
      have HF := Lib.hid hfin
      clear hfin
      go_wp2
      go_ret
      refine ⟨_, rfl, fun h => HF.out (by simp at h; omega), (New.refl w).drewN _⟩

theorem pErr_is (l : List UInt8) : ((pErr l == 0) = isNum l) := by
  unfold pErr; cases isNum l <;> rfl
set_option maxHeartbeats 2000000 in
theorem number_c (s : ByteArray) (w : World) (hs : s.size ≤ 4096) :
    Calls Tryz.prog 13 #[.string s] w fun e w' => ∃ v u, e = .returned (.tuple #[v, u, .bool (isNum s.data.toList), .bool true]) ∧ NatV w' v (pNum s.data.toList) ∧ RefV w' u (pNum s.data.toList) ∧ New w w' := by
  have hp := fun W => parse_c s W hs
  have hq := fun W => rparse_c s W hs
  have he := pErr_is s.data.toList
  generalize s.data.toList = l at *
  have HP := Lib.hid hp
  have HQ := Lib.hid hq
  clear hp hq hs
  generalize hpe : pErr l = pe at *
  have HPE := Lib.hid hpe
  clear hpe
  go_enter Tryz.func13, Tryz.ntmps13
  go_wp2_with fail
  refine (HP.out _).mono ?_
  rintro e w1 ⟨v, rfl, hv, hn1⟩
  obtain ⟨A1, l1, c1, rfl⟩ := hv.form
  have hb1 := ((Box.last w #[.slice none 0 0] 26).alloc (.cells #[.slice none 0 0] 29)).new hn1
  have hb2 := (Box.last (w.alloc (.cells #[.slice none 0 0] 26)) #[.slice none 0 0] 29).new hn1
  have hn2 : New w w1 := (((New.refl w).alloc _).alloc _).trans hn1
  rw [show (w.alloc (.cells #[.slice none 0 0] 26)).heap.size = w.heap.size + 1 by simp] at hb2
  have HV := Lib.hid hv
  have HB1 := Lib.hid hb1
  have HB2 := Lib.hid hb2
  have HN2 := Lib.hid hn2
  have hn1' := hn1
  clear hv hb1 hb2 hn1 hn2
  go_wp2_with fail
  refine (HQ.out _).mono ?_
  rintro e w2 ⟨u, rfl, hu, hn3⟩
  obtain ⟨A2, l2, c2, rfl⟩ := hu.form
  have HS1 := Lib.hid (hn1').le
  have HS2 := Lib.hid (Nat.le_trans (show w1.heap.size ≤ _ by simp) hn3.le)
  have hb6 := ((Box.last w1 #[.slice A1 l1 c1] 26).new hn3).alloc (.cells #[.slice A2 l2 c2] 29)
  have hn4 : New w1 (w2.alloc (.cells #[.slice A2 l2 c2] 29)) := (((New.refl w1).alloc _).trans hn3).alloc _
  have hb8 := Box.last w2 #[.slice A2 l2 c2] 29
  have hu2 := hu.new ((New.refl w2).alloc (.cells #[.slice A2 l2 c2] 29))
  go_wp2
  generalize w2.alloc (.cells #[.slice A2 l2 c2] 29) = W3 at *
  have hc6 : W3.cell? ⟨w1.heap.size, 0, none⟩ = some (.slice A1 l1 c1) := hb6.cell 0
  have hc8 : W3.cell? ⟨w2.heap.size, 0, none⟩ = some (.slice A2 l2 c2) := hb8.cell 0
  have hb1 := HB1.out.new hn4
  have hb2 := HB2.out.new hn4
  have hc1 : W3.cell? ⟨w.heap.size, 0, none⟩ = some (.slice none 0 0) := hb1.cell 0
  have hc2 : W3.cell? ⟨w.heap.size + 1, 0, none⟩ = some (.slice none 0 0) := hb2.cell 0
  have hf1 := hb1.frozen 0
  have hf2 := hb2.frozen 0
  have HV2 := Lib.hid (HV.out.new hn4)
  have HU := Lib.hid hu2
  have HN4 := Lib.hid (HN2.out.trans hn4)
  have HC1 := Lib.hid hb1
  have HC2 := Lib.hid hb2
  have he2 := HPE.out
  clear hu hu2 hb6 hb8 hn4 hn3 hb1 hb2
  have hs1 := HS1.out
  simp at hs1
  have hs2 := HS2.out
  have hm1 : ¬ w1.heap.size = w.heap.size := by omega
  have hm2 : ¬ w2.heap.size = w.heap.size := by omega
  have hm3 : ¬ w1.heap.size = w.heap.size + 1 := by omega
  have hm4 : ¬ w2.heap.size = w.heap.size + 1 := by omega
  have hm5 : ¬ w.heap.size = w1.heap.size := by omega
  have hm6 : ¬ w.heap.size = w2.heap.size := by omega
  have hm7 : ¬ w.heap.size + 1 = w1.heap.size := by omega
  have hm8 : ¬ w.heap.size + 1 = w2.heap.size := by omega
  clear hs1 hs2
  have hcA : (W3.setCell ⟨w.heap.size, 0, none⟩ (.slice A1 l1 c1)).cell? ⟨w.heap.size, 0, none⟩ = some (.slice A1 l1 c1) := (HC1.out.set 0 (.slice A1 l1 c1)).cell 0
  have hcB : ((W3.setCell ⟨w.heap.size, 0, none⟩ (.slice A1 l1 c1)).setCell ⟨w.heap.size + 1, 0, none⟩ (.slice A2 l2 c2)).cell? ⟨w.heap.size + 1, 0, none⟩ = some (.slice A2 l2 c2) := (HC2.out.far (p := w.heap.size) (i := 0) (by omega) (.slice A1 l1 c1) |>.set 0 (.slice A2 l2 c2)).cell 0
  have hv5 := ((HV2.out.new (New.refl W3).drew).set (HC1.out.new (New.refl W3).drew) (by decide) (i := 0) (.slice A1 l1 c1)).set (HC2.out.new (New.refl W3).drew |>.far (p := w.heap.size) (i := 0) (by omega) (.slice A1 l1 c1)) (by decide) (i := 0) (.slice A2 l2 c2)
  have hu5 := ((HU.out.new (New.refl W3).drew).set (HC1.out.new (New.refl W3).drew) (by decide) (i := 0) (.slice A1 l1 c1)).set (HC2.out.new (New.refl W3).drew |>.far (p := w.heap.size) (i := 0) (by omega) (.slice A1 l1 c1)) (by decide) (i := 0) (.slice A2 l2 c2)
  have hn5 := (HN4.out.drew.setCell (p := ⟨w.heap.size, 0, none⟩) (Nat.le_refl _) (.slice A1 l1 c1)).setCell (p := ⟨w.heap.size + 1, 0, none⟩) (Nat.le_succ _) (.slice A2 l2 c2)
  have HCA := Lib.hid hcA
  have HCB := Lib.hid hcB
  have HV5 := Lib.hid hv5
  have HU5 := Lib.hid hu5
  have HN5 := Lib.hid hn5
  clear hcA hcB hv5 hu5 hn5
  go_region_with (fail)
  all_goals simp only [List.getElem_toArray, List.getElem_cons_succ, List.getElem_cons_zero, Act.put, List.setIfInBounds_toArray, List.set_cons_zero, List.set_cons_succ]
  all_goals go_wp2
  all_goals
    have hcA := HCA.out
    have hcB := HCB.out
    refine bodyPost_ret (v := .tuple #[.agg #[.slice A1 l1 c1], .agg #[.slice A2 l2 c2], .bool (isNum l), .bool true]) (by simp [results, Tryz.results13, go_sem, hcA, hcB]) rfl ⟨_, _, rfl, HV5.out, HU5.out, HN5.out⟩
end Go.Proofs.YtkjlmibleoecgaaGreatDoor
