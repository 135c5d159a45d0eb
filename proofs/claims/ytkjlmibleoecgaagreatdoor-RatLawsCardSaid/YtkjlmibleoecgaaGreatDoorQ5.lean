/- The program's rat: Make, whole. (Printed by mkq5.py.) -/
import Derived.Test.YtkjlmibleoecgaaGreatDoorQ3
import Derived.Test.YtkjlmibleoecgaaGreatDoorQp
namespace Go.Proofs.YtkjlmibleoecgaaGreatDoor
set_option linter.unusedSimpArgs false
set_option linter.unusedVariables false
open Go.RowKit
theorem NumB.zero (w : World) (k : Nat) : NumB w (.agg #[.slice none 0 0, .bool false]) 0 k := by
  exact ⟨⟨none, 0, 0, rfl, NatV.zero w⟩, by rw [show (0 : Int).natAbs = 0 from rfl, dg_zero]; exact Nat.zero_le _⟩
theorem RatB.zero (w : World) (k : Nat) : RatB w (.agg #[.slice none 0 0, .bool false, .slice none 0 0, .bool false]) 0 0 k :=
  ⟨none, 0, 0, none, 0, 0, rfl, NumB.zero w k, NumB.zero w k⟩
section
variable {w : World} {u v : Value} {x y n d : Int} {k j : Nat}
set_option maxRecDepth 100000 in
set_option maxHeartbeats 2000000 in
theorem rmk_0 (hz : NumB w u x k) (hy : NumB w v 0 k) (hk : k ≤ 15000) :
    Calls Tryz.prog 52 #[u, v] w fun e w' => ∃ r, e = .returned (.tuple #[r, .int .i64 12]) ∧ RatB w' r 0 0 k ∧ New w w' := by
  obtain ⟨A, l, c, rfl, hv⟩ := hz.form
  obtain ⟨A', l', c', rfl, hv'⟩ := hy.form
  have hN := allocs_new [(#[.slice A l c, .bool (decide (x < 0))], NNum), (#[.slice A' l' c', .bool (decide ((0 : Int) < 0))], NNum), (#[.slice none 0 0, .bool false, .slice none 0 0, .bool false], NRat)] w
  have hB := allocs_bxs [(#[.slice A l c, .bool (decide (x < 0))], NNum), (#[.slice A' l' c', .bool (decide ((0 : Int) < 0))], NNum), (#[.slice none 0 0, .bool false, .slice none 0 0, .bool false], NRat)] w
  simp only [allocs] at hN hB
  have M0 := Lib.hid (show MBx w (((w.alloc (.cells #[.slice A l c, .bool (decide (x < 0))] NNum)).alloc (.cells #[.slice A' l' c', .bool (decide ((0 : Int) < 0))] NNum)).alloc (.cells #[.slice none 0 0, .bool false, .slice none 0 0, .bool false] NRat)) w.heap.size A l c (decide (x < 0)) A' l' c' (decide ((0 : Int) < 0)) x 0 k from
    ⟨hN, hB.three.1, hB.three.2.1, hB.three.2.2, hz.new hN, hy.new hN, Nat.le_refl _⟩)
  have HSG := Lib.hid (fun W v (h : NumB W v 0 k) => sign_n h (by omega))
  rw [show sgZ 0 = 0 from rfl] at HSG
  clear hv hv' hz hy hN hB
  generalize decide (x < 0) = b at *
  generalize decide ((0 : Int) < 0) = b' at *
  go_enter Tryz.func52, Tryz.ntmps52
  go_wp2_with fail
  refine (HSG.out _ _ M0.out.yv).mono ?_
  rintro e w1 ⟨rfl, hn1⟩
  have M8 := Lib.hid (M0.out.new hn1)
  have hFR := M8.out.br
  have c20 := hFR.cells4.1
  have c21 := hFR.cells4.2.1
  have c22 := hFR.cells4.2.2.1
  have c23 := hFR.cells4.2.2.2
  have f20 := hFR.frozen 0
  have f21 := hFR.frozen 1
  have f22 := hFR.frozen 2
  have f23 := hFR.frozen 3
  obtain ⟨_, gb, gn, gv⟩ := rat_done M8.out (.slice none 0 0) (.bool false) (.slice none 0 0) (.bool false)
  have GN := Lib.hid gn
  obtain ⟨g0, g1, g2, g3⟩ := gb.cells4
  clear hn1 M0 M8 hFR gb gn gv HSG
  go_wp2
  refine bodyPost_ret (v := .tuple #[.agg #[.slice none 0 0, .bool false, .slice none 0 0, .bool false], .int .i64 12]) (by simp [results, Tryz.results52, go_sem, g0, g1, g2, g3]) rfl ⟨_, rfl, RatB.zero _ _, GN.out⟩
theorem qmake_n (hz : NumB w u x k) (hy : NumB w v y k) (hk : k ≤ 15000) :
    Calls Tryz.prog 52 #[u, v] w fun e w' => ∃ r, e = .returned (.tuple #[r, .int .i64 (divI y)]) ∧ RatB w' r (mkN x y) (mkD x y) k ∧ New w w' := by
  by_cases h : y = 0
  · subst h
    have e1 : mkN x 0 = 0 := by unfold mkN; rw [if_pos rfl]
    have e2 : mkD x 0 = 0 := by unfold mkD; rw [if_pos rfl]
    rw [e1, e2]
    exact rmk_0 hz hy hk
  · have e1 : divI y = 0 := by unfold divI; rw [if_neg h]
    have hg := (mk_spec (a := x) h).1
    rw [e1]
    rcases Int.lt_or_le y 0 with h1 | h1
    · by_cases hg1 : gcdZ x y = 1
      · exact rmk_n1 hz hy hk h1 hg1
      · exact rmk_nm hz hy hk h1 (by omega)
    · by_cases hg1 : gcdZ x y = 1
      · exact rmk_p1 hz hy hk (by omega) hg1
      · exact rmk_pm hz hy hk (by omega) (by omega)
end
end Go.Proofs.YtkjlmibleoecgaaGreatDoor
