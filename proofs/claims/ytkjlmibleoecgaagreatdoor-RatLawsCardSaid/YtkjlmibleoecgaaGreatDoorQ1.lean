/- The program's rat: values, one, Den, Sign, Text. (Printed by mkq1.py.) -/
import Derived.Test.YtkjlmibleoecgaaGreatDoorqZ9
import Derived.Test.YtkjlmibleoecgaaGreatDoorM3
import Derived.Test.YtkjlmibleoecgaaGreatDoorM0
namespace Go.Proofs.YtkjlmibleoecgaaGreatDoor
set_option linter.unusedSimpArgs false
set_option linter.unusedVariables false
open Go.RowKit
abbrev NRat : TypeId := 72
/-- v is the program's fraction of n and d (d = 0: the zero value's), of k limbs each at most. -/
def RatB (w : World) (v : Value) (n d : Int) (k : Nat) : Prop := ∃ A l c A' l' c', v = .agg #[.slice A l c, .bool (decide (n < 0)), .slice A' l' c', .bool (decide (d < 0))] ∧ NumB w (.agg #[.slice A l c, .bool (decide (n < 0))]) n k ∧ NumB w (.agg #[.slice A' l' c', .bool (decide (d < 0))]) d k
theorem RatB.new {w w' : World} {v : Value} {n d : Int} {k : Nat} (h : RatB w v n d k) (hn : New w w') : RatB w' v n d k := by
  obtain ⟨A, l, c, A', l', c', rfl, h1, h2⟩ := h
  exact ⟨A, l, c, A', l', c', rfl, h1.new hn, h2.new hn⟩
theorem RatB.more {w : World} {v : Value} {n d : Int} {k j : Nat} (h : RatB w v n d k) (hk : k ≤ j) : RatB w v n d j := by
  obtain ⟨A, l, c, A', l', c', rfl, h1, h2⟩ := h
  exact ⟨A, l, c, A', l', c', rfl, h1.more hk, h2.more hk⟩
/-- The denominator. -/
def denZ (d : Int) : Int := if d = 0 then 1 else d
theorem Box.cells4 {w : World} {p : Nat} {a b c d : Value} {T : TypeId} (h : Box w p #[a, b, c, d] T) : w.cell? ⟨p, 0, none⟩ = some a ∧ w.cell? ⟨p, 1, none⟩ = some b ∧ w.cell? ⟨p, 2, none⟩ = some c ∧ w.cell? ⟨p, 3, none⟩ = some d := ⟨h.cell 0, h.cell 1, h.cell 2, h.cell 3⟩
section
variable {w : World} {u v : Value} {n d : Int} {k j : Nat}
theorem num_done {w0 w : World} {p : Nat} {a b : Value} (hb : Box w p #[a, b] NNum) (hn : New w0 w) (hp : w0.heap.size ≤ p) {x bb : Value} {z : Int} {k : Nat} (hv : NumB w (.agg #[x, bb]) z k) :
    ((w.setCell ⟨p, 0, none⟩ x).setCell ⟨p, 1, none⟩ bb).cell? ⟨p, 0, none⟩ = some x ∧ ((w.setCell ⟨p, 0, none⟩ x).setCell ⟨p, 1, none⟩ bb).cell? ⟨p, 1, none⟩ = some bb ∧
    NumB ((w.setCell ⟨p, 0, none⟩ x).setCell ⟨p, 1, none⟩ bb) (.agg #[x, bb]) z k ∧ New w0 ((w.setCell ⟨p, 0, none⟩ x).setCell ⟨p, 1, none⟩ bb) :=
  ⟨(hb.lay2 x bb).cell0', (hb.lay2 x bb).cell1', hv.lay2 hb x bb, New.set2 hn hp _ _⟩
set_option maxHeartbeats 1000000 in
theorem one_n (w : World) : Calls Tryz.prog 101 #[] w fun e w' => ∃ v, e = .returned v ∧ NumB w' v 1 2 ∧ New w w' := by
  have HB := Lib.hid (Box.last w #[.slice none 0 0, .bool false] NNum)
  have HN := Lib.hid ((New.refl w).alloc (.cells #[.slice none 0 0, .bool false] NNum))
  have HO := Lib.hid (fun W => of_n 1 (by omega) (by omega) W)
  have HD : Hid (decide ((1 : Int) < 0) = false) := Lib.hid rfl
  go_enter Tryz.func101, Tryz.ntmps101
  go_wp2_with fail
  refine (HO.out _).mono ?_
  rintro e w1 ⟨v1, rfl, hv1, hn1⟩
  obtain ⟨A1, l1, c1, rfl, _⟩ := hv1.form
  rw [HD.out] at *
  have hb := HB.out.new hn1
  obtain ⟨f0, f1, f2, f3⟩ := hb.two
  obtain ⟨g0, g1, g2, g3⟩ := num_done hb (HN.out.trans hn1) (Nat.le_refl _) hv1
  have HV := Lib.hid g2
  have HW := Lib.hid g3
  clear g2 g3 hv1 hn1 hb
  go_wp2
  refine bodyPost_ret (v := .agg #[.slice A1 l1 c1, .bool false]) (by simp [results, Tryz.results101, go_sem, g0, g1]) rfl ⟨_, rfl, HV.out, HW.out⟩
set_option maxHeartbeats 1000000 in
theorem den_n (hz : RatB w v n d k) (hk : k ≤ 100000) (hk2 : 2 ≤ k) :
    Calls Tryz.prog 56 #[v] w fun e w' => ∃ u, e = .returned u ∧ NumB w' u (denZ d) k ∧ New w w' := by
  obtain ⟨A, l, c, A', l', c', rfl, hv, hv'⟩ := hz
  have HN := Lib.hid (((New.refl w).alloc (.cells #[.slice A l c, .bool (decide (n < 0)), .slice A' l' c', .bool (decide (d < 0))] NRat)).alloc (.cells #[.slice none 0 0, .bool false] NNum))
  have HB0 := Lib.hid ((Box.last w #[.slice A l c, .bool (decide (n < 0)), .slice A' l' c', .bool (decide (d < 0))] NRat).alloc (.cells #[.slice none 0 0, .bool false] NNum))
  have HB1 := Lib.hid (Box.last2 w (.cells #[.slice A l c, .bool (decide (n < 0)), .slice A' l' c', .bool (decide (d < 0))] NRat) #[.slice none 0 0, .bool false] NNum)
  have HV := Lib.hid (fun W (h : New w W) => hv'.new h)
  have HS := Lib.hid (fun W (h : New w W) => sign_n (hv'.new h) hk)
  have HO := Lib.hid one_n
  clear hv hv'
  by_cases h : d = 0
  · have e1 : denZ d = 1 := by unfold denZ; rw [if_pos h]
    have e2 : sgZ d = 0 := by rw [h]; rfl
    have HD : Hid (decide ((1 : Int) < 0) = false) := Lib.hid rfl
    rw [e1]
    rw [e2] at HS
    clear e1 e2 h HV
    generalize decide (n < 0) = b at *
    generalize decide (d < 0) = b' at *
    go_enter Tryz.func56, Tryz.ntmps56
    go_wp2_with fail
    refine (HS.out _ HN.out).mono ?_
    rintro e w1 ⟨rfl, hn1⟩
    have HB11 := Lib.hid (HB1.out.new hn1)
    have HN1 := Lib.hid (HN.out.trans hn1)
    clear hn1 HB1 HB0
    go_wp2_with fail
    refine (HO.out _).mono ?_
    rintro e w2 ⟨v1, rfl, hv1, hn2⟩
    obtain ⟨A1, l1, c1, rfl, _⟩ := hv1.form
    rw [HD.out] at *
    have hb := HB11.out.new hn2
    obtain ⟨f0, f1, f2, f3⟩ := hb.two
    obtain ⟨g0, g1, g2, g3⟩ := num_done hb (HN1.out.trans hn2) (by omega) hv1
    have HVV := Lib.hid (NumB.more g2 hk2)
    have HW := Lib.hid g3
    clear g2 g3 hv1 hn2 hb
    go_wp2
    refine bodyPost_ret (v := .agg #[.slice A1 l1 c1, .bool false]) (by simp [results, Tryz.results56, go_sem, g0, g1]) rfl ⟨_, rfl, HVV.out, HW.out⟩
  · have e1 : denZ d = d := by unfold denZ; rw [if_neg h]
    obtain ⟨s, hs⟩ : ∃ s, sgZ d = s := ⟨_, rfl⟩
    have hs0 : (s == 0) = false := by rw [beq_eq_false_iff_ne, ← hs]; unfold sgZ; (repeat' split) <;> omega
    rw [e1]
    rw [hs] at HS
    clear e1 h hs HO
    generalize decide (n < 0) = b at *
    generalize decide (d < 0) = b' at *
    go_enter Tryz.func56, Tryz.ntmps56
    go_wp2_with fail
    refine (HS.out _ HN.out).mono ?_
    rintro e w1 ⟨rfl, hn1⟩
    have hb := HB1.out.new hn1
    obtain ⟨f0, f1, f2, f3⟩ := hb.two
    obtain ⟨m0, m1, m2, m3⟩ := (HB0.out.new hn1).cells4
    obtain ⟨g0, g1, g2, g3⟩ := num_done hb (HN.out.trans hn1) (by omega) (HV.out _ (HN.out.trans hn1))
    have HVV := Lib.hid g2
    have HW := Lib.hid g3
    clear g2 g3 hn1 hb HV
    go_wp2
    refine bodyPost_ret (v := .agg #[.slice A' l' c', .bool b']) (by simp [results, Tryz.results56, go_sem, g0, g1]) rfl ⟨_, rfl, HVV.out, HW.out⟩
set_option maxHeartbeats 1000000 in
theorem rsg_n (s : Int) (hz : RatB w v n d k) (hk : k ≤ 100000) (hs : sgZ n = s) :
    Calls Tryz.prog 63 #[v] w fun e w' => e = .returned (.int .i64 s) ∧ New w w' := by
  obtain ⟨A, l, c, A', l', c', rfl, hv, hv'⟩ := hz
  have HN := Lib.hid ((New.refl w).alloc (.cells #[.slice A l c, .bool (decide (n < 0)), .slice A' l' c', .bool (decide (d < 0))] NRat))
  have HS := Lib.hid (fun W (h : New w W) => sign_n (hv.new h) hk)
  rw [hs] at HS
  clear hv hv' hs
  generalize decide (n < 0) = b at *
  generalize decide (d < 0) = b' at *
  go_enter Tryz.func63, Tryz.ntmps63
  go_wp2_with fail
  refine (HS.out _ HN.out).mono ?_
  rintro e w1 ⟨rfl, hn1⟩
  have HN1 := Lib.hid (HN.out.trans hn1)
  clear hn1
  go_wp2_with fail
  go_ret
  exact ⟨rfl, HN1.out⟩
end
end Go.Proofs.YtkjlmibleoecgaaGreatDoor
