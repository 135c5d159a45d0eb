/- The reference of num: QuoRem. (Printed by mkrz2.py.) -/
import Derived.Test.YtkjlmibleoecgaaGreatDoorqRZ1
import Derived.Test.YtkjlmibleoecgaaGreatDoorqZ9
import Derived.Test.YtkjlmibleoecgaaGreatDoorqRef14
namespace Go.Proofs.YtkjlmibleoecgaaGreatDoor
set_option linter.unusedSimpArgs false
set_option linter.unusedVariables false
open Go.RowKit
section
variable {w : World} {u v : Value} {x y k j : Nat}
theorem rdivmod_b0 (hu : RefB w u x k) (hv : RefB w v 0 j) (hk : k ≤ 100000) (hj : j ≤ 100000) :
    Calls Tryz.prog 15 #[u, v] w fun e w' => ∃ q r, e = .returned (.tuple #[q, r, .int .i64 12]) ∧ RefB w' q 0 k ∧ RefB w' r 0 k ∧ New w w' :=
  (rdivmod_zero hu.v hv.v).mono fun e w' ⟨q, r, h1, h2, h3, h4⟩ => ⟨q, r, h1, ⟨h2, by rw [dg_zero]; exact Nat.zero_le _⟩, ⟨h3, by rw [dg_zero]; exact Nat.zero_le _⟩, h4⟩
theorem rdivmod_b1 (hu : RefB w u x k) (hv : RefB w v y j) (hk : k ≤ 100000) (hj : j ≤ 100000) (h0 : 0 < y) :
    Calls Tryz.prog 15 #[u, v] w fun e w' => ∃ q r, e = .returned (.tuple #[q, r, .int .i64 0]) ∧ RefB w' q (x / y) k ∧ RefB w' r (x % y) k ∧ New w w' := by
  have h := rdivmod_c hu.v hv.v (by have := hu.k; omega) (by have := hv.k; omega)
  have e1 : divE9 y = 0 := by unfold divE9; rw [if_neg (by omega)]
  have e2 : remZ9 x y = x % y := by unfold remZ9; rw [if_neg (by omega)]
  rw [e1, e2] at h
  exact h.mono fun e w' ⟨q, r, h1, h2, h3, h4⟩ => ⟨q, r, h1, ⟨h2, Nat.le_trans (dg_len_mono B9_2 (Nat.div_le_self x y)) hu.k⟩, ⟨h3, Nat.le_trans (dg_len_mono B9_2 (Nat.mod_le x y)) hu.k⟩, h4⟩
end
/-- Two numbers are laid into their results' boxes. -/
theorem rlay_pair {w0 w : World} {q r : Nat} {a b a' b' : Value} (hq : Box w q #[a, b] RNum) (hr : Box w r #[a', b'] RNum) (hne : q ≠ r) (h1 : w0.heap.size ≤ q) (h2 : w0.heap.size ≤ r) (hn : New w0 w) (x xb y yb : Value) :
    (∀ {v : Value} {z : Int} {k : Nat}, RNumB w v z k → RNumB ((((w.setCell ⟨q, 0, none⟩ x).setCell ⟨q, 1, none⟩ xb).setCell ⟨r, 0, none⟩ y).setCell ⟨r, 1, none⟩ yb) v z k) ∧
    New w0 ((((w.setCell ⟨q, 0, none⟩ x).setCell ⟨q, 1, none⟩ xb).setCell ⟨r, 0, none⟩ y).setCell ⟨r, 1, none⟩ yb) ∧
    ((w.setCell ⟨q, 0, none⟩ x).setCell ⟨q, 1, none⟩ xb).cell? ⟨r, 0, none⟩ = some a' ∧ ((w.setCell ⟨q, 0, none⟩ x).setCell ⟨q, 1, none⟩ xb).cell? ⟨r, 1, none⟩ = some b' ∧
    ((((w.setCell ⟨q, 0, none⟩ x).setCell ⟨q, 1, none⟩ xb).setCell ⟨r, 0, none⟩ y).setCell ⟨r, 1, none⟩ yb).cell? ⟨q, 0, none⟩ = some x ∧ ((((w.setCell ⟨q, 0, none⟩ x).setCell ⟨q, 1, none⟩ xb).setCell ⟨r, 0, none⟩ y).setCell ⟨r, 1, none⟩ yb).cell? ⟨q, 1, none⟩ = some xb ∧
    ((((w.setCell ⟨q, 0, none⟩ x).setCell ⟨q, 1, none⟩ xb).setCell ⟨r, 0, none⟩ y).setCell ⟨r, 1, none⟩ yb).cell? ⟨r, 0, none⟩ = some y ∧ ((((w.setCell ⟨q, 0, none⟩ x).setCell ⟨q, 1, none⟩ xb).setCell ⟨r, 0, none⟩ y).setCell ⟨r, 1, none⟩ yb).cell? ⟨r, 1, none⟩ = some yb := by
  have r2 := (hr.far (i := 0) hne.symm x).far (i := 1) hne.symm xb
  have q2 := hq.lay2 x xb
  have q4 := (q2.far (i := 0) hne y).far (i := 1) hne yb
  have r4 := r2.lay2 y yb
  exact ⟨fun h => (h.lay2 hq x xb).lay2 r2 y yb, New.set2 (New.set2 hn h1 _ _) h2 _ _, r2.cell0', r2.cell1', q4.cell0', q4.cell1', r4.cell0', r4.cell1'⟩
section
variable {w : World} {u v : Value} {z y : Int} {k j : Nat}
set_option maxRecDepth 100000 in
set_option maxHeartbeats 4000000 in
theorem rquorem_big (hz : RNumB w u z k) (hy : RNumB w v y j) (hk : k ≤ 40000) (hj : j ≤ 40000) (h0 : y ≠ 0) :
    Calls Tryz.prog 46 #[u, v] w fun e w' => ∃ q r, e = .returned (.tuple #[q, r, .int .i64 0]) ∧ RNumB w' q (z.tdiv y) k ∧ RNumB w' r (z.tmod y) k ∧ New w w' := by
  obtain ⟨A, l, c, rfl, hv⟩ := hz.form
  obtain ⟨A', l', c', rfl, hv'⟩ := hy.form
  have HDM := Lib.hid (fun W (h : New w W) => rdivmod_b1 (hv.new h) (hv'.new h) (by omega) (by omega) (by omega))
  have HM1 := Lib.hid (fun W v (h : RefB W v (z.natAbs / y.natAbs) k) => rmake_b (!(decide (z < 0) == decide (y < 0))) h)
  rw [quo_sgn] at HM1
  have HM2 := Lib.hid (fun W v (h : RefB W v (z.natAbs % y.natAbs) k) => rmake_b (decide (z < 0)) h)
  rw [rem_sgn] at HM2
  have HN := Lib.hid (allocs_new [(#[.bool (decide (z < 0)), .slice A l c], RNum), (#[.bool (decide (y < 0)), .slice A' l' c'], RNum), (#[.bool false, .slice none 0 0], RNum), (#[.bool false, .slice none 0 0], RNum)] w)
  have HB := Lib.hid (allocs_bxs [(#[.bool (decide (z < 0)), .slice A l c], RNum), (#[.bool (decide (y < 0)), .slice A' l' c'], RNum), (#[.bool false, .slice none 0 0], RNum), (#[.bool false, .slice none 0 0], RNum)] w)
  simp only [allocs] at HN HB
  generalize decide (z < 0) = b at *
  generalize decide (y < 0) = b' at *
  generalize z.natAbs / y.natAbs = nq at *
  generalize z.natAbs % y.natAbs = nr at *
  clear hv hv' hz hy h0
  go_enter Tryz.func46, Tryz.ntmps46
  go_wp2_with fail
  refine (HDM.out _ HN.out).mono ?_
  rintro e w5 ⟨q5, r5, rfl, hq5, hr5, hn5⟩
  obtain ⟨A5, l5, c5, rfl⟩ := hq5.form
  obtain ⟨A6, l6, c6, rfl⟩ := hr5.form
  have hs5 := HN.out.le
  have hs5' := (HB.out.new hn5).lt (by simp)
  have hn6 := (hn5.alloc (.cells #[.slice A5 l5 c5] RNt)).alloc (.cells #[.slice A6 l6 c6] RNt)
  have hn6' := ((New.refl w5).alloc (.cells #[.slice A5 l5 c5] RNt)).alloc (.cells #[.slice A6 l6 c6] RNt)
  have HQ6 := Lib.hid (hq5.new hn6')
  have HR6 := Lib.hid (hr5.new hn6')
  have HB6 := Lib.hid (HB.out.new hn6)
  have HN6 := Lib.hid (HN.out.trans hn6)
  have HC5 := Lib.hid ((Box.last w5 #[.slice A5 l5 c5] RNt).alloc (.cells #[.slice A6 l6 c6] RNt))
  have HC6 := Lib.hid (Box.last2 w5 (.cells #[.slice A5 l5 c5] RNt) #[.slice A6 l6 c6] RNt)
  simp only [List.length_cons, List.length_nil] at hs5'
  clear hq5 hr5 hn6 hn6' HN HB hs5 HDM hn5
  go_wp2
  generalize (w5.alloc (.cells #[.slice A5 l5 c5] RNt)).alloc (.cells #[.slice A6 l6 c6] RNt) = W at *
  obtain ⟨ba, bb', b2, b3, _⟩ := HB6.out
  obtain ⟨m0, m1⟩ := ba.cells2
  obtain ⟨m2, m3⟩ := bb'.cells2
  have m4 := HC5.out.cells1
  have m5 := HC6.out.cells1
  clear ba bb' b2 b3
  go_region_law ((rw [if_pos (by rfl)]; (first | go_big_op | go_simp); first
    | (with_reducible (refine (HM1.out _ _ (HQ6.out.new (New.refl W).drew)).mono ?_); rintro e w7 ⟨v7, rfl, hv7, hn7⟩; have hn7' := ((New.refl W).drew).trans hn7; obtain ⟨A7, l7, c7, rfl, _⟩ := hv7.form; have p0 := hn7'.still m0; have p1 := hn7'.still m1; have p2 := hn7'.still m2; have p3 := hn7'.still m3; have p4 := hn7'.still m4; have p5 := hn7'.still m5)
    | (with_reducible (refine (HM2.out _ _ (HR6.out.new hn7')).mono ?_); rintro e w8 ⟨v8, rfl, hv8, hn8⟩; obtain ⟨A8, l8, c8, rfl, _⟩ := hv8.form; obtain ⟨_, _, b2, b3⟩ := (Bxs.new (hn7'.trans hn8) HB6.out).four; obtain ⟨c20, c21, f20, f21⟩ := b2.two; obtain ⟨c30, c31, f30, f31⟩ := b3.two)))
  all_goals
    generalize hb7e : decide (z.tdiv y < 0) = b7 at *
    generalize hb8e : decide (z.tmod y < 0) = b8 at *
    obtain ⟨gv, gn, g0, g1, g2, g3, g4, g5⟩ := rlay_pair b2 b3 (by omega) (by omega) (by omega) (HN6.out.trans (hn7'.trans hn8)) (.bool b7) (.slice A7 l7 c7) (.bool b8) (.slice A8 l8 c8)
    have GV7 := Lib.hid (gv (hv7.new hn8))
    have GV8 := Lib.hid (gv hv8)
    have GN := Lib.hid gn
    clear gv gn hv7 hv8 hn7 hn8 hn7' b2 b3 hb7e hb8e
    go_wp2
    refine bodyPost_ret (v := .tuple #[.agg #[.bool b7, .slice A7 l7 c7], .agg #[.bool b8, .slice A8 l8 c8], .int .i64 0]) (by simp [results, Tryz.results46, go_sem, g2, g3, g4, g5]) rfl ⟨_, _, rfl, GV7.out, GV8.out, GN.out⟩
set_option maxHeartbeats 1000000 in
theorem rquorem_zero (hz : RNumB w u z k) (hy : RNumB w v 0 j) (hk : k ≤ 40000) (hj : j ≤ 40000) :
    Calls Tryz.prog 46 #[u, v] w fun e w' => ∃ q r, e = .returned (.tuple #[q, r, .int .i64 12]) ∧ RNumB w' q 0 k ∧ RNumB w' r 0 k ∧ New w w' := by
  obtain ⟨A, l, c, rfl, hv⟩ := hz.form
  obtain ⟨A', l', c', rfl, hv'⟩ := hy.form
  have HDM := Lib.hid (fun W (h : New w W) => rdivmod_b0 (hv.new h) (hv'.new h) (by omega) (by omega))
  have HN := Lib.hid (allocs_new [(#[.bool (decide (z < 0)), .slice A l c], RNum), (#[.bool (decide ((0 : Int) < 0)), .slice A' l' c'], RNum), (#[.bool false, .slice none 0 0], RNum), (#[.bool false, .slice none 0 0], RNum)] w)
  have HB := Lib.hid (allocs_bxs [(#[.bool (decide (z < 0)), .slice A l c], RNum), (#[.bool (decide ((0 : Int) < 0)), .slice A' l' c'], RNum), (#[.bool false, .slice none 0 0], RNum), (#[.bool false, .slice none 0 0], RNum)] w)
  simp only [allocs] at HN HB
  generalize decide (z < 0) = b at *
  generalize decide ((0 : Int) < 0) = b' at *
  clear hv hv' hz hy
  go_enter Tryz.func46, Tryz.ntmps46
  go_wp2_with fail
  refine (HDM.out _ HN.out).mono ?_
  rintro e w5 ⟨q5, r5, rfl, hq5, hr5, hn5⟩
  obtain ⟨A5, l5, c5, rfl⟩ := hq5.form
  obtain ⟨A6, l6, c6, rfl⟩ := hr5.form
  have hs5' := (HB.out.new hn5).lt (by simp)
  simp only [List.length_cons, List.length_nil] at hs5'
  have hn6 := (hn5.alloc (.cells #[.slice A5 l5 c5] RNt)).alloc (.cells #[.slice A6 l6 c6] RNt)
  obtain ⟨_, _, b2, b3, _⟩ := HB.out.new hn6
  obtain ⟨c20, c21, f20, f21⟩ := b2.two
  obtain ⟨c30, c31, f30, f31⟩ := b3.two
  obtain ⟨gv, gn, g0, g1, g2, g3, g4, g5⟩ := rlay_pair b2 b3 (by omega) (by omega) (by omega) (HN.out.trans hn6) (.bool false) (.slice none 0 0) (.bool false) (.slice none 0 0)
  have GN := Lib.hid gn
  have hz0 : ∀ W : World, RNumB W (.agg #[.bool false, .slice none 0 0]) 0 k := fun W => ⟨⟨none, 0, 0, rfl, RefV.zero W⟩, by rw [show (0 : Int).natAbs = 0 from rfl, dg_zero]; exact Nat.zero_le _⟩
  have HZ0 := Lib.hid hz0
  clear hq5 hr5 hn5 hn6 b2 b3 gv gn hz0
  go_wp2
  refine bodyPost_ret (v := .tuple #[.agg #[.bool false, .slice none 0 0], .agg #[.bool false, .slice none 0 0], .int .i64 12]) (by simp [results, Tryz.results46, go_sem, g2, g3, g4, g5]) rfl ⟨_, _, rfl, HZ0.out _, HZ0.out _, GN.out⟩
theorem rquorem_n (hz : RNumB w u z k) (hy : RNumB w v y j) (hk : k ≤ 40000) (hj : j ≤ 40000) :
    Calls Tryz.prog 46 #[u, v] w fun e w' => ∃ q r, e = .returned (.tuple #[q, r, .int .i64 (divI y)]) ∧ RNumB w' q (z.tdiv y) k ∧ RNumB w' r (remI z y) k ∧ New w w' := by
  by_cases h : y = 0
  · subst h
    rw [Int.tdiv_zero]
    exact rquorem_zero hz hy hk hj
  · have e1 : divI y = 0 := by unfold divI; rw [if_neg h]
    have e2 : remI z y = z.tmod y := by unfold remI; rw [if_neg h]
    rw [e1, e2]
    exact rquorem_big hz hy hk hj h
end
end Go.Proofs.YtkjlmibleoecgaaGreatDoor
