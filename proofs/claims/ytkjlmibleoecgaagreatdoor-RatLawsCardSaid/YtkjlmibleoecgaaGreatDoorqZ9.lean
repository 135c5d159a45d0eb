/- The program's num: QuoRem. (Printed by mkz9.py.) -/
import Derived.Test.YtkjlmibleoecgaaGreatDoorqZ4
import Derived.Test.YtkjlmibleoecgaaGreatDoorM3
import Derived.Test.YtkjlmibleoecgaaGreatDoorM0
namespace Go.Proofs.YtkjlmibleoecgaaGreatDoor
set_option linter.unusedSimpArgs false
set_option linter.unusedVariables false
open Go.RowKit
theorem dec_ofNat (a : Nat) : decide (Int.ofNat a < 0) = false := decide_eq_false (by have : (0 : Int) ≤ Int.ofNat a := Int.natCast_nonneg a; omega)
theorem dec_negSucc (a : Nat) : decide (Int.negSucc a < 0) = true := decide_eq_true (Int.negSucc_lt_zero a)
theorem quo_sgn : ∀ (z y : Int), sgn (!(decide (z < 0) == decide (y < 0))) (z.natAbs / y.natAbs) = z.tdiv y
  | .ofNat a, .ofNat b => by rw [dec_ofNat, dec_ofNat]; rfl
  | .ofNat a, .negSucc b => by rw [dec_ofNat, dec_negSucc]; rfl
  | .negSucc a, .ofNat b => by rw [dec_negSucc, dec_ofNat]; rfl
  | .negSucc a, .negSucc b => by rw [dec_negSucc, dec_negSucc]; rfl
theorem rem_sgn : ∀ (z y : Int), sgn (decide (z < 0)) (z.natAbs % y.natAbs) = z.tmod y
  | .ofNat a, .ofNat b => by rw [dec_ofNat]; rfl
  | .ofNat a, .negSucc b => by rw [dec_ofNat]; rfl
  | .negSucc a, .ofNat b => by rw [dec_negSucc]; rfl
  | .negSucc a, .negSucc b => by rw [dec_negSucc]; rfl
/-- Two numbers are laid into their results' boxes. -/
theorem lay_pair {w0 w : World} {q r : Nat} {a b a' b' : Value} (hq : Box w q #[a, b] NNum) (hr : Box w r #[a', b'] NNum) (hne : q ≠ r) (h1 : w0.heap.size ≤ q) (h2 : w0.heap.size ≤ r) (hn : New w0 w) (x xb y yb : Value) :
    (∀ {v : Value} {z : Int} {k : Nat}, NumB w v z k → NumB ((((w.setCell ⟨q, 0, none⟩ x).setCell ⟨q, 1, none⟩ xb).setCell ⟨r, 0, none⟩ y).setCell ⟨r, 1, none⟩ yb) v z k) ∧
    New w0 ((((w.setCell ⟨q, 0, none⟩ x).setCell ⟨q, 1, none⟩ xb).setCell ⟨r, 0, none⟩ y).setCell ⟨r, 1, none⟩ yb) ∧
    ((w.setCell ⟨q, 0, none⟩ x).setCell ⟨q, 1, none⟩ xb).cell? ⟨r, 0, none⟩ = some a' ∧ ((w.setCell ⟨q, 0, none⟩ x).setCell ⟨q, 1, none⟩ xb).cell? ⟨r, 1, none⟩ = some b' ∧
    ((((w.setCell ⟨q, 0, none⟩ x).setCell ⟨q, 1, none⟩ xb).setCell ⟨r, 0, none⟩ y).setCell ⟨r, 1, none⟩ yb).cell? ⟨q, 0, none⟩ = some x ∧ ((((w.setCell ⟨q, 0, none⟩ x).setCell ⟨q, 1, none⟩ xb).setCell ⟨r, 0, none⟩ y).setCell ⟨r, 1, none⟩ yb).cell? ⟨q, 1, none⟩ = some xb ∧
    ((((w.setCell ⟨q, 0, none⟩ x).setCell ⟨q, 1, none⟩ xb).setCell ⟨r, 0, none⟩ y).setCell ⟨r, 1, none⟩ yb).cell? ⟨r, 0, none⟩ = some y ∧ ((((w.setCell ⟨q, 0, none⟩ x).setCell ⟨q, 1, none⟩ xb).setCell ⟨r, 0, none⟩ y).setCell ⟨r, 1, none⟩ yb).cell? ⟨r, 1, none⟩ = some yb := by
  have r2 := (hr.far (i := 0) hne.symm x).far (i := 1) hne.symm xb
  have q2 := hq.lay2 x xb
  have q4 := (q2.far (i := 0) hne y).far (i := 1) hne yb
  have r4 := r2.lay2 y yb
  exact ⟨fun h => (h.lay2 hq x xb).lay2 r2 y yb, New.set2 (New.set2 hn h1 _ _) h2 _ _, r2.cell0', r2.cell1', q4.cell0', q4.cell1', r4.cell0', r4.cell1'⟩
section
variable {w : World} {u v : Value} {z y : Int} {k j : Nat}
set_option maxRecDepth 100000 in
set_option maxHeartbeats 4000000 in
theorem quorem_big (hz : NumB w u z k) (hy : NumB w v y j) (hk : k ≤ 40000) (hj : j ≤ 40000) (h0 : y ≠ 0) :
    Calls Tryz.prog 45 #[u, v] w fun e w' => ∃ q r, e = .returned (.tuple #[q, r, .int .i64 0]) ∧ NumB w' q (z.tdiv y) k ∧ NumB w' r (z.tmod y) k ∧ New w w' := by
  obtain ⟨A, l, c, rfl, hv⟩ := hz.form
  obtain ⟨A', l', c', rfl, hv'⟩ := hy.form
  have HDM := Lib.hid (fun W (h : New w W) => divmod_b1 (hv.new h) (hv'.new h) (by omega) (by omega) (by omega))
  have HM1 := Lib.hid (fun W v (h : NatB W v (z.natAbs / y.natAbs) k) => make_n (!(decide (z < 0) == decide (y < 0))) h (by omega))
  rw [quo_sgn] at HM1
  have HM2 := Lib.hid (fun W v (h : NatB W v (z.natAbs % y.natAbs) k) => make_n (decide (z < 0)) h (by omega))
  rw [rem_sgn] at HM2
  have HN := Lib.hid (allocs_new [(#[.slice A l c, .bool (decide (z < 0))], NNum), (#[.slice A' l' c', .bool (decide (y < 0))], NNum), (#[.slice none 0 0, .bool false], NNum), (#[.slice none 0 0, .bool false], NNum)] w)
  have HB := Lib.hid (allocs_bxs [(#[.slice A l c, .bool (decide (z < 0))], NNum), (#[.slice A' l' c', .bool (decide (y < 0))], NNum), (#[.slice none 0 0, .bool false], NNum), (#[.slice none 0 0, .bool false], NNum)] w)
  simp only [allocs] at HN HB
  generalize decide (z < 0) = b at *
  generalize decide (y < 0) = b' at *
  generalize z.natAbs / y.natAbs = nq at *
  generalize z.natAbs % y.natAbs = nr at *
  clear hv hv' hz hy h0
  go_enter Tryz.func45, Tryz.ntmps45
  go_wp2_with fail
  refine (HDM.out _ HN.out).mono ?_
  rintro e w5 ⟨q5, r5, rfl, hq5, hr5, hn5⟩
  obtain ⟨A5, l5, c5, rfl⟩ := hq5.form
  obtain ⟨A6, l6, c6, rfl⟩ := hr5.form
  have hs5 := HN.out.le
  have hs5' := (HB.out.new hn5).lt (by simp)
  have hn6 := (hn5.alloc (.cells #[.slice A5 l5 c5] NNat)).alloc (.cells #[.slice A6 l6 c6] NNat)
  have hn6' := ((New.refl w5).alloc (.cells #[.slice A5 l5 c5] NNat)).alloc (.cells #[.slice A6 l6 c6] NNat)
  have HQ6 := Lib.hid (hq5.new hn6')
  have HR6 := Lib.hid (hr5.new hn6')
  have HB6 := Lib.hid (HB.out.new hn6)
  have HN6 := Lib.hid (HN.out.trans hn6)
  have HC5 := Lib.hid ((Box.last w5 #[.slice A5 l5 c5] NNat).alloc (.cells #[.slice A6 l6 c6] NNat))
  have HC6 := Lib.hid (Box.last2 w5 (.cells #[.slice A5 l5 c5] NNat) #[.slice A6 l6 c6] NNat)
  simp only [List.length_cons, List.length_nil] at hs5'
  clear hq5 hr5 hn6 hn6' HN HB hs5 HDM hn5
  go_wp2
  generalize (w5.alloc (.cells #[.slice A5 l5 c5] NNat)).alloc (.cells #[.slice A6 l6 c6] NNat) = W at *
  obtain ⟨ba, bb', b2, b3, _⟩ := HB6.out
  obtain ⟨m0, m1⟩ := ba.cells2
  obtain ⟨m2, m3⟩ := bb'.cells2
  have m4 := HC5.out.cells1
  have m5 := HC6.out.cells1
  clear ba bb' b2 b3
  go_region_law ((rw [if_pos (by rfl)]; (first | go_big_op | go_simp); first
    | (with_reducible (refine (HM1.out _ _ (HQ6.out.new (New.refl W).drew)).mono ?_); rintro e w7 ⟨v7, rfl, hv7, hn7⟩; have hn7' := ((New.refl W).drew).trans hn7; obtain ⟨A7, l7, c7, rfl, _⟩ := hv7.form; have p0 := hn7'.still m0; have p1 := hn7'.still m1; have p2 := hn7'.still m2; have p3 := hn7'.still m3; have p4 := hn7'.still m4; have p5 := hn7'.still m5)
    | (with_reducible (refine (HM2.out _ _ (HR6.out.new hn7')).mono ?_); rintro e w8 ⟨v8, rfl, hv8, hn8⟩; obtain ⟨A8, l8, c8, rfl, _⟩ := hv8.form; obtain ⟨_, _, b2, b3⟩ := (Bxs.new (hn7'.trans hn8) HB6.out).four; obtain ⟨c20, c21, f20, f21⟩ := b2.two; obtain ⟨c30, c31, f30, f31⟩ := b3.two)))
  all_goals
    generalize hb7e : decide (z.tdiv y < 0) = b7 at *
    generalize hb8e : decide (z.tmod y < 0) = b8 at *
    obtain ⟨gv, gn, g0, g1, g2, g3, g4, g5⟩ := lay_pair b2 b3 (by omega) (by omega) (by omega) (HN6.out.trans (hn7'.trans hn8)) (.slice A7 l7 c7) (.bool b7) (.slice A8 l8 c8) (.bool b8)
    have GV7 := Lib.hid (gv (hv7.new hn8))
    have GV8 := Lib.hid (gv hv8)
    have GN := Lib.hid gn
    clear gv gn hv7 hv8 hn7 hn8 hn7' b2 b3 hb7e hb8e
    go_wp2
    refine bodyPost_ret (v := .tuple #[.agg #[.slice A7 l7 c7, .bool b7], .agg #[.slice A8 l8 c8, .bool b8], .int .i64 0]) (by simp [results, Tryz.results45, go_sem, g2, g3, g4, g5]) rfl ⟨_, _, rfl, GV7.out, GV8.out, GN.out⟩
set_option maxHeartbeats 1000000 in
theorem quorem_zero (hz : NumB w u z k) (hy : NumB w v 0 j) (hk : k ≤ 40000) (hj : j ≤ 40000) :
    Calls Tryz.prog 45 #[u, v] w fun e w' => ∃ q r, e = .returned (.tuple #[q, r, .int .i64 12]) ∧ NumB w' q 0 k ∧ NumB w' r 0 k ∧ New w w' := by
  obtain ⟨A, l, c, rfl, hv⟩ := hz.form
  obtain ⟨A', l', c', rfl, hv'⟩ := hy.form
  have HDM := Lib.hid (fun W (h : New w W) => divmod_b0 (hv.new h) (hv'.new h) (by omega) (by omega))
  have HN := Lib.hid (allocs_new [(#[.slice A l c, .bool (decide (z < 0))], NNum), (#[.slice A' l' c', .bool (decide ((0 : Int) < 0))], NNum), (#[.slice none 0 0, .bool false], NNum), (#[.slice none 0 0, .bool false], NNum)] w)
  have HB := Lib.hid (allocs_bxs [(#[.slice A l c, .bool (decide (z < 0))], NNum), (#[.slice A' l' c', .bool (decide ((0 : Int) < 0))], NNum), (#[.slice none 0 0, .bool false], NNum), (#[.slice none 0 0, .bool false], NNum)] w)
  simp only [allocs] at HN HB
  generalize decide (z < 0) = b at *
  generalize decide ((0 : Int) < 0) = b' at *
  clear hv hv' hz hy
  go_enter Tryz.func45, Tryz.ntmps45
  go_wp2_with fail
  refine (HDM.out _ HN.out).mono ?_
  rintro e w5 ⟨q5, r5, rfl, hq5, hr5, hn5⟩
  obtain ⟨A5, l5, c5, rfl⟩ := hq5.form
  obtain ⟨A6, l6, c6, rfl⟩ := hr5.form
  have hs5' := (HB.out.new hn5).lt (by simp)
  simp only [List.length_cons, List.length_nil] at hs5'
  have hn6 := (hn5.alloc (.cells #[.slice A5 l5 c5] NNat)).alloc (.cells #[.slice A6 l6 c6] NNat)
  obtain ⟨_, _, b2, b3, _⟩ := HB.out.new hn6
  obtain ⟨c20, c21, f20, f21⟩ := b2.two
  obtain ⟨c30, c31, f30, f31⟩ := b3.two
  obtain ⟨gv, gn, g0, g1, g2, g3, g4, g5⟩ := lay_pair b2 b3 (by omega) (by omega) (by omega) (HN.out.trans hn6) (.slice none 0 0) (.bool false) (.slice none 0 0) (.bool false)
  have GN := Lib.hid gn
  have hz0 : ∀ W : World, NumB W (.agg #[.slice none 0 0, .bool false]) 0 k := fun W => ⟨⟨none, 0, 0, rfl, NatV.zero W⟩, by rw [show (0 : Int).natAbs = 0 from rfl, dg_zero]; exact Nat.zero_le _⟩
  have HZ0 := Lib.hid hz0
  clear hq5 hr5 hn5 hn6 b2 b3 gv gn hz0
  go_wp2
  refine bodyPost_ret (v := .tuple #[.agg #[.slice none 0 0, .bool false], .agg #[.slice none 0 0, .bool false], .int .i64 12]) (by simp [results, Tryz.results45, go_sem, g2, g3, g4, g5]) rfl ⟨_, _, rfl, HZ0.out _, HZ0.out _, GN.out⟩
/-- The rest, where there is one. -/
def remI (z y : Int) : Int := if y = 0 then 0 else z.tmod y
def divI (y : Int) : Int := if y = 0 then 12 else 0
theorem quorem_n (hz : NumB w u z k) (hy : NumB w v y j) (hk : k ≤ 40000) (hj : j ≤ 40000) :
    Calls Tryz.prog 45 #[u, v] w fun e w' => ∃ q r, e = .returned (.tuple #[q, r, .int .i64 (divI y)]) ∧ NumB w' q (z.tdiv y) k ∧ NumB w' r (remI z y) k ∧ New w w' := by
  by_cases h : y = 0
  · subst h
    rw [Int.tdiv_zero]
    exact quorem_zero hz hy hk hj
  · have e1 : divI y = 0 := by unfold divI; rw [if_neg h]
    have e2 : remI z y = z.tmod y := by unfold remI; rw [if_neg h]
    rw [e1, e2]
    exact quorem_big hz hy hk hj h
end
end Go.Proofs.YtkjlmibleoecgaaGreatDoor
