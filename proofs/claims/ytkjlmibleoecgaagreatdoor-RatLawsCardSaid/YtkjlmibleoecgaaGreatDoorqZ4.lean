/- The program's num: contracts, part 4: Add, Sub, Mul. (Printed by mkz4.py.) -/
import Derived.Test.YtkjlmibleoecgaaGreatDoorM2
namespace Go.Proofs.YtkjlmibleoecgaaGreatDoor
set_option linter.unusedSimpArgs false
set_option linter.unusedVariables false
open Go.RowKit
/-- Three boxes: two numbers, a result. -/
structure N3 (w0 w : World) (p : Nat) (A : Option Addr) (l c : Nat) (b : Bool) (A' : Option Addr) (l' c' : Nat) (b' : Bool) : Prop where
  nw : New w0 w
  b0 : Box w p #[.slice A l c, .bool b] NNum
  b1 : Box w (p + 1) #[.slice A' l' c', .bool b'] NNum
  b2 : Box w (p + 1 + 1) #[.slice none 0 0, .bool false] NNum
theorem N3.new {w0 w w' : World} {p : Nat} {A : Option Addr} {l c : Nat} {b : Bool} {A' : Option Addr} {l' c' : Nat} {b' : Bool} (h : N3 w0 w p A l c b A' l' c' b') (hn : New w w') : N3 w0 w' p A l c b A' l' c' b' := ⟨h.nw.trans hn, h.b0.new hn, h.b1.new hn, h.b2.new hn⟩
theorem N3.start (w : World) (A : Option Addr) (l c : Nat) (b : Bool) (A' : Option Addr) (l' c' : Nat) (b' : Bool) : N3 w (((w.alloc (.cells #[.slice A l c, .bool b] NNum)).alloc (.cells #[.slice A' l' c', .bool b'] NNum)).alloc (.cells #[.slice none 0 0, .bool false] NNum)) w.heap.size A l c b A' l' c' b' :=
  ⟨(((New.refl w).alloc _).alloc _).alloc _, ((Box.last w _ _).alloc _).alloc _, (Box.last2 w _ _ _).alloc _, Box.last3 w _ _ _ _⟩
theorem N3.cells {w0 w : World} {p : Nat} {A : Option Addr} {l c : Nat} {b : Bool} {A' : Option Addr} {l' c' : Nat} {b' : Bool} (h : N3 w0 w p A l c b A' l' c' b') :
    w.cell? ⟨p, 0, none⟩ = some (.slice A l c) ∧ w.cell? ⟨p, 1, none⟩ = some (.bool b) ∧ w.cell? ⟨p + 1, 0, none⟩ = some (.slice A' l' c') ∧ w.cell? ⟨p + 1, 1, none⟩ = some (.bool b') ∧
    w.cell? ⟨p + 1 + 1, 0, none⟩ = some (.slice none 0 0) ∧ w.cell? ⟨p + 1 + 1, 1, none⟩ = some (.bool false) ∧ w.frozen? ⟨p + 1 + 1, 0, none⟩ = false ∧ w.frozen? ⟨p + 1 + 1, 1, none⟩ = false :=
  ⟨h.b0.cell 0, h.b0.cell 1, h.b1.cell 0, h.b1.cell 1, h.b2.cell 0, h.b2.cell 1, h.b2.frozen 0, h.b2.frozen 1⟩
/-- The result is laid into its box. -/
theorem N3.done {w0 w : World} {p : Nat} {A : Option Addr} {l c : Nat} {b : Bool} {A' : Option Addr} {l' c' : Nat} {b' : Bool} (h : N3 w0 w p A l c b A' l' c' b') (hp : w0.heap.size ≤ p) {x : Value} {bb : Bool} {z : Int} {k : Nat} (hv : NumB w (.agg #[x, .bool bb]) z k) :
    ((w.setCell ⟨p + 1 + 1, 0, none⟩ x).setCell ⟨p + 1 + 1, 1, none⟩ (.bool bb)).cell? ⟨p + 1 + 1, 0, none⟩ = some x ∧ ((w.setCell ⟨p + 1 + 1, 0, none⟩ x).setCell ⟨p + 1 + 1, 1, none⟩ (.bool bb)).cell? ⟨p + 1 + 1, 1, none⟩ = some (.bool bb) ∧
    NumB ((w.setCell ⟨p + 1 + 1, 0, none⟩ x).setCell ⟨p + 1 + 1, 1, none⟩ (.bool bb)) (.agg #[x, .bool bb]) z k ∧ New w0 ((w.setCell ⟨p + 1 + 1, 0, none⟩ x).setCell ⟨p + 1 + 1, 1, none⟩ (.bool bb)) :=
  ⟨(h.b2.lay2 x (.bool bb)).cell0', (h.b2.lay2 x (.bool bb)).cell1', hv.lay2 h.b2 x (.bool bb), New.set2 h.nw (by omega) _ _⟩
theorem NumB.more {w : World} {v : Value} {z : Int} {k j : Nat} (h : NumB w v z k) (hk : k ≤ j) : NumB w v z j := ⟨h.v, Nat.le_trans h.k hk⟩
section
variable {w : World} {u v : Value} {z y : Int} {k j : Nat}
theorem add_same {z y : Int} (h : decide (z < 0) = decide (y < 0)) : sgn (decide (z < 0)) (z.natAbs + y.natAbs) = z + y := by
  have h2 : (z < 0) ↔ (y < 0) := by simpa using h
  unfold sgn
  by_cases h1 : z < 0 <;> simp [h1] <;> omega
theorem add_more {z y : Int} (h : decide (z < 0) ≠ decide (y < 0)) (hle : y.natAbs ≤ z.natAbs) : sgn (decide (z < 0)) (z.natAbs - y.natAbs) = z + y := by
  have h2 : ¬ ((z < 0) ↔ (y < 0)) := by simpa using h
  unfold sgn
  by_cases h1 : z < 0 <;> simp [h1] <;> omega
theorem add_less {z y : Int} (h : decide (z < 0) ≠ decide (y < 0)) (hle : z.natAbs < y.natAbs) : sgn (decide (y < 0)) (y.natAbs - z.natAbs) = z + y := by
  have h2 : ¬ ((z < 0) ↔ (y < 0)) := by simpa using h
  unfold sgn
  by_cases h1 : y < 0 <;> simp [h1] <;> omega
set_option maxRecDepth 100000 in
set_option maxHeartbeats 2000000 in
theorem add_n (hz : NumB w u z k) (hy : NumB w v y j) (hk : k ≤ 40000) (hj : j ≤ 40000) :
    Calls Tryz.prog 26 #[u, v] w fun e w' => ∃ u, e = .returned u ∧ NumB w' u (z + y) (k + j + 1) ∧ New w w' := by
  obtain ⟨A, l, c, rfl, hv⟩ := hz.form
  obtain ⟨A', l', c', rfl, hv'⟩ := hy.form
  have HN := Lib.hid (N3.start w A l c (decide (z < 0)) A' l' c' (decide (y < 0)))
  by_cases hs : decide (z < 0) = decide (y < 0)
  · have HA := Lib.hid (fun W (h : New w W) => add_b (hv.new h) (hv'.new h) (by omega) (by omega))
    have HM := Lib.hid (fun W v (h : NatB W v (z.natAbs + y.natAbs) (k + j + 1)) => make_n (decide (z < 0)) h (by omega))
    rw [add_same hs] at HM
    generalize decide (z < 0) = b at *
    generalize decide (y < 0) = b' at *
    obtain rfl : b = b' := hs
    clear hv hv' hz hy
    go_enter Tryz.func26, Tryz.ntmps26
    go_wp2
    generalize ((w.alloc (.cells #[.slice A l c, .bool b] NNum)).alloc (.cells #[.slice A' l' c', .bool b] NNum)).alloc (.cells #[.slice none 0 0, .bool false] NNum) = W at *
    obtain ⟨m0, m1, m2, m3, m4, m5, m6, m7⟩ := HN.out.cells
    go_region_law ((rw [if_pos (by rfl)]; (first | go_big_op | go_simp); first
      | (with_reducible (refine (HA.out _ HN.out.nw.drew).mono ?_); rintro e w5 ⟨v5, rfl, hv5, hn5⟩; have hd5 := HN.out.new ((New.refl W).drew.trans hn5); obtain ⟨q0, q1, q2, q3, q4, q5, q6, q7⟩ := hd5.cells)
      | (with_reducible (refine (HM.out _ _ hv5).mono ?_); rintro e w6 ⟨v6, rfl, hv1, hn6⟩; have hd6 := hd5.new hn6; obtain ⟨A1, l1, c1, rfl, _⟩ := hv1.form; obtain ⟨r0, r1, r2, r3, r4, r5, r6, r7⟩ := hd6.cells)))
    all_goals
      generalize hbb : decide (z + y < 0) = bb at *
      obtain ⟨g0, g1, g2, g3⟩ := hd6.done (Nat.le_refl _) hv1
      have HV := Lib.hid g2
      have HNW := Lib.hid g3
      clear g2 g3 hv1 hbb hd6 hd5 hn6 hn5 hv5
      go_wp2
      refine bodyPost_ret (v := .agg #[.slice A1 l1 c1, .bool bb]) (by simp [results, Tryz.results26, go_sem, g0, g1]) rfl ⟨_, rfl, HV.out, HNW.out⟩
  · have hle : z.natAbs < y.natAbs ∨ y.natAbs ≤ z.natAbs := by omega
    rcases hle with hle | hle
    · have HS1 := Lib.hid (fun W (h : New w W) => sub_e (hv.new h) (hv'.new h) (by omega) (by omega))
      have HS2 := Lib.hid (fun W (h : New w W) => sub_e (hv'.new h) (hv.new h) (by omega) (by omega))
      rw [show subE z.natAbs y.natAbs = 11 by unfold subE; rw [if_pos hle]] at HS1
      rw [show subE y.natAbs z.natAbs = 0 by unfold subE; rw [if_neg (by omega)]] at HS2
      have HM := Lib.hid (fun W v (h : NatB W v (y.natAbs - z.natAbs) j) => make_n (decide (y < 0)) h (by omega))
      rw [add_less hs hle] at HM
      have hbe : (decide (z < 0) == decide (y < 0)) = false := by rw [beq_eq_false_iff_ne]; exact hs
      generalize decide (z < 0) = b at *
      generalize decide (y < 0) = b' at *
      clear hv hv' hz hy hs hle
      go_enter Tryz.func26, Tryz.ntmps26
      go_wp2_with fail
      refine (HS1.out _ HN.out.nw).mono ?_
      rintro e w5 ⟨v5, rfl, hv5, hn5⟩
      obtain ⟨A5, l5, c5, rfl⟩ := hv5.form
      have hn5' := hn5.alloc (.cells #[.slice A5 l5 c5] NNat)
      have HN5 := Lib.hid (HN.out.new hn5')
      clear hv5 hn5 hn5' HS1
      obtain ⟨m0, m1, m2, m3, m4, m5, m6, m7⟩ := HN5.out.cells
      go_wp2_with fail
      obtain ⟨W5, hW5⟩ : ∃ X : World, X = w5.alloc (.cells #[.slice A5 l5 c5] NNat) := ⟨_, rfl⟩
      rw [← hW5] at HN5 m0 m1 m2 m3 m4 m5 m6 m7 ⊢
      clear hW5
      refine (HS2.out _ HN5.out.nw).mono ?_
      rintro e w6 ⟨v6, rfl, hv6, hn6⟩
      obtain ⟨A6, l6, c6, rfl⟩ := hv6.form
      have hn6' := hn6.alloc (.cells #[.slice A6 l6 c6] NNat)
      have HV6 := Lib.hid (hv6.new ((New.refl w6).alloc (.cells #[.slice A6 l6 c6] NNat)))
      have HN6 := Lib.hid (HN5.out.new hn6')
      clear hv6 hn6 hn6' HS2 m0 m1 m2 m3 m4 m5 m6 m7
      obtain ⟨m0, m1, m2, m3, m4, m5, m6, m7⟩ := HN6.out.cells
      go_wp2_with fail
      refine (HM.out _ _ HV6.out).mono ?_
      rintro e w7 ⟨v7, rfl, hv1, hn7⟩
      have hd6 := HN6.out.new hn7
      obtain ⟨A1, l1, c1, rfl, _⟩ := hv1.form
      obtain ⟨r0, r1, r2, r3, r4, r5, r6, r7⟩ := hd6.cells
      generalize hbb : decide (z + y < 0) = bb at *
      obtain ⟨g0, g1, g2, g3⟩ := hd6.done (Nat.le_refl _) hv1
      have HV := Lib.hid (NumB.more g2 (show j ≤ k + j + 1 by omega))
      have HNW := Lib.hid g3
      clear g2 g3 hv1 hbb hd6 hn7
      go_wp2
      refine bodyPost_ret (v := .agg #[.slice A1 l1 c1, .bool bb]) (by simp [results, Tryz.results26, go_sem, g0, g1]) rfl ⟨_, rfl, HV.out, HNW.out⟩
    · have HS1 := Lib.hid (fun W (h : New w W) => sub_e (hv.new h) (hv'.new h) (by omega) (by omega))
      rw [show subE z.natAbs y.natAbs = 0 by unfold subE; rw [if_neg (by omega)]] at HS1
      have HM := Lib.hid (fun W v (h : NatB W v (z.natAbs - y.natAbs) k) => make_n (decide (z < 0)) h (by omega))
      rw [add_more hs hle] at HM
      have hbe : (decide (z < 0) == decide (y < 0)) = false := by rw [beq_eq_false_iff_ne]; exact hs
      generalize decide (z < 0) = b at *
      generalize decide (y < 0) = b' at *
      clear hv hv' hz hy hs hle
      go_enter Tryz.func26, Tryz.ntmps26
      go_wp2_with fail
      refine (HS1.out _ HN.out.nw).mono ?_
      rintro e w6 ⟨v6, rfl, hv6, hn6⟩
      obtain ⟨A6, l6, c6, rfl⟩ := hv6.form
      have hn6' := hn6.alloc (.cells #[.slice A6 l6 c6] NNat)
      have HV6 := Lib.hid (hv6.new ((New.refl w6).alloc (.cells #[.slice A6 l6 c6] NNat)))
      have HN6 := Lib.hid (HN.out.new hn6')
      clear hv6 hn6 hn6' HS1
      obtain ⟨m0, m1, m2, m3, m4, m5, m6, m7⟩ := HN6.out.cells
      go_wp2_with fail
      refine (HM.out _ _ HV6.out).mono ?_
      rintro e w7 ⟨v7, rfl, hv1, hn7⟩
      have hd6 := HN6.out.new hn7
      obtain ⟨A1, l1, c1, rfl, _⟩ := hv1.form
      obtain ⟨r0, r1, r2, r3, r4, r5, r6, r7⟩ := hd6.cells
      generalize hbb : decide (z + y < 0) = bb at *
      obtain ⟨g0, g1, g2, g3⟩ := hd6.done (Nat.le_refl _) hv1
      have HV := Lib.hid (NumB.more g2 (show k ≤ k + j + 1 by omega))
      have HNW := Lib.hid g3
      clear g2 g3 hv1 hbb hd6 hn7
      go_wp2
      refine bodyPost_ret (v := .agg #[.slice A1 l1 c1, .bool bb]) (by simp [results, Tryz.results26, go_sem, g0, g1]) rfl ⟨_, rfl, HV.out, HNW.out⟩
set_option maxRecDepth 100000 in
set_option maxHeartbeats 2000000 in
theorem sub_n (hz : NumB w u z k) (hy : NumB w v y j) (hk : k ≤ 40000) (hj : j ≤ 40000) :
    Calls Tryz.prog 30 #[u, v] w fun e w' => ∃ u, e = .returned u ∧ NumB w' u (z - y) (k + j + 1) ∧ New w w' := by
  obtain ⟨A, l, c, rfl, hv⟩ := hz.form
  obtain ⟨A', l', c', rfl, hv'⟩ := hy.form
  have HN := Lib.hid (N3.start w A l c (decide (z < 0)) A' l' c' (decide (y < 0)))
  have HG := Lib.hid (fun W (h : New w W) => neg_n (hy.new h) (by omega))
  have HA := Lib.hid (fun W v (h : New w W) (h2 : NumB W v (-y) j) => add_n (hz.new h) h2 hk hj)
  rw [show z + -y = z - y by omega] at HA
  generalize decide (z < 0) = b at *
  generalize decide (y < 0) = b' at *
  clear hv hv' hz hy
  go_enter Tryz.func30, Tryz.ntmps30
  go_wp2
  generalize ((w.alloc (.cells #[.slice A l c, .bool b] NNum)).alloc (.cells #[.slice A' l' c', .bool b'] NNum)).alloc (.cells #[.slice none 0 0, .bool false] NNum) = W at *
  obtain ⟨m0, m1, m2, m3, m4, m5, m6, m7⟩ := HN.out.cells
  go_region_law ((rw [if_pos (by rfl)]; (first | go_big_op | go_simp); first
    | (with_reducible (refine (HG.out _ HN.out.nw.drew).mono ?_); rintro e w5 ⟨v5, rfl, hv5, hn5⟩; have hd5 := HN.out.new ((New.refl W).drew.trans hn5); obtain ⟨q0, q1, q2, q3, q4, q5, q6, q7⟩ := hd5.cells)
    | (with_reducible (refine (HA.out _ _ hd5.nw hv5).mono ?_); rintro e w6 ⟨v6, rfl, hv1, hn6⟩; have hd6 := hd5.new hn6; obtain ⟨A1, l1, c1, rfl, _⟩ := hv1.form; obtain ⟨r0, r1, r2, r3, r4, r5, r6, r7⟩ := hd6.cells)))
  all_goals
    generalize hbb : decide (z - y < 0) = bb at *
    obtain ⟨g0, g1, g2, g3⟩ := hd6.done (Nat.le_refl _) hv1
    have HV := Lib.hid g2
    have HNW := Lib.hid g3
    clear g2 g3 hv1 hbb hd6 hd5 hn6 hn5 hv5
    go_wp2
    refine bodyPost_ret (v := .agg #[.slice A1 l1 c1, .bool bb]) (by simp [results, Tryz.results30, go_sem, g0, g1]) rfl ⟨_, rfl, HV.out, HNW.out⟩
theorem mul_sgn (z y : Int) : sgn (!(decide (z < 0) == decide (y < 0))) (z.natAbs * y.natAbs) = z * y := by
  rw [← Int.natAbs_mul]
  unfold sgn
  rcases Int.lt_or_le z 0 with h1 | h1 <;> rcases Int.lt_or_le y 0 with h2 | h2
  · have := Int.mul_nonneg_of_nonpos_of_nonpos (Int.le_of_lt h1) (Int.le_of_lt h2)
    simp [h1, h2]; omega
  · have := Int.mul_nonpos_of_nonpos_of_nonneg (Int.le_of_lt h1) h2
    simp [h1, show ¬ y < 0 by omega]; omega
  · have := Int.mul_nonpos_of_nonneg_of_nonpos h1 (Int.le_of_lt h2)
    simp [h2, show ¬ z < 0 by omega]; omega
  · have := Int.mul_nonneg h1 h2
    simp [show ¬ z < 0 by omega, show ¬ y < 0 by omega]; omega
set_option maxRecDepth 100000 in
set_option maxHeartbeats 2000000 in
theorem mul_n (hz : NumB w u z k) (hy : NumB w v y j) (hk : k ≤ 40000) (hj : j ≤ 40000) :
    Calls Tryz.prog 32 #[u, v] w fun e w' => ∃ u, e = .returned u ∧ NumB w' u (z * y) (k + j) ∧ New w w' := by
  obtain ⟨A, l, c, rfl, hv⟩ := hz.form
  obtain ⟨A', l', c', rfl, hv'⟩ := hy.form
  have HN := Lib.hid (N3.start w A l c (decide (z < 0)) A' l' c' (decide (y < 0)))
  have HA := Lib.hid (fun W (h : New w W) => mul_b (hv.new h) (hv'.new h) (by omega) (by omega))
  have HM := Lib.hid (fun W v (h : NatB W v (z.natAbs * y.natAbs) (k + j)) => make_n (!(decide (z < 0) == decide (y < 0))) h (by omega))
  rw [mul_sgn] at HM
  generalize decide (z < 0) = b at *
  generalize decide (y < 0) = b' at *
  clear hv hv' hz hy
  go_enter Tryz.func32, Tryz.ntmps32
  go_wp2
  generalize ((w.alloc (.cells #[.slice A l c, .bool b] NNum)).alloc (.cells #[.slice A' l' c', .bool b'] NNum)).alloc (.cells #[.slice none 0 0, .bool false] NNum) = W at *
  obtain ⟨m0, m1, m2, m3, m4, m5, m6, m7⟩ := HN.out.cells
  go_region_law ((rw [if_pos (by rfl)]; (first | go_big_op | go_simp); first
    | (with_reducible (refine (HA.out _ HN.out.nw.drew).mono ?_); rintro e w5 ⟨v5, rfl, hv5, hn5⟩; have hd5 := HN.out.new ((New.refl W).drew.trans hn5); obtain ⟨q0, q1, q2, q3, q4, q5, q6, q7⟩ := hd5.cells)
    | (with_reducible (refine (HM.out _ _ hv5).mono ?_); rintro e w6 ⟨v6, rfl, hv1, hn6⟩; have hd6 := hd5.new hn6; obtain ⟨A1, l1, c1, rfl, _⟩ := hv1.form; obtain ⟨r0, r1, r2, r3, r4, r5, r6, r7⟩ := hd6.cells)))
  all_goals
    generalize hbb : decide (z * y < 0) = bb at *
    obtain ⟨g0, g1, g2, g3⟩ := hd6.done (Nat.le_refl _) hv1
    have HV := Lib.hid g2
    have HNW := Lib.hid g3
    clear g2 g3 hv1 hbb hd6 hd5 hn6 hn5 hv5
    go_wp2
    refine bodyPost_ret (v := .agg #[.slice A1 l1 c1, .bool bb]) (by simp [results, Tryz.results32, go_sem, g0, g1]) rfl ⟨_, rfl, HV.out, HNW.out⟩
end
end Go.Proofs.YtkjlmibleoecgaaGreatDoor
