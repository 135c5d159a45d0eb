/- The reference of num: DivMod: rest and divisor of one sign. (Printed by mkrz3.py.) -/
import Derived.Test.YtkjlmibleoecgaaGreatDoorqRZ3
namespace Go.Proofs.YtkjlmibleoecgaaGreatDoor
set_option linter.unusedSimpArgs false
set_option linter.unusedVariables false
open Go.RowKit
section
variable {w : World} {u v : Value} {z y : Int} {k j : Nat}
set_option maxRecDepth 100000 in
set_option maxHeartbeats 20000000 in
theorem rdivmod_nn (hz : RNumB w u z k) (hy : RNumB w v y j) (hk : k ≤ 30000) (hj : j ≤ 30000) (h1 : y ≠ 0) (h2 : remI z y ≠ 0) (h3 : remI z y < 0) (h4 : y < 0) :
    Calls Tryz.prog 48 #[u, v] w fun e w' => ∃ q r, e = .returned (.tuple #[q, r, .int .i64 (divI y)]) ∧ RNumB w' q (fq z y) (k + 4) ∧ RNumB w' r (fr z y) (k + j + 1) ∧ New w w' := by
  obtain ⟨A, l, c, rfl, hv⟩ := hz.form
  obtain ⟨A', l', c', rfl, hv'⟩ := hy.form
  have hqr := fun W (h : New w W) => rquorem_n (hz.new h) (hy.new h) (by omega) (by omega)
  have HYB := Lib.hid (fun W (h : New w W) => hy.new h)
  have hsr := fun W v (h : RNumB W v (remI z y) k) => rsign_n h
  have hsy := fun W v (h : RNumB W v y j) => rsign_n h
  have HD1 : Hid (decide ((1 : Int) < 0) = false) := Lib.hid rfl
  have HOF := Lib.hid (fun W => rof_n 1 (by omega) (by omega) W)
  have HSB := Lib.hid (fun W u v (h : RNumB W u (z.tdiv y) k) (h2 : RNumB W v 1 3) => rsub_n h h2 (by omega) (by omega))
  have HAD := Lib.hid (fun W u v (h : RNumB W u (remI z y) k) (h2 : RNumB W v y j) => radd_n h h2 (by omega) (by omega))
  have HN := Lib.hid (allocs_new [(#[.bool (decide (z < 0)), .slice A l c], RNum), (#[.bool (decide (y < 0)), .slice A' l' c'], RNum), (#[.bool false, .slice none 0 0], RNum), (#[.bool false, .slice none 0 0], RNum)] w)
  have HB := Lib.hid (allocs_bxs [(#[.bool (decide (z < 0)), .slice A l c], RNum), (#[.bool (decide (y < 0)), .slice A' l' c'], RNum), (#[.bool false, .slice none 0 0], RNum), (#[.bool false, .slice none 0 0], RNum)] w)
  simp only [allocs] at HN HB
  have d1 : decide (remI z y < 0) = true := decide_eq_true h3
  have d2 : decide (y < 0) = true := decide_eq_true h4
  have e0 : stepZ z y = false := by unfold stepZ; rw [d1, d2]; simp
  have e2 : fq z y = z.tdiv y := by unfold fq; rw [if_neg (by rw [e0]; decide)]
  have e3 : fr z y = remI z y := by unfold fr; rw [if_neg (by rw [e0]; decide)]
  rw [e2, e3]
  clear e0 e2 e3
  rw [show divI y = 0 by unfold divI; rw [if_neg h1]] at hqr ⊢
  rw [show sgZ (remI z y) = -1 by unfold sgZ; rw [if_pos h3]] at hsr
  rw [show sgZ y = -1 by unfold sgZ; rw [if_pos h4]] at hsy
  clear h1 h2 h3 h4 d1 d2 HOF HSB HAD
  have HQR := Lib.hid hqr
  have HSR := Lib.hid hsr
  have HSY := Lib.hid hsy
  clear hqr hsr hsy hv hv' hz hy
  generalize decide (z < 0) = b at *
  generalize decide (y < 0) = b' at *
  go_enter Tryz.func48, Tryz.ntmps48
  go_wp2_with fail
  refine (HQR.out _ HN.out).mono ?_
  rintro e w5 ⟨q5, r5, rfl, hq5, hr5, hn5⟩
  obtain ⟨A5, l5, c5, rfl, _⟩ := hq5.form
  obtain ⟨A6, l6, c6, rfl, _⟩ := hr5.form
  generalize decide (z.tdiv y < 0) = b5 at *
  generalize decide (remI z y < 0) = b6 at *
  have hs5' := (HB.out.new hn5).lt (by simp)
  simp only [List.length_cons, List.length_nil] at hs5'
  have hn6 := (hn5.alloc (.cells #[.bool b5, .slice A5 l5 c5] RNum)).alloc (.cells #[.bool b6, .slice A6 l6 c6] RNum)
  have hn6' := ((New.refl w5).alloc (.cells #[.bool b5, .slice A5 l5 c5] RNum)).alloc (.cells #[.bool b6, .slice A6 l6 c6] RNum)
  have ST := Lib.hid (show RDt w ((w5.alloc (.cells #[.bool b5, .slice A5 l5 c5] RNum)).alloc (.cells #[.bool b6, .slice A6 l6 c6] RNum)) w.heap.size w5.heap.size A' l' c' b' A5 l5 c5 b5 A6 l6 c6 b6 y (z.tdiv y) (remI z y) j k k from
    let hb := HB.out.new hn6
    ⟨HN.out.trans hn6, hb.2.1, hb.2.2.1, hb.2.2.2.1, (Box.last w5 _ _).alloc _, Box.last2 w5 _ _ _, HYB.out _ (HN.out.trans hn6), hq5.new hn6', hr5.new hn6', by omega, Nat.le_refl _⟩)
  clear hq5 hr5 hn6 hn6' HN HB HQR HYB hn5 hs5'
  generalize hW : (w5.alloc (.cells #[.bool b5, .slice A5 l5 c5] RNum)).alloc (.cells #[.bool b6, .slice A6 l6 c6] RNum) = W at *
  obtain ⟨m0, m1⟩ := ST.out.bb.cells2
  obtain ⟨m8, m9⟩ := ST.out.br.cells2
  go_wp2
  first | rw [hW] | skip
  clear hW
  go_region_law ((rw [if_pos (by rfl)]; (first | go_big_op | go_simp); first
    | (with_reducible (refine (HSY.out _ _ st8.yv).mono ?_); rintro e w9 ⟨rfl, hn9⟩; have st9 := st8.new hn9; obtain ⟨s0, s1⟩ := st9.bb.cells2; obtain ⟨s8, s9⟩ := st9.br.cells2)
    | (with_reducible (refine (HSR.out _ _ st7.rv).mono ?_); rintro e w8 ⟨rfl, hn8⟩; have st8 := st7.new hn8; obtain ⟨r0, r1⟩ := st8.bb.cells2; obtain ⟨r8, r9⟩ := st8.br.cells2)
    | (with_reducible (refine (HSR.out _ _ (ST.out.rv.new (New.refl W).drew)).mono ?_); rintro e w7 ⟨rfl, hn7⟩; have st7 := ST.out.new ((New.refl W).drew.trans hn7); obtain ⟨q0, q1⟩ := st7.bb.cells2; obtain ⟨q8, q9⟩ := st7.br.cells2)))
  all_goals
    clear ST
    have ST := Lib.hid st9
    clear st7 st8 st9 hn7 hn8 hn9 HSR HSY m0 m1 m8 m9 s0 s1 s8 s9 q0 q1 q8 q9 r0 r1 r8 r9
    obtain ⟨m0, m1⟩ := ST.out.bb.cells2; obtain ⟨m4, m5, m6, m7⟩ := ST.out.bq.two; obtain ⟨m8, m9, m10, m11⟩ := ST.out.br.two; obtain ⟨m12, m13, m14, m15⟩ := ST.out.b2.two; obtain ⟨m16, m17, m18, m19⟩ := ST.out.b3.two
    go_wp2
    have hne1 := ST.out.sp
    have hm1 : ¬ w5.heap.size = w.heap.size + 1 + 1 := by omega
    have hm2 : ¬ w5.heap.size + 1 = w.heap.size + 1 + 1 := by omega
    have hm3 : ¬ w5.heap.size = w.heap.size + 1 + 1 + 1 := by omega
    have hm4 : ¬ w5.heap.size + 1 = w.heap.size + 1 + 1 + 1 := by omega
    clear hne1
    obtain ⟨gv, gn, g0, g1, g2, g3, g4, g5⟩ := rlay_pair ST.out.b2 ST.out.b3 (by omega) (by omega) (by omega) ST.out.nw (.bool b5) (.slice A5 l5 c5) (.bool b6) (.slice A6 l6 c6)
    have GQ := Lib.hid (gv ST.out.qv)
    have GR := Lib.hid (gv ST.out.rv)
    have GN := Lib.hid gn
    clear gv gn
    go_region
    all_goals
      go_wp2
      refine bodyPost_ret (v := .tuple #[.agg #[.bool b5, .slice A5 l5 c5], .agg #[.bool b6, .slice A6 l6 c6], .int .i64 0]) (by simp [results, Tryz.results48, go_sem, g2, g3, g4, g5]) rfl ⟨_, _, rfl, by first | exact RNumB.more GQ.out (by omega) | exact RNumB.more (GQ.out.new (New.refl _).drew) (by omega) | exact RNumB.more (GQ.out.new (New.refl _).drew.drew) (by omega), by first | exact RNumB.more GR.out (by omega) | exact RNumB.more (GR.out.new (New.refl _).drew) (by omega) | exact RNumB.more (GR.out.new (New.refl _).drew.drew) (by omega), by first | exact GN.out | exact GN.out.drew | exact GN.out.drew.drew⟩
set_option maxRecDepth 100000 in
set_option maxHeartbeats 20000000 in
theorem rdivmod_pp (hz : RNumB w u z k) (hy : RNumB w v y j) (hk : k ≤ 30000) (hj : j ≤ 30000) (h1 : y ≠ 0) (h2 : remI z y ≠ 0) (h3 : 0 < remI z y) (h4 : 0 < y) :
    Calls Tryz.prog 48 #[u, v] w fun e w' => ∃ q r, e = .returned (.tuple #[q, r, .int .i64 (divI y)]) ∧ RNumB w' q (fq z y) (k + 4) ∧ RNumB w' r (fr z y) (k + j + 1) ∧ New w w' := by
  obtain ⟨A, l, c, rfl, hv⟩ := hz.form
  obtain ⟨A', l', c', rfl, hv'⟩ := hy.form
  have hqr := fun W (h : New w W) => rquorem_n (hz.new h) (hy.new h) (by omega) (by omega)
  have HYB := Lib.hid (fun W (h : New w W) => hy.new h)
  have hsr := fun W v (h : RNumB W v (remI z y) k) => rsign_n h
  have hsy := fun W v (h : RNumB W v y j) => rsign_n h
  have HD1 : Hid (decide ((1 : Int) < 0) = false) := Lib.hid rfl
  have HOF := Lib.hid (fun W => rof_n 1 (by omega) (by omega) W)
  have HSB := Lib.hid (fun W u v (h : RNumB W u (z.tdiv y) k) (h2 : RNumB W v 1 3) => rsub_n h h2 (by omega) (by omega))
  have HAD := Lib.hid (fun W u v (h : RNumB W u (remI z y) k) (h2 : RNumB W v y j) => radd_n h h2 (by omega) (by omega))
  have HN := Lib.hid (allocs_new [(#[.bool (decide (z < 0)), .slice A l c], RNum), (#[.bool (decide (y < 0)), .slice A' l' c'], RNum), (#[.bool false, .slice none 0 0], RNum), (#[.bool false, .slice none 0 0], RNum)] w)
  have HB := Lib.hid (allocs_bxs [(#[.bool (decide (z < 0)), .slice A l c], RNum), (#[.bool (decide (y < 0)), .slice A' l' c'], RNum), (#[.bool false, .slice none 0 0], RNum), (#[.bool false, .slice none 0 0], RNum)] w)
  simp only [allocs] at HN HB
  have d1 : decide (remI z y < 0) = false := decide_eq_false (by omega)
  have d2 : decide (y < 0) = false := decide_eq_false (by omega)
  have e0 : stepZ z y = false := by unfold stepZ; rw [d1, d2]; simp
  have e2 : fq z y = z.tdiv y := by unfold fq; rw [if_neg (by rw [e0]; decide)]
  have e3 : fr z y = remI z y := by unfold fr; rw [if_neg (by rw [e0]; decide)]
  rw [e2, e3]
  clear e0 e2 e3
  rw [show divI y = 0 by unfold divI; rw [if_neg h1]] at hqr ⊢
  rw [show sgZ (remI z y) = 1 by unfold sgZ; rw [if_neg (by omega), if_neg (by omega)]] at hsr
  rw [show sgZ y = 1 by unfold sgZ; rw [if_neg (by omega), if_neg (by omega)]] at hsy
  clear h1 h2 h3 h4 d1 d2 HOF HSB HAD
  have HQR := Lib.hid hqr
  have HSR := Lib.hid hsr
  have HSY := Lib.hid hsy
  clear hqr hsr hsy hv hv' hz hy
  generalize decide (z < 0) = b at *
  generalize decide (y < 0) = b' at *
  go_enter Tryz.func48, Tryz.ntmps48
  go_wp2_with fail
  refine (HQR.out _ HN.out).mono ?_
  rintro e w5 ⟨q5, r5, rfl, hq5, hr5, hn5⟩
  obtain ⟨A5, l5, c5, rfl, _⟩ := hq5.form
  obtain ⟨A6, l6, c6, rfl, _⟩ := hr5.form
  generalize decide (z.tdiv y < 0) = b5 at *
  generalize decide (remI z y < 0) = b6 at *
  have hs5' := (HB.out.new hn5).lt (by simp)
  simp only [List.length_cons, List.length_nil] at hs5'
  have hn6 := (hn5.alloc (.cells #[.bool b5, .slice A5 l5 c5] RNum)).alloc (.cells #[.bool b6, .slice A6 l6 c6] RNum)
  have hn6' := ((New.refl w5).alloc (.cells #[.bool b5, .slice A5 l5 c5] RNum)).alloc (.cells #[.bool b6, .slice A6 l6 c6] RNum)
  have ST := Lib.hid (show RDt w ((w5.alloc (.cells #[.bool b5, .slice A5 l5 c5] RNum)).alloc (.cells #[.bool b6, .slice A6 l6 c6] RNum)) w.heap.size w5.heap.size A' l' c' b' A5 l5 c5 b5 A6 l6 c6 b6 y (z.tdiv y) (remI z y) j k k from
    let hb := HB.out.new hn6
    ⟨HN.out.trans hn6, hb.2.1, hb.2.2.1, hb.2.2.2.1, (Box.last w5 _ _).alloc _, Box.last2 w5 _ _ _, HYB.out _ (HN.out.trans hn6), hq5.new hn6', hr5.new hn6', by omega, Nat.le_refl _⟩)
  clear hq5 hr5 hn6 hn6' HN HB HQR HYB hn5 hs5'
  generalize hW : (w5.alloc (.cells #[.bool b5, .slice A5 l5 c5] RNum)).alloc (.cells #[.bool b6, .slice A6 l6 c6] RNum) = W at *
  obtain ⟨m0, m1⟩ := ST.out.bb.cells2
  obtain ⟨m8, m9⟩ := ST.out.br.cells2
  go_wp2
  first | rw [hW] | skip
  clear hW
  go_region_law ((rw [if_pos (by rfl)]; (first | go_big_op | go_simp); first
    | (with_reducible (refine (HSY.out _ _ st8.yv).mono ?_); rintro e w9 ⟨rfl, hn9⟩; have st9 := st8.new hn9; obtain ⟨s0, s1⟩ := st9.bb.cells2; obtain ⟨s8, s9⟩ := st9.br.cells2)
    | (with_reducible (refine (HSR.out _ _ st7.rv).mono ?_); rintro e w8 ⟨rfl, hn8⟩; have st8 := st7.new hn8; obtain ⟨r0, r1⟩ := st8.bb.cells2; obtain ⟨r8, r9⟩ := st8.br.cells2)
    | (with_reducible (refine (HSR.out _ _ (ST.out.rv.new (New.refl W).drew)).mono ?_); rintro e w7 ⟨rfl, hn7⟩; have st7 := ST.out.new ((New.refl W).drew.trans hn7); obtain ⟨q0, q1⟩ := st7.bb.cells2; obtain ⟨q8, q9⟩ := st7.br.cells2)))
  all_goals
    clear ST
    have ST := Lib.hid st9
    clear st7 st8 st9 hn7 hn8 hn9 HSR HSY m0 m1 m8 m9 s0 s1 s8 s9 q0 q1 q8 q9 r0 r1 r8 r9
    obtain ⟨m0, m1⟩ := ST.out.bb.cells2; obtain ⟨m4, m5, m6, m7⟩ := ST.out.bq.two; obtain ⟨m8, m9, m10, m11⟩ := ST.out.br.two; obtain ⟨m12, m13, m14, m15⟩ := ST.out.b2.two; obtain ⟨m16, m17, m18, m19⟩ := ST.out.b3.two
    go_wp2
    have hne1 := ST.out.sp
    have hm1 : ¬ w5.heap.size = w.heap.size + 1 + 1 := by omega
    have hm2 : ¬ w5.heap.size + 1 = w.heap.size + 1 + 1 := by omega
    have hm3 : ¬ w5.heap.size = w.heap.size + 1 + 1 + 1 := by omega
    have hm4 : ¬ w5.heap.size + 1 = w.heap.size + 1 + 1 + 1 := by omega
    clear hne1
    obtain ⟨gv, gn, g0, g1, g2, g3, g4, g5⟩ := rlay_pair ST.out.b2 ST.out.b3 (by omega) (by omega) (by omega) ST.out.nw (.bool b5) (.slice A5 l5 c5) (.bool b6) (.slice A6 l6 c6)
    have GQ := Lib.hid (gv ST.out.qv)
    have GR := Lib.hid (gv ST.out.rv)
    have GN := Lib.hid gn
    clear gv gn
    go_region
    all_goals
      go_wp2
      refine bodyPost_ret (v := .tuple #[.agg #[.bool b5, .slice A5 l5 c5], .agg #[.bool b6, .slice A6 l6 c6], .int .i64 0]) (by simp [results, Tryz.results48, go_sem, g2, g3, g4, g5]) rfl ⟨_, _, rfl, by first | exact RNumB.more GQ.out (by omega) | exact RNumB.more (GQ.out.new (New.refl _).drew) (by omega) | exact RNumB.more (GQ.out.new (New.refl _).drew.drew) (by omega), by first | exact RNumB.more GR.out (by omega) | exact RNumB.more (GR.out.new (New.refl _).drew) (by omega) | exact RNumB.more (GR.out.new (New.refl _).drew.drew) (by omega), by first | exact GN.out | exact GN.out.drew | exact GN.out.drew.drew⟩
end
end Go.Proofs.YtkjlmibleoecgaaGreatDoor
