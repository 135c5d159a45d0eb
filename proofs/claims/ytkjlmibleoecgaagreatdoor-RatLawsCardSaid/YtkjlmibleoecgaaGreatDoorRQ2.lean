/- The reference's rat: Make. (Printed by mkrq2.py.) -/
import Derived.Test.YtkjlmibleoecgaaGreatDoorRQ1
namespace Go.Proofs.YtkjlmibleoecgaaGreatDoor
set_option linter.unusedSimpArgs false
set_option linter.unusedVariables false
open Go.RowKit
theorem rgcd_b2 {w : World} {u v : Value} {x y k j : Nat} (hu : RefB w u x k) (hv : RefB w v y j) (hk : k ≤ 100000) (hj : j ≤ 100000) :
    Calls Tryz.prog 19 #[u, v] w fun e w' => ∃ v, e = .returned v ∧ RefB w' v (Nat.gcd x y) (k + j) ∧ New w w' :=
  (rgcd_c hu.v hv.v (by have := hu.k; omega) (by have := hv.k; omega)).mono fun e w' ⟨v, h1, h2, h3⟩ => ⟨v, h1, ⟨h2, by
    have h4 := dg_len_mono B9_2 (gcd_le_max x y)
    have h5 := hu.k
    have h6 := hv.k
    rcases Nat.le_total x y with h | h
    · rw [Nat.max_eq_right h] at h4; omega
    · rw [Nat.max_eq_left h] at h4; omega⟩, h3⟩
theorem rquorem_n0 {w : World} {u v : Value} {z y : Int} {k j : Nat} (hz : RNumB w u z k) (hy : RNumB w v y j) (hk : k ≤ 40000) (hj : j ≤ 40000) (h : y ≠ 0) :
    Calls Tryz.prog 46 #[u, v] w fun e w' => ∃ q r, e = .returned (.tuple #[q, r, .int .i64 0]) ∧ RNumB w' q (z.tdiv y) k ∧ RNumB w' r (z.tmod y) k ∧ New w w' := rquorem_big hz hy hk hj h
section
variable {w : World} {u v : Value} {x y : Int} {k j : Nat}
set_option maxRecDepth 1000000 in
set_option maxHeartbeats 8000000 in
theorem rqmk_p (hz : RNumB w u x k) (hy : RNumB w v y k) (hk : k ≤ 15000) (h0 : 0 < y) :
    Calls Tryz.prog 53 #[u, v] w fun e w' => ∃ r, e = .returned (.tuple #[r, .int .i64 0]) ∧ RRatB w' r (mkN x y) (mkD x y) k ∧ New w w' := by
  have e1 : mkN x y = (x).tdiv (gcdZ x y) := by unfold mkN upZ; rw [if_neg (by omega), if_neg (by omega)]
  have e2 : mkD x y = (y).tdiv (gcdZ x y) := by unfold mkD upZ; rw [if_neg (by omega), if_neg (by omega)]
  have hgp : 0 < gcdZ x y := Nat.gcd_pos_of_pos_right _ (by omega)
  obtain ⟨A, l, c, rfl, hv⟩ := hz.form
  obtain ⟨A', l', c', rfl, hv'⟩ := hy.form
  have hN := allocs_new [(#[.bool (decide (x < 0)), .slice A l c], RNum), (#[.bool (decide (y < 0)), .slice A' l' c'], RNum), (#[.bool false, .slice none 0 0, .bool false, .slice none 0 0], RRat)] w
  have hB := allocs_bxs [(#[.bool (decide (x < 0)), .slice A l c], RNum), (#[.bool (decide (y < 0)), .slice A' l' c'], RNum), (#[.bool false, .slice none 0 0, .bool false, .slice none 0 0], RRat)] w
  simp only [allocs] at hN hB
  have M0 := Lib.hid (show RMx w (((w.alloc (.cells #[.bool (decide (x < 0)), .slice A l c] RNum)).alloc (.cells #[.bool (decide (y < 0)), .slice A' l' c'] RNum)).alloc (.cells #[.bool false, .slice none 0 0, .bool false, .slice none 0 0] RRat)) w.heap.size A l c (decide (x < 0)) A' l' c' (decide (y < 0)) x y k from
    ⟨hN, hB.three.1, hB.three.2.1, hB.three.2.2, hz.new hN, hy.new hN, Nat.le_refl _⟩)
  have HSG := Lib.hid (fun W v (h : RNumB W v y k) => rsign_n h)
  rw [show sgZ y = 1 by unfold sgZ; rw [if_neg (by omega), if_neg (by omega)]] at HSG
  have HNA := Lib.hid (fun W v (h : RNumB W v x k) => rneg_n h)
  have HNB := Lib.hid (fun W v (h : RNumB W v y k) => rneg_n h)
  have hgc := fun W u v (h : RefB W u (x).natAbs k) (h2 : RefB W v (y).natAbs k) => rgcd_b2 h h2 (by omega) (by omega)
  rw [show Nat.gcd (x).natAbs (y).natAbs = gcdZ x y by unfold gcdZ; simp only [Int.natAbs_neg]] at hgc
  have HGC := Lib.hid hgc
  have hmk := fun W v (h : RefB W v (gcdZ x y) (k + k)) => rmake_b false h
  rw [show sgn false (gcdZ x y) = ((gcdZ x y : Nat) : Int) by unfold sgn; simp] at hmk
  have HMK := Lib.hid hmk
  have HDG : Hid (decide (((gcdZ x y : Nat) : Int) < 0) = false) := Lib.hid (decide_eq_false (by omega))
  have HQ1 := Lib.hid (fun W u v (h : RNumB W u (x) k) (h2 : RNumB W v ((gcdZ x y : Nat) : Int) (k + k)) => rquorem_n0 h h2 (by omega) (by omega) (by omega))
  have HQ2 := Lib.hid (fun W u v (h : RNumB W u (y) k) (h2 : RNumB W v ((gcdZ x y : Nat) : Int) (k + k)) => rquorem_n0 h h2 (by omega) (by omega) (by omega))
  rw [e1, e2]
  clear e1 e2 hgc hmk hv hv' hz hy hN hB hgp h0
  generalize decide (x < 0) = b at *
  generalize decide (y < 0) = b' at *
  generalize ((gcdZ x y : Nat) : Int) = g at *
  go_enter Tryz.func53, Tryz.ntmps53
  go_wp2_with fail
  refine (HSG.out _ _ M0.out.yv).mono ?_
  rintro e w1 ⟨rfl, hn1⟩
  have M1 := Lib.hid (M0.out.new hn1)
  clear hn1 M0
  obtain ⟨m0, m1, m2, m3⟩ := M1.out.cells
  obtain ⟨n0, n1, n2, n3⟩ := M1.out.froz
  go_wp2_with fail
  refine (HSG.out _ _ M1.out.yv).mono ?_
  rintro e w2 ⟨rfl, hn2⟩
  have M2 := Lib.hid (M1.out.new hn2)
  clear hn2 M1 HSG
  clear m0 m1 m2 m3 n0 n1 n2 n3
  obtain ⟨m0, m1, m2, m3⟩ := M2.out.cells
  obtain ⟨n0, n1, n2, n3⟩ := M2.out.froz
  go_wp2_with fail
  have hxr := M2.out.xv
  have hyr := M2.out.yv
  obtain ⟨_, _, _, ex, hxr'⟩ := hxr.form
  obtain ⟨_, _, _, ey, hyr'⟩ := hyr.form
  simp only [Value.agg.injEq, Array.mk.injEq, List.cons.injEq, and_true] at ex ey
  rw [← ex.2] at hxr'
  rw [← ey.2] at hyr'
  refine (HGC.out _ _ _ hxr' hyr').mono ?_
  clear ex ey hxr hyr hxr' hyr'
  rintro e w5 ⟨v5, rfl, hv5, hn5⟩
  have M5 := Lib.hid (M2.out.new hn5)
  have HV5 := Lib.hid hv5
  clear hn5 hv5 M2 HGC
  clear m0 m1 m2 m3 n0 n1 n2 n3
  obtain ⟨m0, m1, m2, m3⟩ := M5.out.cells
  obtain ⟨n0, n1, n2, n3⟩ := M5.out.froz
  go_wp2_with fail
  refine (HMK.out _ _ HV5.out).mono ?_
  rintro e w6 ⟨v6, rfl, hv6, hn6⟩
  obtain ⟨Ag, lg, cg, rfl, _⟩ := hv6.form
  rw [HDG.out] at hv6 ⊢
  have hlt := (M5.out.new hn6).br.lt
  have M6 := Lib.hid ((M5.out.new hn6).new ((New.refl w6).alloc (.cells #[.bool false, .slice Ag lg cg] RNum)))
  have G6 := Lib.hid (show Box (w6.alloc (.cells #[.bool false, .slice Ag lg cg] RNum)) w6.heap.size #[.bool false, .slice Ag lg cg] RNum ∧ RNumB (w6.alloc (.cells #[.bool false, .slice Ag lg cg] RNum)) (.agg #[.bool false, .slice Ag lg cg]) g (k + k) from ⟨Box.last _ _ _, hv6.new ((New.refl w6).alloc _)⟩)
  clear hv6 hn6 M5 HV5 HMK
  clear m0 m1 m2 m3 n0 n1 n2 n3
  obtain ⟨m0, m1, m2, m3⟩ := M6.out.cells
  obtain ⟨n0, n1, n2, n3⟩ := M6.out.froz
  obtain ⟨m4, m5⟩ := G6.out.1.cells2
  go_wp2_with fail
  generalize hP : w6.heap.size = P at *
  generalize hW6 : w6.alloc (.cells #[.bool false, .slice Ag lg cg] RNum) = W6 at *
  clear hW6 hP
  refine (HQ1.out _ _ _ M6.out.xv G6.out.2).mono ?_
  rintro e w7 ⟨qa, ra, rfl, hqa, hra, hn7⟩
  obtain ⟨Aq, lq, cq, rfl, _⟩ := hqa.form
  have m7x := M6.out.new hn7
  have M7 := Lib.hid (m7x.turnA hqa)
  have G7 := Lib.hid (show Box _ P #[.bool false, .slice Ag lg cg] RNum ∧ RNumB _ (.agg #[.bool false, .slice Ag lg cg]) g (k + k) from ⟨((G6.out.1.new hn7).far (p := w.heap.size) (i := 0) (by omega) (.bool (decide ((x).tdiv g < 0)))).far (p := w.heap.size) (i := 1) (by omega) (.slice Aq lq cq), (G6.out.2.new hn7).lay2 m7x.ba (.bool (decide ((x).tdiv g < 0))) (.slice Aq lq cq)⟩)
  have HBQ : Hid (∃ t, decide ((x).tdiv g < 0) = t) := Lib.hid ⟨_, rfl⟩
  obtain ⟨bq, hbq⟩ := HBQ.out
  rw [hbq] at M7 G7 ⊢
  have HB1 := Lib.hid hbq
  clear m4 m5
  clear m0 m1 m2 m3 n0 n1 n2 n3
  obtain ⟨m0, m1, m2, m3⟩ := m7x.cells
  obtain ⟨n0, n1, n2, n3⟩ := m7x.froz
  obtain ⟨p0, p1, p2, p3⟩ := M7.out.cells
  obtain ⟨r0, r1, r2, r3⟩ := M7.out.froz
  obtain ⟨p4, p5⟩ := G7.out.1.cells2
  clear hqa hra hn7 m7x M6 G6 HQ1 hbq HBQ
  have hP1 : ¬ P = w.heap.size := by omega
  have hP2 : ¬ P = w.heap.size + 1 := by omega
  go_wp2_with fail
  generalize hV : (w7.setCell ⟨w.heap.size, 0, none⟩ (.bool bq)).setCell ⟨w.heap.size, 1, none⟩ (.slice Aq lq cq) = W7 at *
  clear hV m0 m1 m2 m3 n0 n1 n2 n3
  refine (HQ2.out _ _ _ M7.out.yv G7.out.2).mono ?_
  rintro e w8 ⟨qb, rb, rfl, hqb, hrb, hn8⟩
  obtain ⟨Ar, lr, cr, rfl, _⟩ := hqb.form
  have m8x := M7.out.new hn8
  have M8 := Lib.hid (m8x.turnB hqb)
  have HBR : Hid (∃ t, decide ((y).tdiv g < 0) = t) := Lib.hid ⟨_, rfl⟩
  obtain ⟨br, hbr⟩ := HBR.out
  rw [hbr] at M8 ⊢
  have HB2 := Lib.hid hbr
  clear p0 p1 p2 p3 p4 p5 r0 r1 r2 r3
  obtain ⟨m0, m1, m2, m3⟩ := m8x.cells
  obtain ⟨n0, n1, n2, n3⟩ := m8x.froz
  obtain ⟨p0, p1, p2, p3⟩ := M8.out.cells
  have hFR := M8.out.br
  have c20 := hFR.cells4.1
  have c21 := hFR.cells4.2.1
  have c22 := hFR.cells4.2.2.1
  have c23 := hFR.cells4.2.2.2
  have f20 := hFR.frozen 0
  have f21 := hFR.frozen 1
  have f22 := hFR.frozen 2
  have f23 := hFR.frozen 3
  obtain ⟨_, gb, gn, gv⟩ := rrat_done M8.out (.bool bq) (.slice Aq lq cq) (.bool br) (.slice Ar lr cr)
  have GX := Lib.hid (gv M8.out.xv)
  have GY := Lib.hid (gv M8.out.yv)
  have GN := Lib.hid gn
  obtain ⟨g0, g1, g2, g3⟩ := gb.cells4
  clear hqb hrb hn8 m8x M7 G7 hFR gb gn gv hbr HBR HQ2 M8
  go_wp2
  refine bodyPost_ret (v := .tuple #[.agg #[.bool bq, .slice Aq lq cq, .bool br, .slice Ar lr cr], .int .i64 0]) (by simp [results, Tryz.results53, go_sem, g0, g1, g2, g3]) rfl ⟨_, rfl, ⟨Aq, lq, cq, Ar, lr, cr, by rw [HB1.out, HB2.out], by rw [HB1.out]; exact GX.out, by rw [HB2.out]; exact GY.out⟩, GN.out⟩
set_option maxRecDepth 1000000 in
set_option maxHeartbeats 8000000 in
theorem rqmk_n (hz : RNumB w u x k) (hy : RNumB w v y k) (hk : k ≤ 15000) (h0 : y < 0) :
    Calls Tryz.prog 53 #[u, v] w fun e w' => ∃ r, e = .returned (.tuple #[r, .int .i64 0]) ∧ RRatB w' r (mkN x y) (mkD x y) k ∧ New w w' := by
  have e1 : mkN x y = (-x).tdiv (gcdZ x y) := by unfold mkN upZ; rw [if_neg (by omega), if_pos h0]
  have e2 : mkD x y = (-y).tdiv (gcdZ x y) := by unfold mkD upZ; rw [if_neg (by omega), if_pos h0]
  have hgp : 0 < gcdZ x y := Nat.gcd_pos_of_pos_right _ (by omega)
  obtain ⟨A, l, c, rfl, hv⟩ := hz.form
  obtain ⟨A', l', c', rfl, hv'⟩ := hy.form
  have hN := allocs_new [(#[.bool (decide (x < 0)), .slice A l c], RNum), (#[.bool (decide (y < 0)), .slice A' l' c'], RNum), (#[.bool false, .slice none 0 0, .bool false, .slice none 0 0], RRat)] w
  have hB := allocs_bxs [(#[.bool (decide (x < 0)), .slice A l c], RNum), (#[.bool (decide (y < 0)), .slice A' l' c'], RNum), (#[.bool false, .slice none 0 0, .bool false, .slice none 0 0], RRat)] w
  simp only [allocs] at hN hB
  have M0 := Lib.hid (show RMx w (((w.alloc (.cells #[.bool (decide (x < 0)), .slice A l c] RNum)).alloc (.cells #[.bool (decide (y < 0)), .slice A' l' c'] RNum)).alloc (.cells #[.bool false, .slice none 0 0, .bool false, .slice none 0 0] RRat)) w.heap.size A l c (decide (x < 0)) A' l' c' (decide (y < 0)) x y k from
    ⟨hN, hB.three.1, hB.three.2.1, hB.three.2.2, hz.new hN, hy.new hN, Nat.le_refl _⟩)
  have HSG := Lib.hid (fun W v (h : RNumB W v y k) => rsign_n h)
  rw [show sgZ y = -1 by unfold sgZ; rw [if_pos h0]] at HSG
  have HNA := Lib.hid (fun W v (h : RNumB W v x k) => rneg_n h)
  have HNB := Lib.hid (fun W v (h : RNumB W v y k) => rneg_n h)
  have hgc := fun W u v (h : RefB W u (-x).natAbs k) (h2 : RefB W v (-y).natAbs k) => rgcd_b2 h h2 (by omega) (by omega)
  rw [show Nat.gcd (-x).natAbs (-y).natAbs = gcdZ x y by unfold gcdZ; simp only [Int.natAbs_neg]] at hgc
  have HGC := Lib.hid hgc
  have hmk := fun W v (h : RefB W v (gcdZ x y) (k + k)) => rmake_b false h
  rw [show sgn false (gcdZ x y) = ((gcdZ x y : Nat) : Int) by unfold sgn; simp] at hmk
  have HMK := Lib.hid hmk
  have HDG : Hid (decide (((gcdZ x y : Nat) : Int) < 0) = false) := Lib.hid (decide_eq_false (by omega))
  have HQ1 := Lib.hid (fun W u v (h : RNumB W u (-x) k) (h2 : RNumB W v ((gcdZ x y : Nat) : Int) (k + k)) => rquorem_n0 h h2 (by omega) (by omega) (by omega))
  have HQ2 := Lib.hid (fun W u v (h : RNumB W u (-y) k) (h2 : RNumB W v ((gcdZ x y : Nat) : Int) (k + k)) => rquorem_n0 h h2 (by omega) (by omega) (by omega))
  rw [e1, e2]
  clear e1 e2 hgc hmk hv hv' hz hy hN hB hgp h0
  generalize decide (x < 0) = b at *
  generalize decide (y < 0) = b' at *
  generalize ((gcdZ x y : Nat) : Int) = g at *
  go_enter Tryz.func53, Tryz.ntmps53
  go_wp2_with fail
  refine (HSG.out _ _ M0.out.yv).mono ?_
  rintro e w1 ⟨rfl, hn1⟩
  have M1 := Lib.hid (M0.out.new hn1)
  clear hn1 M0
  obtain ⟨m0, m1, m2, m3⟩ := M1.out.cells
  obtain ⟨n0, n1, n2, n3⟩ := M1.out.froz
  go_wp2_with fail
  refine (HSG.out _ _ M1.out.yv).mono ?_
  rintro e w2 ⟨rfl, hn2⟩
  have M2 := Lib.hid (M1.out.new hn2)
  clear hn2 M1 HSG
  clear m0 m1 m2 m3 n0 n1 n2 n3
  obtain ⟨m0, m1, m2, m3⟩ := M2.out.cells
  obtain ⟨n0, n1, n2, n3⟩ := M2.out.froz
  go_wp2_with fail
  refine (HNA.out _ _ M2.out.xv).mono ?_
  rintro e w3 ⟨va, rfl, hva, hn3⟩
  obtain ⟨Aa, la, ca, rfl, _⟩ := hva.form
  generalize decide (-x < 0) = ba at *
  have m3x := M2.out.new hn3
  have M3 := Lib.hid (m3x.turnA hva)
  clear m0 m1 m2 m3 n0 n1 n2 n3
  obtain ⟨m0, m1, m2, m3⟩ := m3x.cells
  obtain ⟨n0, n1, n2, n3⟩ := m3x.froz
  obtain ⟨p0, p1, p2, p3⟩ := M3.out.cells
  obtain ⟨r0, r1, r2, r3⟩ := M3.out.froz
  clear hva hn3 m3x M2 HNA
  go_wp2_with fail
  generalize hV : (w3.setCell ⟨w.heap.size, 0, none⟩ (.bool ba)).setCell ⟨w.heap.size, 1, none⟩ (.slice Aa la ca) = W3 at *
  clear hV m0 m1 m2 m3 n0 n1 n2 n3
  refine (HNB.out _ _ M3.out.yv).mono ?_
  rintro e w4 ⟨vb, rfl, hvb, hn4⟩
  obtain ⟨Ab, lb, cb, rfl, _⟩ := hvb.form
  generalize decide (-y < 0) = bb at *
  have m4x := M3.out.new hn4
  have M4 := Lib.hid (m4x.turnB hvb)
  clear p0 p1 p2 p3 r0 r1 r2 r3
  obtain ⟨m0, m1, m2, m3⟩ := m4x.cells
  obtain ⟨n0, n1, n2, n3⟩ := m4x.froz
  obtain ⟨p0, p1, p2, p3⟩ := M4.out.cells
  clear hvb hn4 m4x M3 HNB
  go_wp2_with fail
  generalize hV : (w4.setCell ⟨w.heap.size + 1, 0, none⟩ (.bool bb)).setCell ⟨w.heap.size + 1, 1, none⟩ (.slice Ab lb cb) = W4 at *
  clear hV m0 m1 m2 m3 n0 n1 n2 n3 p0 p1 p2 p3
  obtain ⟨m0, m1, m2, m3⟩ := M4.out.cells
  obtain ⟨n0, n1, n2, n3⟩ := M4.out.froz
  have hxr := M4.out.xv
  have hyr := M4.out.yv
  obtain ⟨_, _, _, ex, hxr'⟩ := hxr.form
  obtain ⟨_, _, _, ey, hyr'⟩ := hyr.form
  simp only [Value.agg.injEq, Array.mk.injEq, List.cons.injEq, and_true] at ex ey
  rw [← ex.2] at hxr'
  rw [← ey.2] at hyr'
  refine (HGC.out _ _ _ hxr' hyr').mono ?_
  clear ex ey hxr hyr hxr' hyr'
  rintro e w5 ⟨v5, rfl, hv5, hn5⟩
  have M5 := Lib.hid (M4.out.new hn5)
  have HV5 := Lib.hid hv5
  clear hn5 hv5 M4 HGC
  clear m0 m1 m2 m3 n0 n1 n2 n3
  obtain ⟨m0, m1, m2, m3⟩ := M5.out.cells
  obtain ⟨n0, n1, n2, n3⟩ := M5.out.froz
  go_wp2_with fail
  refine (HMK.out _ _ HV5.out).mono ?_
  rintro e w6 ⟨v6, rfl, hv6, hn6⟩
  obtain ⟨Ag, lg, cg, rfl, _⟩ := hv6.form
  rw [HDG.out] at hv6 ⊢
  have hlt := (M5.out.new hn6).br.lt
  have M6 := Lib.hid ((M5.out.new hn6).new ((New.refl w6).alloc (.cells #[.bool false, .slice Ag lg cg] RNum)))
  have G6 := Lib.hid (show Box (w6.alloc (.cells #[.bool false, .slice Ag lg cg] RNum)) w6.heap.size #[.bool false, .slice Ag lg cg] RNum ∧ RNumB (w6.alloc (.cells #[.bool false, .slice Ag lg cg] RNum)) (.agg #[.bool false, .slice Ag lg cg]) g (k + k) from ⟨Box.last _ _ _, hv6.new ((New.refl w6).alloc _)⟩)
  clear hv6 hn6 M5 HV5 HMK
  clear m0 m1 m2 m3 n0 n1 n2 n3
  obtain ⟨m0, m1, m2, m3⟩ := M6.out.cells
  obtain ⟨n0, n1, n2, n3⟩ := M6.out.froz
  obtain ⟨m4, m5⟩ := G6.out.1.cells2
  go_wp2_with fail
  generalize hP : w6.heap.size = P at *
  generalize hW6 : w6.alloc (.cells #[.bool false, .slice Ag lg cg] RNum) = W6 at *
  clear hW6 hP
  refine (HQ1.out _ _ _ M6.out.xv G6.out.2).mono ?_
  rintro e w7 ⟨qa, ra, rfl, hqa, hra, hn7⟩
  obtain ⟨Aq, lq, cq, rfl, _⟩ := hqa.form
  have m7x := M6.out.new hn7
  have M7 := Lib.hid (m7x.turnA hqa)
  have G7 := Lib.hid (show Box _ P #[.bool false, .slice Ag lg cg] RNum ∧ RNumB _ (.agg #[.bool false, .slice Ag lg cg]) g (k + k) from ⟨((G6.out.1.new hn7).far (p := w.heap.size) (i := 0) (by omega) (.bool (decide ((-x).tdiv g < 0)))).far (p := w.heap.size) (i := 1) (by omega) (.slice Aq lq cq), (G6.out.2.new hn7).lay2 m7x.ba (.bool (decide ((-x).tdiv g < 0))) (.slice Aq lq cq)⟩)
  have HBQ : Hid (∃ t, decide ((-x).tdiv g < 0) = t) := Lib.hid ⟨_, rfl⟩
  obtain ⟨bq, hbq⟩ := HBQ.out
  rw [hbq] at M7 G7 ⊢
  have HB1 := Lib.hid hbq
  clear m4 m5
  clear m0 m1 m2 m3 n0 n1 n2 n3
  obtain ⟨m0, m1, m2, m3⟩ := m7x.cells
  obtain ⟨n0, n1, n2, n3⟩ := m7x.froz
  obtain ⟨p0, p1, p2, p3⟩ := M7.out.cells
  obtain ⟨r0, r1, r2, r3⟩ := M7.out.froz
  obtain ⟨p4, p5⟩ := G7.out.1.cells2
  clear hqa hra hn7 m7x M6 G6 HQ1 hbq HBQ
  have hP1 : ¬ P = w.heap.size := by omega
  have hP2 : ¬ P = w.heap.size + 1 := by omega
  go_wp2_with fail
  generalize hV : (w7.setCell ⟨w.heap.size, 0, none⟩ (.bool bq)).setCell ⟨w.heap.size, 1, none⟩ (.slice Aq lq cq) = W7 at *
  clear hV m0 m1 m2 m3 n0 n1 n2 n3
  refine (HQ2.out _ _ _ M7.out.yv G7.out.2).mono ?_
  rintro e w8 ⟨qb, rb, rfl, hqb, hrb, hn8⟩
  obtain ⟨Ar, lr, cr, rfl, _⟩ := hqb.form
  have m8x := M7.out.new hn8
  have M8 := Lib.hid (m8x.turnB hqb)
  have HBR : Hid (∃ t, decide ((-y).tdiv g < 0) = t) := Lib.hid ⟨_, rfl⟩
  obtain ⟨br, hbr⟩ := HBR.out
  rw [hbr] at M8 ⊢
  have HB2 := Lib.hid hbr
  clear p0 p1 p2 p3 p4 p5 r0 r1 r2 r3
  obtain ⟨m0, m1, m2, m3⟩ := m8x.cells
  obtain ⟨n0, n1, n2, n3⟩ := m8x.froz
  obtain ⟨p0, p1, p2, p3⟩ := M8.out.cells
  have hFR := M8.out.br
  have c20 := hFR.cells4.1
  have c21 := hFR.cells4.2.1
  have c22 := hFR.cells4.2.2.1
  have c23 := hFR.cells4.2.2.2
  have f20 := hFR.frozen 0
  have f21 := hFR.frozen 1
  have f22 := hFR.frozen 2
  have f23 := hFR.frozen 3
  obtain ⟨_, gb, gn, gv⟩ := rrat_done M8.out (.bool bq) (.slice Aq lq cq) (.bool br) (.slice Ar lr cr)
  have GX := Lib.hid (gv M8.out.xv)
  have GY := Lib.hid (gv M8.out.yv)
  have GN := Lib.hid gn
  obtain ⟨g0, g1, g2, g3⟩ := gb.cells4
  clear hqb hrb hn8 m8x M7 G7 hFR gb gn gv hbr HBR HQ2 M8
  go_wp2
  refine bodyPost_ret (v := .tuple #[.agg #[.bool bq, .slice Aq lq cq, .bool br, .slice Ar lr cr], .int .i64 0]) (by simp [results, Tryz.results53, go_sem, g0, g1, g2, g3]) rfl ⟨_, rfl, ⟨Aq, lq, cq, Ar, lr, cr, by rw [HB1.out, HB2.out], by rw [HB1.out]; exact GX.out, by rw [HB2.out]; exact GY.out⟩, GN.out⟩
end
end Go.Proofs.YtkjlmibleoecgaaGreatDoor
