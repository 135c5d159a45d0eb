/- The reference of num: sizes, Make, Neg, Sign, Text, Of, Add, Sub, Mul, Cmp. (Printed by mkrz1.py.) -/
import Derived.Test.YtkjlmibleoecgaaGreatDoorqZ4
import Derived.Test.YtkjlmibleoecgaaGreatDoorqZ6
import Derived.Test.YtkjlmibleoecgaaGreatDoorM2
import Derived.Test.YtkjlmibleoecgaaGreatDoorM0
namespace Go.Proofs.YtkjlmibleoecgaaGreatDoor
set_option linter.unusedSimpArgs false
set_option linter.unusedVariables false
open Go.RowKit
/-- v is the reference's whole number z, of k digits at most. -/
structure RNumB (w : World) (v : Value) (z : Int) (k : Nat) : Prop where
  v : RNumV w v z
  k : (dg B9 z.natAbs).length ≤ k
theorem RNumB.new {w w' : World} {v : Value} {z : Int} {k : Nat} (h : RNumB w v z k) (hn : New w w') : RNumB w' v z k := ⟨h.v.new hn, h.k⟩
theorem RNumB.more {w : World} {v : Value} {z : Int} {k j : Nat} (h : RNumB w v z k) (hk : k ≤ j) : RNumB w v z j := ⟨h.v, Nat.le_trans h.k hk⟩
theorem RNumB.form {w : World} {v : Value} {z : Int} {k : Nat} (h : RNumB w v z k) : ∃ A l c, v = .agg #[.bool (decide (z < 0)), .slice A l c] ∧ RefB w (.agg #[.slice A l c]) z.natAbs k := by
  obtain ⟨⟨A, l, c, rfl, h1⟩, h2⟩ := h
  exact ⟨A, l, c, rfl, h1, h2⟩
theorem RNumB.lay2 {w : World} {v : Value} {z : Int} {k : Nat} (h : RNumB w v z k) {p : Nat} {a b : Value} (hp : Box w p #[a, b] RNum) (x y : Value) : RNumB ((w.setCell ⟨p, 0, none⟩ x).setCell ⟨p, 1, none⟩ y) v z k := ⟨h.v.lay2 hp x y, h.k⟩
/-- A result is laid into its box. -/
theorem rn_done {w0 w : World} {p : Nat} {a b : Value} (hb : Box w p #[a, b] RNum) (hn : New w0 w) (hp : w0.heap.size ≤ p) {x bb : Value} {z : Int} {k : Nat} (hv : RNumB w (.agg #[bb, x]) z k) :
    ((w.setCell ⟨p, 0, none⟩ bb).setCell ⟨p, 1, none⟩ x).cell? ⟨p, 0, none⟩ = some bb ∧ ((w.setCell ⟨p, 0, none⟩ bb).setCell ⟨p, 1, none⟩ x).cell? ⟨p, 1, none⟩ = some x ∧
    RNumB ((w.setCell ⟨p, 0, none⟩ bb).setCell ⟨p, 1, none⟩ x) (.agg #[bb, x]) z k ∧ New w0 ((w.setCell ⟨p, 0, none⟩ bb).setCell ⟨p, 1, none⟩ x) :=
  ⟨(hb.lay2 bb x).cell0', (hb.lay2 bb x).cell1', hv.lay2 hb bb x, New.set2 hn hp _ _⟩
section
variable {w : World} {u v : Value} {z y : Int} {k j : Nat}
theorem rmake_b {x : Nat} (b : Bool) (hu : RefB w u x k) :
    Calls Tryz.prog 94 #[.bool b, u] w fun e w' => ∃ v, e = .returned v ∧ RNumB w' v (sgn b x) k ∧ New w w' :=
  (rmake_n b hu.v).mono fun e w' ⟨v, h1, h2, h3⟩ => ⟨v, h1, ⟨h2, by rw [sgn_abs]; exact hu.k⟩, h3⟩
theorem dec_len9 {n k : Nat} (h : (dg B9 n).length ≤ k) : (Lib.decDigits n).length ≤ 9 * k + 1 := by
  have h1 : n < B9 ^ k := Nat.lt_of_lt_of_le (dg_lt_pow B9_2 n) (Nat.pow_le_pow_right (by decide) h)
  have h2 : B9 ^ k = 10 ^ (9 * k) := by rw [Nat.pow_mul]; rfl
  rw [h2] at h1
  exact dec_len_le (Nat.lt_of_lt_of_le h1 (Nat.pow_le_pow_right (by decide) (by omega))) (by omega)
theorem rlen0 {A : Option Addr} {l c n k : Nat} (h : RefB w (.agg #[.slice A l c]) n k) : (l = 0 ↔ n = 0) := by
  rw [h.v.len, List.length_eq_zero_iff, dg_nil B9_2]
set_option maxHeartbeats 1000000 in
theorem rneg_n (hz : RNumB w v z k) :
    Calls Tryz.prog 44 #[v] w fun e w' => ∃ u, e = .returned u ∧ RNumB w' u (-z) k ∧ New w w' := by
  obtain ⟨A, l, c, rfl, hv⟩ := hz.form
  have HM := Lib.hid (fun W (h : New w W) => rmake_b (!decide (z < 0)) (hv.new h))
  rw [sgn_not] at HM
  have HB := Lib.hid (Box.last2 w (.cells #[.bool (decide (z < 0)), .slice A l c] RNum) #[.bool false, .slice none 0 0] RNum)
  have HN := Lib.hid (((New.refl w).alloc (.cells #[.bool (decide (z < 0)), .slice A l c] RNum)).alloc (.cells #[.bool false, .slice none 0 0] RNum))
  generalize decide (z < 0) = b2 at *
  clear hv hz
  go_enter Tryz.func44, Tryz.ntmps44
  go_wp2_with fail
  refine (HM.out _ HN.out).mono ?_
  rintro e w1 ⟨v1, rfl, hv1, hn1⟩
  have hb := HB.out.new hn1
  have hnn := HN.out.trans hn1
  obtain ⟨A1, l1, c1, rfl, _⟩ := hv1.form
  generalize hbb : decide (-z < 0) = bb at *
  obtain ⟨f0, f1, f2, f3⟩ := Box.two hb
  obtain ⟨g0, g1, g2, g3⟩ := rn_done hb hnn (by omega) hv1
  have HV := Lib.hid g2
  have HNW := Lib.hid g3
  clear g2 g3 hv1 hbb hb hnn hn1
  go_wp2
  refine bodyPost_ret (v := .agg #[.bool bb, .slice A1 l1 c1]) (by simp [results, Tryz.results44, go_sem, g0, g1]) rfl ⟨_, rfl, HV.out, HNW.out⟩
set_option maxHeartbeats 1000000 in
theorem rsign_n (hz : RNumB w v z k) :
    Calls Tryz.prog 43 #[v] w fun e w' => e = .returned (.int .i64 (sgZ z)) ∧ New w w' := by
  obtain ⟨A, l, c, rfl, hv⟩ := hz.form
  have hl := rlen0 hv
  have HN := Lib.hid ((New.refl w).alloc (.cells #[.bool (decide (z < 0)), .slice A l c] RNum))
  rcases (show z < 0 ∨ z = 0 ∨ 0 < z by omega) with h | h | h
  · have e1 : decide (z < 0) = true := decide_eq_true h
    have e2 : sgZ z = -1 := by unfold sgZ; rw [if_pos h]
    rw [e1] at HN ⊢
    rw [e2]
    clear hv hz e1 e2 h hl
    go_enter Tryz.func43, Tryz.ntmps43
    go_wp2
    go_ret
    exact ⟨rfl, HN.out⟩
  · have e1 : decide (z < 0) = false := decide_eq_false (by omega)
    have e2 : sgZ z = 0 := by unfold sgZ; rw [if_neg (by omega), if_pos h]
    have hl0 : l = 0 := hl.2 (by omega)
    subst hl0
    rw [e1] at HN ⊢
    rw [e2]
    clear hv hz e1 e2 h hl
    go_enter Tryz.func43, Tryz.ntmps43
    go_wp2
    go_ret
    exact ⟨rfl, HN.out⟩
  · have e1 : decide (z < 0) = false := decide_eq_false (by omega)
    have e2 : sgZ z = 1 := by unfold sgZ; rw [if_neg (by omega), if_neg (by omega)]
    have hl0 : 0 < l := Nat.pos_of_ne_zero fun e => by have := hl.1 e; omega
    have hl1 : (0 : Int) < (l : Int) := by omega
    rw [e1] at HN ⊢
    rw [e2]
    clear hv hz e1 e2 h hl
    go_enter Tryz.func43, Tryz.ntmps43
    go_wp2
    go_ret
    exact ⟨rfl, HN.out⟩
set_option maxHeartbeats 1000000 in
theorem rtext_n (hz : RNumB w v z k) (hk : k ≤ 100000) :
    Calls Tryz.prog 29 #[v] w fun e w' => e = .returned (.string (numS z)) ∧ New w w' := by
  obtain ⟨A, l, c, rfl, hv⟩ := hz.form
  have HN := Lib.hid ((New.refl w).alloc (.cells #[.bool (decide (z < 0)), .slice A l c] RNum))
  have HT := Lib.hid (fun W (h : New w W) => rtext_v (hv.new h) hk)
  by_cases h : z < 0
  · have e1 : decide (z < 0) = true := decide_eq_true h
    have e2 : numS z = (⟨#[45]⟩ : ByteArray) ++ decS z.natAbs := by unfold numS; rw [if_pos h]
    have hd : (decS z.natAbs).size ≤ 1000000 := by
      have h2 : (decS z.natAbs).size = (Lib.decDigits z.natAbs).length := by rw [Lib.size_eq, decS_data]
      have h3 := dec_len9 hz.k
      omega
    rw [e1] at HN ⊢
    rw [e2]
    generalize decS z.natAbs = ds at *
    have hd2 : ¬ 9223372036854775807 < 1 + ds.size := by omega
    clear hv hz e1 e2 h
    go_enter Tryz.func29, Tryz.ntmps29
    go_wp2_with fail
    refine (HT.out _ HN.out).mono ?_
    rintro e w1 ⟨rfl, hn1⟩
    have HN1 := Lib.hid (HN.out.trans hn1)
    clear hn1
    go_wp2_with fail
    go_ret
    exact ⟨rfl, HN1.out⟩
  · have e1 : decide (z < 0) = false := decide_eq_false h
    have e2 : numS z = decS z.natAbs := by unfold numS; rw [if_neg h]
    rw [e1] at HN ⊢
    rw [e2]
    generalize decS z.natAbs = ds at *
    clear hv hz e1 e2 h
    go_enter Tryz.func29, Tryz.ntmps29
    go_wp2_with fail
    refine (HT.out _ HN.out).mono ?_
    rintro e w1 ⟨rfl, hn1⟩
    have HN1 := Lib.hid (HN.out.trans hn1)
    clear hn1
    go_wp2_with fail
    go_ret
    exact ⟨rfl, HN1.out⟩
set_option maxHeartbeats 1000000 in
theorem rof_n (n : Int) (h1 : -9223372036854775808 ≤ n) (h2 : n ≤ 9223372036854775807) (w : World) :
    Calls Tryz.prog 41 #[.int .i64 n] w fun e w' => ∃ v, e = .returned v ∧ RNumB w' v n 3 ∧ New w w' := by
  have HB := Lib.hid (Box.last w #[.bool false, .slice none 0 0] RNum)
  have HN := Lib.hid ((New.refl w).alloc (.cells #[.bool false, .slice none 0 0] RNum))
  have hk : n.natAbs < 18446744073709551616 := by omega
  have HOF := Lib.hid (fun W => rof_c hk W)
  have HDK : Hid ((dg B9 n.natAbs).length ≤ 3) := Lib.hid (dg_len B9_2 (by rw [B9_eq]; omega))
  by_cases h : n < 0
  · have hw1 : IntKind.i64.wrap (n + 1) = n + 1 := IntWalk.i64_in _ (by omega)
    have hw2 : IntKind.i64.wrap (-(n + 1)) = -(n + 1) := IntWalk.i64_in _ (by omega)
    have hw3 : IntKind.u64.wrap (-(n + 1)) = -(n + 1) := by rw [IntKind.wrap_u64]; omega
    have hw4 : IntKind.u64.wrap (-(n + 1) + 1) = ((n.natAbs : Nat) : Int) := by rw [IntKind.wrap_u64]; omega
    have hw5 : IntKind.u64.wrap (-n) = ((n.natAbs : Nat) : Int) := by rw [IntKind.wrap_u64]; omega
    have HM := Lib.hid (fun W v (h : RefB W v n.natAbs 3) => rmake_b true h)
    have hs : sgn true n.natAbs = n := by unfold sgn; simp; omega
    rw [hs] at HM
    have hge : ¬ 0 ≤ n := by omega
    clear hs h1 h2 hk
    go_enter Tryz.func41, Tryz.ntmps41
    go_wp2_with fail
    refine (HOF.out _).mono ?_
    rintro e w1 ⟨v1, rfl, hv1, hn1⟩
    have HV1 := Lib.hid (show RefB w1 v1 n.natAbs 3 from ⟨hv1, HDK.out⟩)
    have HN1 := Lib.hid (HN.out.trans hn1)
    have HB1 := Lib.hid (HB.out.new hn1)
    clear hv1 hn1
    go_wp2_with fail
    refine (HM.out _ _ HV1.out).mono ?_
    rintro e w2 ⟨v2, rfl, hv1, hn2⟩
    have hb := HB1.out.new hn2
    have hnn := HN1.out.trans hn2
    obtain ⟨A1, l1, c1, rfl, _⟩ := hv1.form
    generalize hbb : decide (n < 0) = bb at *
    obtain ⟨f0, f1, f2, f3⟩ := Box.two hb
    obtain ⟨g0, g1, g2, g3⟩ := rn_done hb hnn (Nat.le_refl _) hv1
    have HV := Lib.hid g2
    have HNW := Lib.hid g3
    clear g2 g3 hv1 hbb hb hnn hn2
    go_wp2
    refine bodyPost_ret (v := .agg #[.bool bb, .slice A1 l1 c1]) (by simp [results, Tryz.results41, go_sem, g0, g1]) rfl ⟨_, rfl, HV.out, HNW.out⟩
  · obtain ⟨na, hna⟩ : ∃ na : Nat, n = (na : Int) := ⟨n.toNat, by omega⟩
    subst hna
    rw [Int.natAbs_natCast] at *
    have hw1 : IntKind.u64.wrap (na : Int) = (na : Int) := IntWalk.u64_in _ (by omega)
    have HM := Lib.hid (fun W v (h : RefB W v na 3) => rmake_b false h)
    have hs : sgn false na = (na : Int) := by unfold sgn; simp
    rw [hs] at HM
    have hh : (0 : Int) ≤ (na : Int) := by omega
    clear hs h
    go_enter Tryz.func41, Tryz.ntmps41
    go_wp2_with fail
    refine (HOF.out _).mono ?_
    rintro e w1 ⟨v1, rfl, hv1, hn1⟩
    have HV1 := Lib.hid (show RefB w1 v1 na 3 from ⟨hv1, HDK.out⟩)
    have HN1 := Lib.hid (HN.out.trans hn1)
    have HB1 := Lib.hid (HB.out.new hn1)
    clear hv1 hn1
    go_wp2_with fail
    refine (HM.out _ _ HV1.out).mono ?_
    rintro e w2 ⟨v2, rfl, hv1, hn2⟩
    have hb := HB1.out.new hn2
    have hnn := HN1.out.trans hn2
    obtain ⟨A1, l1, c1, rfl, _⟩ := hv1.form
    generalize hbb : decide ((na : Int) < 0) = bb at *
    obtain ⟨f0, f1, f2, f3⟩ := Box.two hb
    obtain ⟨g0, g1, g2, g3⟩ := rn_done hb hnn (Nat.le_refl _) hv1
    have HV := Lib.hid g2
    have HNW := Lib.hid g3
    clear g2 g3 hv1 hbb hb hnn hn2
    go_wp2
    refine bodyPost_ret (v := .agg #[.bool bb, .slice A1 l1 c1]) (by simp [results, Tryz.results41, go_sem, g0, g1]) rfl ⟨_, rfl, HV.out, HNW.out⟩
set_option maxRecDepth 100000 in
set_option maxHeartbeats 2000000 in
theorem radd_n (hz : RNumB w u z k) (hy : RNumB w v y j) (hk : k ≤ 40000) (hj : j ≤ 40000) :
    Calls Tryz.prog 28 #[u, v] w fun e w' => ∃ u, e = .returned u ∧ RNumB w' u (z + y) (k + j + 1) ∧ New w w' := by
  obtain ⟨A, l, c, rfl, hv⟩ := hz.form
  obtain ⟨A', l', c', rfl, hv'⟩ := hy.form
  have HN := Lib.hid (allocs_new [(#[.bool (decide (z < 0)), .slice A l c], RNum), (#[.bool (decide (y < 0)), .slice A' l' c'], RNum), (#[.bool false, .slice none 0 0], RNum)] w)
  have HB := Lib.hid (allocs_bxs [(#[.bool (decide (z < 0)), .slice A l c], RNum), (#[.bool (decide (y < 0)), .slice A' l' c'], RNum), (#[.bool false, .slice none 0 0], RNum)] w)
  simp only [allocs] at HN HB
  by_cases hs : decide (z < 0) = decide (y < 0)
  · have HA := Lib.hid (fun W (h : New w W) => radd_b (hv.new h) (hv'.new h) (by omega) (by omega))
    have HM := Lib.hid (fun W v (h : RefB W v (z.natAbs + y.natAbs) (k + j + 1)) => rmake_b (decide (z < 0)) h)
    rw [add_same hs] at HM
    generalize decide (z < 0) = b at *
    generalize decide (y < 0) = b' at *
    obtain rfl : b = b' := hs
    clear hv hv' hz hy
    go_enter Tryz.func28, Tryz.ntmps28
    go_wp2
    generalize ((w.alloc (.cells #[.bool b, .slice A l c] RNum)).alloc (.cells #[.bool b, .slice A' l' c'] RNum)).alloc (.cells #[.bool false, .slice none 0 0] RNum) = W at *
    obtain ⟨ba, bb', bc⟩ := Bxs.three HB.out
    obtain ⟨m0, m1⟩ := ba.cells2
    obtain ⟨m2, m3⟩ := bb'.cells2
    clear ba bb' bc
    go_region_law ((rw [if_pos (by rfl)]; (first | go_big_op | go_simp); first
      | (with_reducible (refine (HA.out _ (HN.out.trans (New.refl _).drew)).mono ?_); rintro e w5 ⟨v5, rfl, hv5, hn5⟩; have hd5 := (New.refl W).drew.trans hn5; obtain ⟨ba, bb', bc⟩ := Bxs.three (Bxs.new hd5 HB.out); obtain ⟨q0, q1⟩ := ba.cells2; obtain ⟨q2, q3⟩ := bb'.cells2; obtain ⟨q4, q5, q6, q7⟩ := bc.two; clear ba bb' bc)
      | (with_reducible (refine (HM.out _ _ hv5).mono ?_); rintro e w6 ⟨v6, rfl, hv1, hn6⟩; have hd6 := hd5.trans hn6; obtain ⟨A1, l1, c1, rfl, _⟩ := hv1.form; obtain ⟨ba, bb', bc⟩ := Bxs.three (Bxs.new hd6 HB.out); obtain ⟨r0, r1⟩ := ba.cells2; obtain ⟨r2, r3⟩ := bb'.cells2; obtain ⟨r4, r5, r6, r7⟩ := bc.two; clear ba bb' bc)))
    all_goals
      generalize hbb : decide (z + y < 0) = bb at *
      obtain ⟨ba, bb', bc⟩ := Bxs.three (HB.out.new hd6)
      obtain ⟨g0, g1, g2, g3⟩ := rn_done bc (HN.out.trans hd6) (by omega) hv1
      have HV := Lib.hid g2
      have HNW := Lib.hid g3
      clear g2 g3 hv1 hbb hd6 hd5 hn6 hn5 hv5 ba bb' bc
      go_wp2
      refine bodyPost_ret (v := .agg #[.bool bb, .slice A1 l1 c1]) (by simp [results, Tryz.results28, go_sem, g0, g1]) rfl ⟨_, rfl, HV.out, HNW.out⟩
  · have hbe : (decide (z < 0) == decide (y < 0)) = false := by rw [beq_eq_false_iff_ne]; exact hs
    have HC := Lib.hid (fun W (h : New w W) => rcmp_b (hv.new h) (hv'.new h) (by omega) (by omega))
    have hle : z.natAbs < y.natAbs ∨ y.natAbs ≤ z.natAbs := by omega
    rcases hle with hle | hle
    · have HS := Lib.hid (fun W (h : New w W) => rsub_e (hv'.new h) (hv.new h) (by omega) (by omega))
      rw [show subE y.natAbs z.natAbs = 0 by unfold subE; rw [if_neg (by omega)]] at HS
      have HM := Lib.hid (fun W v (h : RefB W v (y.natAbs - z.natAbs) j) => rmake_b (decide (y < 0)) h)
      rw [add_less hs hle] at HM
      have hsc : ¬ 0 ≤ cmpN z.natAbs y.natAbs := by unfold cmpN; rw [if_pos hle]; decide
      generalize decide (z < 0) = b at *
      generalize decide (y < 0) = b' at *
      clear hv hv' hz hy hs hle
      go_enter Tryz.func28, Tryz.ntmps28
      go_wp2_with fail
      refine (HC.out _ HN.out).mono ?_
      rintro e w4 ⟨rfl, hn4⟩
      generalize cmpN z.natAbs y.natAbs = sc at *
      have HB4 := Lib.hid (HB.out.new hn4)
      have HN4 := Lib.hid (HN.out.trans hn4)
      clear HB HN HC hn4
      obtain ⟨ba, bb', bc⟩ := Bxs.three HB4.out
      obtain ⟨m0, m1⟩ := ba.cells2
      obtain ⟨m2, m3⟩ := bb'.cells2
      obtain ⟨m4, m5, m6, m7⟩ := bc.two
      clear ba bb' bc
      go_wp2_with fail
      refine (HS.out _ HN4.out).mono ?_
      rintro e w5 ⟨v5, rfl, hv5, hn5⟩
      obtain ⟨A5, l5, c5, rfl⟩ := hv5.form
      have hn5' := hn5.alloc (.cells #[.slice A5 l5 c5] RNt)
      have HV5 := Lib.hid (hv5.new ((New.refl w5).alloc (.cells #[.slice A5 l5 c5] RNt)))
      have HB5 := Lib.hid (HB4.out.new hn5')
      have HN5 := Lib.hid (HN4.out.trans hn5')
      clear hv5 hn5 hn5' HB4 HN4 HS m0 m1 m2 m3 m4 m5 m6 m7
      obtain ⟨ba, bb', bc⟩ := Bxs.three HB5.out
      obtain ⟨m0, m1⟩ := ba.cells2
      obtain ⟨m2, m3⟩ := bb'.cells2
      obtain ⟨m4, m5, m6, m7⟩ := bc.two
      clear ba bb' bc
      go_wp2_with fail
      refine (HM.out _ _ HV5.out).mono ?_
      rintro e w7 ⟨v7, rfl, hv1, hn7⟩
      obtain ⟨ba, bb', bc⟩ := Bxs.three (HB5.out.new hn7)
      have hnn := HN5.out.trans hn7
      obtain ⟨A1, l1, c1, rfl, _⟩ := hv1.form
      generalize hbb : decide (z + y < 0) = bb at *
      obtain ⟨f0, f1, f2, f3⟩ := Box.two bc
      obtain ⟨g0, g1, g2, g3⟩ := rn_done bc hnn (by omega) hv1
      have HV := Lib.hid (RNumB.more g2 (show j ≤ k + j + 1 by omega))
      have HNW := Lib.hid g3
      clear g2 g3 hv1 hbb hnn hn7 ba bb' bc
      go_wp2
      refine bodyPost_ret (v := .agg #[.bool bb, .slice A1 l1 c1]) (by simp [results, Tryz.results28, go_sem, g0, g1]) rfl ⟨_, rfl, HV.out, HNW.out⟩
    · have HS := Lib.hid (fun W (h : New w W) => rsub_e (hv.new h) (hv'.new h) (by omega) (by omega))
      rw [show subE z.natAbs y.natAbs = 0 by unfold subE; rw [if_neg (by omega)]] at HS
      have HM := Lib.hid (fun W v (h : RefB W v (z.natAbs - y.natAbs) k) => rmake_b (decide (z < 0)) h)
      rw [add_more hs hle] at HM
      have hsc : 0 ≤ cmpN z.natAbs y.natAbs := by unfold cmpN; rw [if_neg (by omega)]; split <;> decide
      generalize decide (z < 0) = b at *
      generalize decide (y < 0) = b' at *
      clear hv hv' hz hy hs hle
      go_enter Tryz.func28, Tryz.ntmps28
      go_wp2_with fail
      refine (HC.out _ HN.out).mono ?_
      rintro e w4 ⟨rfl, hn4⟩
      generalize cmpN z.natAbs y.natAbs = sc at *
      have HB4 := Lib.hid (HB.out.new hn4)
      have HN4 := Lib.hid (HN.out.trans hn4)
      clear HB HN HC hn4
      obtain ⟨ba, bb', bc⟩ := Bxs.three HB4.out
      obtain ⟨m0, m1⟩ := ba.cells2
      obtain ⟨m2, m3⟩ := bb'.cells2
      obtain ⟨m4, m5, m6, m7⟩ := bc.two
      clear ba bb' bc
      go_wp2_with fail
      refine (HS.out _ HN4.out).mono ?_
      rintro e w5 ⟨v5, rfl, hv5, hn5⟩
      obtain ⟨A5, l5, c5, rfl⟩ := hv5.form
      have hn5' := hn5.alloc (.cells #[.slice A5 l5 c5] RNt)
      have HV5 := Lib.hid (hv5.new ((New.refl w5).alloc (.cells #[.slice A5 l5 c5] RNt)))
      have HB5 := Lib.hid (HB4.out.new hn5')
      have HN5 := Lib.hid (HN4.out.trans hn5')
      clear hv5 hn5 hn5' HB4 HN4 HS m0 m1 m2 m3 m4 m5 m6 m7
      obtain ⟨ba, bb', bc⟩ := Bxs.three HB5.out
      obtain ⟨m0, m1⟩ := ba.cells2
      obtain ⟨m2, m3⟩ := bb'.cells2
      obtain ⟨m4, m5, m6, m7⟩ := bc.two
      clear ba bb' bc
      go_wp2_with fail
      refine (HM.out _ _ HV5.out).mono ?_
      rintro e w7 ⟨v7, rfl, hv1, hn7⟩
      obtain ⟨ba, bb', bc⟩ := Bxs.three (HB5.out.new hn7)
      have hnn := HN5.out.trans hn7
      obtain ⟨A1, l1, c1, rfl, _⟩ := hv1.form
      generalize hbb : decide (z + y < 0) = bb at *
      obtain ⟨f0, f1, f2, f3⟩ := Box.two bc
      obtain ⟨g0, g1, g2, g3⟩ := rn_done bc hnn (by omega) hv1
      have HV := Lib.hid (RNumB.more g2 (show k ≤ k + j + 1 by omega))
      have HNW := Lib.hid g3
      clear g2 g3 hv1 hbb hnn hn7 ba bb' bc
      go_wp2
      refine bodyPost_ret (v := .agg #[.bool bb, .slice A1 l1 c1]) (by simp [results, Tryz.results28, go_sem, g0, g1]) rfl ⟨_, rfl, HV.out, HNW.out⟩
set_option maxRecDepth 100000 in
set_option maxHeartbeats 2000000 in
theorem rsub_n (hz : RNumB w u z k) (hy : RNumB w v y j) (hk : k ≤ 40000) (hj : j ≤ 40000) :
    Calls Tryz.prog 31 #[u, v] w fun e w' => ∃ u, e = .returned u ∧ RNumB w' u (z - y) (k + j + 1) ∧ New w w' := by
  obtain ⟨A, l, c, rfl, hv⟩ := hz.form
  obtain ⟨A', l', c', rfl, hv'⟩ := hy.form
  have HN := Lib.hid (allocs_new [(#[.bool (decide (z < 0)), .slice A l c], RNum), (#[.bool (decide (y < 0)), .slice A' l' c'], RNum), (#[.bool false, .slice none 0 0], RNum)] w)
  have HB := Lib.hid (allocs_bxs [(#[.bool (decide (z < 0)), .slice A l c], RNum), (#[.bool (decide (y < 0)), .slice A' l' c'], RNum), (#[.bool false, .slice none 0 0], RNum)] w)
  simp only [allocs] at HN HB
  have HG := Lib.hid (fun W (h : New w W) => rneg_n (hy.new h))
  have HA := Lib.hid (fun W v (h : New w W) (h2 : RNumB W v (-y) j) => radd_n (hz.new h) h2 hk hj)
  rw [show z + -y = z - y by omega] at HA
  generalize decide (z < 0) = b at *
  generalize decide (y < 0) = b' at *
  clear hv hv' hz hy
  go_enter Tryz.func31, Tryz.ntmps31
  go_wp2
  generalize ((w.alloc (.cells #[.bool b, .slice A l c] RNum)).alloc (.cells #[.bool b', .slice A' l' c'] RNum)).alloc (.cells #[.bool false, .slice none 0 0] RNum) = W at *
  obtain ⟨ba, bb', bc⟩ := Bxs.three HB.out
  obtain ⟨m0, m1⟩ := ba.cells2
  obtain ⟨m2, m3⟩ := bb'.cells2
  clear ba bb' bc
  go_region_law ((rw [if_pos (by rfl)]; (first | go_big_op | go_simp); first
    | (with_reducible (refine (HG.out _ (HN.out.trans (New.refl _).drew)).mono ?_); rintro e w5 ⟨v5, rfl, hv5, hn5⟩; have hd5 := (New.refl W).drew.trans hn5; obtain ⟨ba, bb', bc⟩ := Bxs.three (Bxs.new hd5 HB.out); obtain ⟨q0, q1⟩ := ba.cells2; obtain ⟨q2, q3⟩ := bb'.cells2; obtain ⟨q4, q5, q6, q7⟩ := bc.two; clear ba bb' bc)
    | (with_reducible (refine (HA.out _ _ (HN.out.trans hd5) hv5).mono ?_); rintro e w6 ⟨v6, rfl, hv1, hn6⟩; have hd6 := hd5.trans hn6; obtain ⟨A1, l1, c1, rfl, _⟩ := hv1.form; obtain ⟨ba, bb', bc⟩ := Bxs.three (Bxs.new hd6 HB.out); obtain ⟨r0, r1⟩ := ba.cells2; obtain ⟨r2, r3⟩ := bb'.cells2; obtain ⟨r4, r5, r6, r7⟩ := bc.two; clear ba bb' bc)))
  all_goals
    generalize hbb : decide (z - y < 0) = bb at *
    obtain ⟨ba, bb', bc⟩ := Bxs.three (HB.out.new hd6)
    obtain ⟨g0, g1, g2, g3⟩ := rn_done bc (HN.out.trans hd6) (by omega) hv1
    have HV := Lib.hid g2
    have HNW := Lib.hid g3
    clear g2 g3 hv1 hbb hd6 hd5 hn6 hn5 hv5 ba bb' bc
    go_wp2
    refine bodyPost_ret (v := .agg #[.bool bb, .slice A1 l1 c1]) (by simp [results, Tryz.results31, go_sem, g0, g1]) rfl ⟨_, rfl, HV.out, HNW.out⟩
set_option maxRecDepth 100000 in
set_option maxHeartbeats 2000000 in
theorem rmul_n (hz : RNumB w u z k) (hy : RNumB w v y j) (hk : k ≤ 40000) (hj : j ≤ 40000) :
    Calls Tryz.prog 33 #[u, v] w fun e w' => ∃ u, e = .returned u ∧ RNumB w' u (z * y) (k + j) ∧ New w w' := by
  obtain ⟨A, l, c, rfl, hv⟩ := hz.form
  obtain ⟨A', l', c', rfl, hv'⟩ := hy.form
  have HN := Lib.hid (allocs_new [(#[.bool (decide (z < 0)), .slice A l c], RNum), (#[.bool (decide (y < 0)), .slice A' l' c'], RNum), (#[.bool false, .slice none 0 0], RNum)] w)
  have HB := Lib.hid (allocs_bxs [(#[.bool (decide (z < 0)), .slice A l c], RNum), (#[.bool (decide (y < 0)), .slice A' l' c'], RNum), (#[.bool false, .slice none 0 0], RNum)] w)
  simp only [allocs] at HN HB
  have HA := Lib.hid (fun W (h : New w W) => rmul_b (hv.new h) (hv'.new h) (by omega) (by omega))
  have HM := Lib.hid (fun W v (h : RefB W v (z.natAbs * y.natAbs) (k + j)) => rmake_b (!(decide (z < 0) == decide (y < 0))) h)
  rw [mul_sgn] at HM
  generalize decide (z < 0) = b at *
  generalize decide (y < 0) = b' at *
  clear hv hv' hz hy
  go_enter Tryz.func33, Tryz.ntmps33
  go_wp2
  generalize ((w.alloc (.cells #[.bool b, .slice A l c] RNum)).alloc (.cells #[.bool b', .slice A' l' c'] RNum)).alloc (.cells #[.bool false, .slice none 0 0] RNum) = W at *
  obtain ⟨ba, bb', bc⟩ := Bxs.three HB.out
  obtain ⟨m0, m1⟩ := ba.cells2
  obtain ⟨m2, m3⟩ := bb'.cells2
  clear ba bb' bc
  go_region_law ((rw [if_pos (by rfl)]; (first | go_big_op | go_simp); first
    | (with_reducible (refine (HA.out _ (HN.out.trans (New.refl _).drew)).mono ?_); rintro e w5 ⟨v5, rfl, hv5, hn5⟩; have hd5 := (New.refl W).drew.trans hn5; obtain ⟨ba, bb', bc⟩ := Bxs.three (Bxs.new hd5 HB.out); obtain ⟨q0, q1⟩ := ba.cells2; obtain ⟨q2, q3⟩ := bb'.cells2; obtain ⟨q4, q5, q6, q7⟩ := bc.two; clear ba bb' bc)
    | (with_reducible (refine (HM.out _ _ hv5).mono ?_); rintro e w6 ⟨v6, rfl, hv1, hn6⟩; have hd6 := hd5.trans hn6; obtain ⟨A1, l1, c1, rfl, _⟩ := hv1.form; obtain ⟨ba, bb', bc⟩ := Bxs.three (Bxs.new hd6 HB.out); obtain ⟨r0, r1⟩ := ba.cells2; obtain ⟨r2, r3⟩ := bb'.cells2; obtain ⟨r4, r5, r6, r7⟩ := bc.two; clear ba bb' bc)))
  all_goals
    generalize hbb : decide (z * y < 0) = bb at *
    obtain ⟨ba, bb', bc⟩ := Bxs.three (HB.out.new hd6)
    obtain ⟨g0, g1, g2, g3⟩ := rn_done bc (HN.out.trans hd6) (by omega) hv1
    have HV := Lib.hid g2
    have HNW := Lib.hid g3
    clear g2 g3 hv1 hbb hd6 hd5 hn6 hn5 hv5 ba bb' bc
    go_wp2
    refine bodyPost_ret (v := .agg #[.bool bb, .slice A1 l1 c1]) (by simp [results, Tryz.results33, go_sem, g0, g1]) rfl ⟨_, rfl, HV.out, HNW.out⟩
set_option maxHeartbeats 1000000 in
theorem rcmp_n (hz : RNumB w u z k) (hy : RNumB w v y j) (hk : k ≤ 40000) (hj : j ≤ 40000) :
    Calls Tryz.prog 35 #[u, v] w fun e w' => e = .returned (.int .i64 (cmpZ z y)) ∧ New w w' := by
  obtain ⟨A, l, c, rfl, hv⟩ := hz.form
  obtain ⟨A', l', c', rfl, hv'⟩ := hy.form
  have HN := Lib.hid (((New.refl w).alloc (.cells #[.bool (decide (z < 0)), .slice A l c] RNum)).alloc (.cells #[.bool (decide (y < 0)), .slice A' l' c'] RNum))
  have HS := Lib.hid (fun W (h : New w W) => rsub_n (hz.new h) (hy.new h) hk hj)
  have HG := Lib.hid (fun W v (h : RNumB W v (z - y) (k + j + 1)) => rsign_n h)
  rw [show sgZ (z - y) = cmpZ z y by unfold sgZ cmpZ; (repeat' split) <;> omega] at HG
  generalize decide (z < 0) = b at *
  generalize decide (y < 0) = b' at *
  generalize cmpZ z y = r at *
  clear hv hv' hz hy
  go_enter Tryz.func35, Tryz.ntmps35
  go_wp2_with fail
  refine (HS.out _ HN.out).mono ?_
  rintro e w1 ⟨v1, rfl, hv1, hn1⟩
  have HV1 := Lib.hid hv1
  have HN1 := Lib.hid (HN.out.trans hn1)
  clear hv1 hn1
  go_wp2_with fail
  refine (HG.out _ _ HV1.out).mono ?_
  rintro e w2 ⟨rfl, hn2⟩
  have HN2 := Lib.hid (HN1.out.trans hn2)
  clear hn2
  go_wp2_with fail
  go_ret
  exact ⟨rfl, HN2.out⟩
end
end Go.Proofs.YtkjlmibleoecgaaGreatDoor
