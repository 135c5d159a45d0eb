/- The reference's rat: Make, whole; Text. (Printed by mkrq3.py.) -/
import Derived.Test.YtkjlmibleoecgaaGreatDoorRQ2
import Derived.Test.YtkjlmibleoecgaaGreatDoorQ4
namespace Go.Proofs.YtkjlmibleoecgaaGreatDoor
set_option linter.unusedSimpArgs false
set_option linter.unusedVariables false
open Go.RowKit
theorem RRatB.zero (w : World) (k : Nat) : RRatB w (.agg #[.bool false, .slice none 0 0, .bool false, .slice none 0 0]) 0 0 k :=
  ⟨none, 0, 0, none, 0, 0, rfl, ⟨⟨none, 0, 0, rfl, RefV.zero w⟩, by rw [show (0 : Int).natAbs = 0 from rfl, dg_zero]; exact Nat.zero_le _⟩, ⟨⟨none, 0, 0, rfl, RefV.zero w⟩, by rw [show (0 : Int).natAbs = 0 from rfl, dg_zero]; exact Nat.zero_le _⟩⟩
section
variable {w : World} {u v : Value} {x y n d : Int} {k j : Nat}
set_option maxRecDepth 100000 in
set_option maxHeartbeats 2000000 in
theorem rqmk_0 (hz : RNumB w u x k) (hy : RNumB w v 0 k) (hk : k ≤ 15000) :
    Calls Tryz.prog 53 #[u, v] w fun e w' => ∃ r, e = .returned (.tuple #[r, .int .i64 12]) ∧ RRatB w' r 0 0 k ∧ New w w' := by
  obtain ⟨A, l, c, rfl, hv⟩ := hz.form
  obtain ⟨A', l', c', rfl, hv'⟩ := hy.form
  have hN := allocs_new [(#[.bool (decide (x < 0)), .slice A l c], RNum), (#[.bool (decide ((0 : Int) < 0)), .slice A' l' c'], RNum), (#[.bool false, .slice none 0 0, .bool false, .slice none 0 0], RRat)] w
  have hB := allocs_bxs [(#[.bool (decide (x < 0)), .slice A l c], RNum), (#[.bool (decide ((0 : Int) < 0)), .slice A' l' c'], RNum), (#[.bool false, .slice none 0 0, .bool false, .slice none 0 0], RRat)] w
  simp only [allocs] at hN hB
  have M0 := Lib.hid (show RMx w (((w.alloc (.cells #[.bool (decide (x < 0)), .slice A l c] RNum)).alloc (.cells #[.bool (decide ((0 : Int) < 0)), .slice A' l' c'] RNum)).alloc (.cells #[.bool false, .slice none 0 0, .bool false, .slice none 0 0] RRat)) w.heap.size A l c (decide (x < 0)) A' l' c' (decide ((0 : Int) < 0)) x 0 k from
    ⟨hN, hB.three.1, hB.three.2.1, hB.three.2.2, hz.new hN, hy.new hN, Nat.le_refl _⟩)
  have HSG := Lib.hid (fun W v (h : RNumB W v 0 k) => rsign_n h)
  rw [show sgZ 0 = 0 from rfl] at HSG
  clear hv hv' hz hy hN hB
  generalize decide (x < 0) = b at *
  generalize decide ((0 : Int) < 0) = b' at *
  go_enter Tryz.func53, Tryz.ntmps53
  go_wp2_with fail
  refine (HSG.out _ _ M0.out.yv).mono ?_
  rintro e w1 ⟨rfl, hn1⟩
  have M8 := Lib.hid (M0.out.new hn1)
  have hFR := M8.out.br
  have c20 := hFR.cells4.1
  have c21 := hFR.cells4.2.1
  have c22 := hFR.cells4.2.2.1
  have c23 := hFR.cells4.2.2.2
  have f20 := hFR.frozen 0
  have f21 := hFR.frozen 1
  have f22 := hFR.frozen 2
  have f23 := hFR.frozen 3
  obtain ⟨_, gb, gn, gv⟩ := rrat_done M8.out (.bool false) (.slice none 0 0) (.bool false) (.slice none 0 0)
  have GN := Lib.hid gn
  obtain ⟨g0, g1, g2, g3⟩ := gb.cells4
  clear hn1 M0 M8 hFR gb gn gv HSG
  go_wp2
  refine bodyPost_ret (v := .tuple #[.agg #[.bool false, .slice none 0 0, .bool false, .slice none 0 0], .int .i64 12]) (by simp [results, Tryz.results53, go_sem, g0, g1, g2, g3]) rfl ⟨_, rfl, RRatB.zero _ _, GN.out⟩
theorem rqmake_n (hz : RNumB w u x k) (hy : RNumB w v y k) (hk : k ≤ 15000) :
    Calls Tryz.prog 53 #[u, v] w fun e w' => ∃ r, e = .returned (.tuple #[r, .int .i64 (divI y)]) ∧ RRatB w' r (mkN x y) (mkD x y) k ∧ New w w' := by
  by_cases h : y = 0
  · subst h
    have e1 : mkN x 0 = 0 := by unfold mkN; rw [if_pos rfl]
    have e2 : mkD x 0 = 0 := by unfold mkD; rw [if_pos rfl]
    rw [e1, e2]
    exact rqmk_0 hz hy hk
  · have e1 : divI y = 0 := by unfold divI; rw [if_neg h]
    rw [e1]
    rcases Int.lt_or_le y 0 with h1 | h1
    · exact rqmk_n hz hy hk h1
    · exact rqmk_p hz hy hk (by omega)
theorem rnumS_size {z : Int} {k : Nat} (h : (dg B9 z.natAbs).length ≤ k) : (numS z).size ≤ 9 * k + 2 := by
  have h1 := dec_len9 h
  have h2 : (decS z.natAbs).size = (Lib.decDigits z.natAbs).length := by rw [Lib.size_eq, decS_data]
  unfold numS
  split
  · rw [ByteArray.size_append]; show 1 + _ ≤ _; omega
  · omega
theorem numS_one {z : Int} : ((numS z).toList == [49]) = decide (z = 1) := by
  have h1 : decS 1 = ⟨#[49]⟩ := by unfold decS; rw [dec_small (by omega)]; rfl
  by_cases h : z = 1
  · subst h
    rw [show numS 1 = decS 1 from rfl, h1, Lib.toList_data]; rfl
  · rw [decide_eq_false h, beq_eq_false_iff_ne]
    intro e
    unfold numS at e
    split at e
    · rw [Lib.toList_data, ByteArray.data_append, Array.toList_append] at e
      exact absurd e (by simp)
    · rw [Lib.toList_data] at e
      have := decS_inj (data_inj0 (e.trans (show [49] = (decS 1).data.toList by rw [h1])))
      omega
set_option maxRecDepth 100000 in
set_option maxHeartbeats 4000000 in
theorem rqtext_n (hx : RRatB w v n d k) (hk : k ≤ 15000) (hk2 : 3 ≤ k) :
    Calls Tryz.prog 55 #[v] w fun e w' => e = .returned (.string (ratS n d)) ∧ New w w' := by
  obtain ⟨A, l, c, A', l', c', rfl, hv, hv'⟩ := id hx
  have hN := ((New.refl w).alloc (.cells #[.bool (decide (n < 0)), .slice A l c, .bool (decide (d < 0)), .slice A' l' c'] RRat))
  have hB0 := (Box.last w #[.bool (decide (n < 0)), .slice A l c, .bool (decide (d < 0)), .slice A' l' c'] RRat)
  have qx := hx.new hN
  have nx := hv.new hN
  have hs1 := rnumS_size (k := k) hv.k
  have hs2 := rnumS_size (k := k) hv'.k
  have HN := Lib.hid hN
  have HB0 := Lib.hid hB0
  have HDN := Lib.hid (fun W v (h : RRatB W v n d k) => rden_n h (by omega) hk2)
  have ho := numS_one (z := denZ d)
  have HTD := Lib.hid (fun W v (h : RNumB W v (denZ d) k) => rtext_n h (by omega))
  have HTN := Lib.hid (fun W v (h : RNumB W v n k) => rtext_n h (by omega))
  clear hx hv hv' hN hB0
  by_cases h : denZ d = 1
  · have e1 : ratS n d = numS n := by unfold ratS; rw [if_pos h]
    rw [decide_eq_true h] at ho
    rw [e1]
    clear e1 h hs1 hs2
    generalize numS (denZ d) = sd at *
    generalize decide (n < 0) = b at *
    generalize decide (d < 0) = b' at *
    go_enter Tryz.func55, Tryz.ntmps55
    go_wp2_with fail
    refine (HDN.out _ _ qx).mono ?_
    rintro e w1 ⟨v1, rfl, hv1, hn1⟩
    have HV1 := Lib.hid hv1
    have HN1 := Lib.hid (HN.out.trans hn1)
    have ST1 := Lib.hid (show Box w1 _ _ _ ∧ RRatB w1 _ n d k ∧ RNumB w1 _ n k from ⟨HB0.out.new hn1, qx.new hn1, nx.new hn1⟩)
    clear hv1 hn1 qx nx HB0 HN
    go_wp2_with fail
    refine (HTD.out _ _ HV1.out).mono ?_
    rintro e w3 ⟨rfl, hn3⟩
    have HN3 := Lib.hid (HN1.out.trans hn3)
    have ST2 := Lib.hid (show Box w3 _ _ _ ∧ RRatB w3 _ n d k ∧ RNumB w3 _ n k from ⟨ST1.out.1.new hn3, ST1.out.2.1.new hn3, ST1.out.2.2.new hn3⟩)
    clear hn3 ST1 HV1 HN1
    obtain ⟨m0, m1, m2, m3⟩ := ST2.out.1.cells4
    go_wp2_with fail
    refine (HTN.out _ _ ST2.out.2.2).mono ?_
    rintro e w4 ⟨rfl, hn4⟩
    have HN4 := Lib.hid (HN3.out.trans hn4)
    clear hn4
    go_wp2_with fail
    go_ret
    exact ⟨rfl, HN4.out⟩
  · have e0 : denZ d = d := by unfold denZ at h ⊢; split <;> simp_all
    have e1 : ratS n d = (numS n ++ ⟨#[47]⟩) ++ numS (denZ d) := by unfold ratS; rw [if_neg h, e0]
    rw [decide_eq_false h] at ho
    rw [← e0] at hs2
    rw [e1]
    generalize hsa : numS n = sa at *
    generalize hsb : numS (denZ d) = sd at *
    have hz1 : ¬ 9223372036854775807 < sa.size + 1 := by omega
    have hz2 : (sa ++ (⟨#[47]⟩ : ByteArray)).size = sa.size + 1 := by rw [ByteArray.size_append]; rfl
    have hz3 : ¬ 9223372036854775807 < sa.size + 1 + sd.size := by omega
    clear e1 h hsa hsb hs1 hs2 e0
    generalize decide (n < 0) = b at *
    generalize decide (d < 0) = b' at *
    go_enter Tryz.func55, Tryz.ntmps55
    go_wp2_with fail
    refine (HDN.out _ _ qx).mono ?_
    rintro e w1 ⟨v1, rfl, hv1, hn1⟩
    have HV1 := Lib.hid hv1
    have HN1 := Lib.hid (HN.out.trans hn1)
    have ST1 := Lib.hid (show Box w1 _ _ _ ∧ RRatB w1 _ n d k ∧ RNumB w1 _ n k from ⟨HB0.out.new hn1, qx.new hn1, nx.new hn1⟩)
    clear hv1 hn1 qx nx HB0 HN
    go_wp2_with fail
    refine (HTD.out _ _ HV1.out).mono ?_
    rintro e w3 ⟨rfl, hn3⟩
    have HN3 := Lib.hid (HN1.out.trans hn3)
    have ST2 := Lib.hid (show Box w3 _ _ _ ∧ RRatB w3 _ n d k ∧ RNumB w3 _ n k from ⟨ST1.out.1.new hn3, ST1.out.2.1.new hn3, ST1.out.2.2.new hn3⟩)
    clear hn3 ST1 HV1 HN1
    obtain ⟨m0, m1, m2, m3⟩ := ST2.out.1.cells4
    go_wp2_with fail
    go_region_law ((rw [if_pos (by rfl)]; (first | go_big_op | go_simp); first
      | (with_reducible (refine (HTD.out _ _ hv6).mono ?_); rintro e w7 ⟨rfl, hn7⟩; have hnx := (hnw.trans hn6).trans hn7)
      | (with_reducible (refine (HDN.out _ _ (ST2.out.2.1.new hn5)).mono ?_); rintro e w6 ⟨v6, rfl, hv6, hn6⟩)
      | (with_reducible (refine (HTN.out _ _ (ST2.out.2.2.new (New.refl _).drew)).mono ?_); rintro e w5 ⟨rfl, hn5'⟩; have hn5 := (New.refl _).drew.trans hn5'; have hnw := HN3.out.trans hn5; have r0 := hn5.still m0; have r1 := hn5.still m1; have r2 := hn5.still m2; have r3 := hn5.still m3)))
    all_goals
      have HN6 := Lib.hid hnx
      clear hnx hn5 hn6 hn5' hnw hv6 hn7
      go_wp2
      go_ret
      exact ⟨rfl, HN6.out⟩
end
end Go.Proofs.YtkjlmibleoecgaaGreatDoor
