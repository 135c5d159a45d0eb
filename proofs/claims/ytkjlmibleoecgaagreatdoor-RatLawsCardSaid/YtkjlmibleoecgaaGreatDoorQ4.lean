/- The program's rat: Cmp, Text, Of. (Printed by mkq4.py.) -/
import Derived.Test.YtkjlmibleoecgaaGreatDoorQ2
import Derived.Deep.RegionHeld3
namespace Go.Proofs.YtkjlmibleoecgaaGreatDoor
set_option linter.unusedSimpArgs false
set_option linter.unusedVariables false
open Go.RowKit
/-- A fraction's text. -/
def ratS (n d : Int) : ByteArray := if denZ d = 1 then numS n else (numS n ++ ⟨#[47]⟩) ++ numS d
theorem numS_size {z : Int} {k : Nat} (h : (dg B32 z.natAbs).length ≤ k) (h0 : 0 < k) : (numS z).size ≤ 10 * k + 1 := by
  have h1 := dec_len_of h h0
  have h2 : (decS z.natAbs).size = (Lib.decDigits z.natAbs).length := by rw [Lib.size_eq, decS_data]
  unfold numS
  split
  · rw [ByteArray.size_append]; show 1 + _ ≤ _; omega
  · omega
section
variable {w : World} {u v : Value} {n d n2 d2 : Int} {k j : Nat}
set_option maxRecDepth 100000 in
set_option maxHeartbeats 8000000 in
theorem qcmp_n (hx : RatB w u n d k) (hy : RatB w v n2 d2 k) (hk : k ≤ 15000) (hk2 : 2 ≤ k) :
    Calls Tryz.prog 62 #[u, v] w fun e w' => e = .returned (.int .i64 (cmpZ (n * denZ d2) (n2 * denZ d))) ∧ New w w' := by
  obtain ⟨A, l, c, A', l', c', rfl, hv, hv'⟩ := id hx
  obtain ⟨C, m, e, C', m', e', rfl, hu, hu'⟩ := id hy
  have hN := (((New.refl w).alloc (.cells #[.slice A l c, .bool (decide (n < 0)), .slice A' l' c', .bool (decide (d < 0))] NRat)).alloc (.cells #[.slice C m e, .bool (decide (n2 < 0)), .slice C' m' e', .bool (decide (d2 < 0))] NRat))
  have hB0 := ((Box.last w #[.slice A l c, .bool (decide (n < 0)), .slice A' l' c', .bool (decide (d < 0))] NRat).alloc (.cells #[.slice C m e, .bool (decide (n2 < 0)), .slice C' m' e', .bool (decide (d2 < 0))] NRat))
  have hB1 := Box.last2 w (.cells #[.slice A l c, .bool (decide (n < 0)), .slice A' l' c', .bool (decide (d < 0))] NRat) #[.slice C m e, .bool (decide (n2 < 0)), .slice C' m' e', .bool (decide (d2 < 0))] NRat
  have qx := hx.new hN
  have qy := hy.new hN
  have nx := hv.new hN
  have ny := hu.new hN
  have HN := Lib.hid hN
  have HB0 := Lib.hid hB0
  have HB1 := Lib.hid hB1
  clear hx hy hv hv' hu hu' hN hB0 hB1
  generalize decide (n < 0) = b at *
  generalize decide (d < 0) = b' at *
  generalize decide (n2 < 0) = f at *
  generalize decide (d2 < 0) = f' at *
  go_enter Tryz.func62, Tryz.ntmps62
  go_wp2
  generalize (w.alloc (.cells #[.slice A l c, .bool b, .slice A' l' c', .bool b'] NRat)).alloc (.cells #[.slice C m e, .bool f, .slice C' m' e', .bool f'] NRat) = W at *
  obtain ⟨hx0, hx1, hx2, hx3⟩ := HB0.out.cells4
  obtain ⟨hy0, hy1, hy2, hy3⟩ := HB1.out.cells4
  go_region_held3 (fun V => New W V ∧ V.cell? ⟨w.heap.size, 0, none⟩ = some (.slice A l c) ∧ V.cell? ⟨w.heap.size, 1, none⟩ = some (.bool b) ∧ V.cell? ⟨w.heap.size, 2, none⟩ = some (.slice A' l' c') ∧ V.cell? ⟨w.heap.size, 3, none⟩ = some (.bool b') ∧ V.cell? ⟨w.heap.size + 1, 0, none⟩ = some (.slice C m e) ∧ V.cell? ⟨w.heap.size + 1, 1, none⟩ = some (.bool f) ∧ V.cell? ⟨w.heap.size + 1, 2, none⟩ = some (.slice C' m' e') ∧ V.cell? ⟨w.heap.size + 1, 3, none⟩ = some (.bool f'))
    (first
      | exact ⟨(New.refl _).drew, by simpa using hx0, by simpa using hx1, by simpa using hx2, by simpa using hx3, by simpa using hy0, by simpa using hy1, by simpa using hy2, by simpa using hy3⟩
      | (go_split_ands; exact ⟨New.trans (by assumption) (by assumption), New.still (by assumption) (by assumption), New.still (by assumption) (by assumption), New.still (by assumption) (by assumption), New.still (by assumption) (by assumption), New.still (by assumption) (by assumption), New.still (by assumption) (by assumption), New.still (by assumption) (by assumption), New.still (by assumption) (by assumption)⟩)
      | (go_split_ands; exact ⟨by assumption, by assumption, by assumption, by assumption, by assumption, by assumption, by assumption, by assumption, by assumption⟩))
    ((rw [if_pos (by rfl)]; go_big_op; go_split_ands; first
      | (with_reducible (refine (cmp_n (by first | assumption | exact NumB.new (by assumption) (by first | exact New.refl _ | assumption | exact New.trans (by assumption) (by assumption) | exact New.trans (by assumption) (New.trans (by assumption) (by assumption)) | exact New.trans (by assumption) (New.trans (by assumption) (New.trans (by assumption) (by assumption))) | exact New.trans (by assumption) (New.trans (by assumption) (New.trans (by assumption) (New.trans (by assumption) (by assumption)))))) (by first | assumption | exact NumB.new (by assumption) (by first | exact New.refl _ | assumption | exact New.trans (by assumption) (by assumption) | exact New.trans (by assumption) (New.trans (by assumption) (by assumption)) | exact New.trans (by assumption) (New.trans (by assumption) (New.trans (by assumption) (by assumption))) | exact New.trans (by assumption) (New.trans (by assumption) (New.trans (by assumption) (New.trans (by assumption) (by assumption)))))) (by omega) (by omega)).mono ?_); rintro e w' ⟨rfl, hn⟩; dsimp only)
      | (with_reducible (refine (mul_n (by first | assumption | exact NumB.new (by assumption) (by first | exact New.refl _ | assumption | exact New.trans (by assumption) (by assumption) | exact New.trans (by assumption) (New.trans (by assumption) (by assumption)) | exact New.trans (by assumption) (New.trans (by assumption) (New.trans (by assumption) (by assumption))) | exact New.trans (by assumption) (New.trans (by assumption) (New.trans (by assumption) (New.trans (by assumption) (by assumption)))))) (by first | assumption | exact NumB.new (by assumption) (by first | exact New.refl _ | assumption | exact New.trans (by assumption) (by assumption) | exact New.trans (by assumption) (New.trans (by assumption) (by assumption)) | exact New.trans (by assumption) (New.trans (by assumption) (New.trans (by assumption) (by assumption))) | exact New.trans (by assumption) (New.trans (by assumption) (New.trans (by assumption) (New.trans (by assumption) (by assumption)))))) (by omega) (by omega)).mono ?_); rintro e w' ⟨v', rfl, hv', hn⟩; dsimp only)
      | (with_reducible (refine (den_n (by first | assumption | exact RatB.new (by assumption) (by first | exact New.refl _ | assumption | exact New.trans (by assumption) (by assumption) | exact New.trans (by assumption) (New.trans (by assumption) (by assumption)) | exact New.trans (by assumption) (New.trans (by assumption) (New.trans (by assumption) (by assumption))) | exact New.trans (by assumption) (New.trans (by assumption) (New.trans (by assumption) (New.trans (by assumption) (by assumption)))))) (by omega) hk2).mono ?_); rintro e w' ⟨v', rfl, hv', hn⟩; dsimp only)))
  all_goals
    go_split_ands
    rename_i hN _ _ _ _ _ _ _ _
    have HNF := Lib.hid (HN.out.trans hN)
    clear hN
    go_wp2_with fail
    go_ret
    exact ⟨rfl, HNF.out⟩
set_option maxRecDepth 100000 in
set_option maxHeartbeats 4000000 in
theorem qtext_n (hx : RatB w v n d k) (hk : k ≤ 15000) (hk2 : 2 ≤ k) (L : Lib.TabIs Tryz.prog w "internal/strconv.uint64pow10" .u64 Lib.pow10Tab) :
    Calls Tryz.prog 54 #[v] w fun e w' => e = .returned (.string (ratS n d)) ∧ New w w' := by
  obtain ⟨A, l, c, A', l', c', rfl, hv, hv'⟩ := id hx
  have hN := ((New.refl w).alloc (.cells #[.slice A l c, .bool (decide (n < 0)), .slice A' l' c', .bool (decide (d < 0))] NRat))
  have hB0 := (Box.last w #[.slice A l c, .bool (decide (n < 0)), .slice A' l' c', .bool (decide (d < 0))] NRat)
  have qx := hx.new hN
  have nx := hv.new hN
  have dx := hv'.new hN
  have hs1 := numS_size (k := k) hv.k (by omega)
  have hs2 := numS_size (k := k) hv'.k (by omega)
  have HN := Lib.hid hN
  have HB0 := Lib.hid hB0
  have HDN := Lib.hid (fun W v (h : RatB W v n d k) => den_n h (by omega) hk2)
  have HON := Lib.hid one_n
  have hcm := fun W u v (h : NumB W u (denZ d) k) (h2 : NumB W v 1 2) => cmp_n h h2 (by omega) (by omega)
  clear hx hv hv' hN hB0
  by_cases h : denZ d = 1
  · have e1 : ratS n d = numS n := by unfold ratS; rw [if_pos h]
    rw [show cmpZ (denZ d) 1 = 0 by unfold cmpZ; rw [if_neg (by omega), if_neg (by omega)]] at hcm
    have HCM := Lib.hid hcm
    rw [e1]
    clear e1 h hcm hs1 hs2
    generalize decide (n < 0) = b at *
    generalize decide (d < 0) = b' at *
    go_enter Tryz.func54, Tryz.ntmps54
    go_wp2_with fail
    refine (HDN.out _ _ qx).mono ?_
    rintro e w1 ⟨v1, rfl, hv1, hn1⟩
    have HV1 := Lib.hid hv1
    have HN1 := Lib.hid (HN.out.trans hn1)
    have ST1 := Lib.hid (show Box w1 _ _ _ ∧ NumB w1 _ n k ∧ NumB w1 _ d k from ⟨HB0.out.new hn1, nx.new hn1, dx.new hn1⟩)
    clear hv1 hn1 qx nx dx HB0 HN HDN
    go_wp2_with fail
    refine (HON.out _).mono ?_
    rintro e w2 ⟨v2, rfl, hv2, hn2⟩
    have HV2 := Lib.hid (show NumB w2 v1 (denZ d) k ∧ NumB w2 v2 1 2 from ⟨HV1.out.new hn2, hv2⟩)
    have HN2 := Lib.hid (HN1.out.trans hn2)
    have ST1b := Lib.hid (show Box w2 _ _ _ ∧ NumB w2 _ n k ∧ NumB w2 _ d k from ⟨ST1.out.1.new hn2, ST1.out.2.1.new hn2, ST1.out.2.2.new hn2⟩)
    clear hv2 hn2 ST1 HV1 HN1 HON
    go_wp2_with fail
    refine (HCM.out _ _ _ HV2.out.1 HV2.out.2).mono ?_
    rintro e w3 ⟨rfl, hn3⟩
    have HN3 := Lib.hid (HN2.out.trans hn3)
    have ST2 := Lib.hid (show Box w3 _ _ _ ∧ NumB w3 _ n k from ⟨ST1b.out.1.new hn3, ST1b.out.2.1.new hn3⟩)
    have ST2b := Lib.hid (ST1b.out.2.2.new hn3)
    clear hn3 ST1b HV2 HN2 HCM
    obtain ⟨m0, m1, m2, m3⟩ := ST2.out.1.cells4
    go_wp2_with fail
    refine (text_n ST2.out.2 (by omega) (tabIs_new HN3.out L)).mono ?_
    rintro e w4 ⟨rfl, hn4⟩
    have HN4 := Lib.hid (HN3.out.trans hn4)
    clear hn4
    go_wp2_with fail
    go_ret
    exact ⟨rfl, HN4.out⟩
  · have e1 : ratS n d = (numS n ++ ⟨#[47]⟩) ++ numS d := by unfold ratS; rw [if_neg h]
    obtain ⟨s, hs⟩ : ∃ s, cmpZ (denZ d) 1 = s := ⟨_, rfl⟩
    have hs0 : (s == 0) = false := by rw [beq_eq_false_iff_ne, ← hs]; unfold cmpZ; (repeat' split) <;> omega
    rw [hs] at hcm
    have HCM := Lib.hid hcm
    rw [e1]
    have HT1 := Lib.hid (fun W v (h : NumB W v n k) (hn : New w W) => text_n h (by omega) (tabIs_new hn L))
    have HT2 := Lib.hid (fun W v (h : NumB W v d k) (hn : New w W) => text_n h (by omega) (tabIs_new hn L))
    generalize hsa : numS n = sa at *
    generalize hsb : numS d = sb at *
    have hz1 : ¬ 9223372036854775807 < sa.size + 1 := by omega
    have hz2 : (sa ++ (⟨#[47]⟩ : ByteArray)).size = sa.size + 1 := by rw [ByteArray.size_append]; rfl
    have hz3 : ¬ 9223372036854775807 < sa.size + 1 + sb.size := by omega
    clear e1 h hcm hs L hsa hsb hs1 hs2
    generalize decide (n < 0) = b at *
    generalize decide (d < 0) = b' at *
    go_enter Tryz.func54, Tryz.ntmps54
    go_wp2_with fail
    refine (HDN.out _ _ qx).mono ?_
    rintro e w1 ⟨v1, rfl, hv1, hn1⟩
    have HV1 := Lib.hid hv1
    have HN1 := Lib.hid (HN.out.trans hn1)
    have ST1 := Lib.hid (show Box w1 _ _ _ ∧ NumB w1 _ n k ∧ NumB w1 _ d k from ⟨HB0.out.new hn1, nx.new hn1, dx.new hn1⟩)
    clear hv1 hn1 qx nx dx HB0 HN HDN
    go_wp2_with fail
    refine (HON.out _).mono ?_
    rintro e w2 ⟨v2, rfl, hv2, hn2⟩
    have HV2 := Lib.hid (show NumB w2 v1 (denZ d) k ∧ NumB w2 v2 1 2 from ⟨HV1.out.new hn2, hv2⟩)
    have HN2 := Lib.hid (HN1.out.trans hn2)
    have ST1b := Lib.hid (show Box w2 _ _ _ ∧ NumB w2 _ n k ∧ NumB w2 _ d k from ⟨ST1.out.1.new hn2, ST1.out.2.1.new hn2, ST1.out.2.2.new hn2⟩)
    clear hv2 hn2 ST1 HV1 HN1 HON
    go_wp2_with fail
    refine (HCM.out _ _ _ HV2.out.1 HV2.out.2).mono ?_
    rintro e w3 ⟨rfl, hn3⟩
    have HN3 := Lib.hid (HN2.out.trans hn3)
    have ST2 := Lib.hid (show Box w3 _ _ _ ∧ NumB w3 _ n k from ⟨ST1b.out.1.new hn3, ST1b.out.2.1.new hn3⟩)
    have ST2b := Lib.hid (ST1b.out.2.2.new hn3)
    clear hn3 ST1b HV2 HN2 HCM
    obtain ⟨m0, m1, m2, m3⟩ := ST2.out.1.cells4
    go_wp2_with fail
    go_region_law ((rw [if_pos (by rfl)]; (first | go_big_op | go_simp); first
      | (with_reducible (refine (HT2.out _ _ (dw.new hn5) (hnw.trans hn5)).mono ?_); rintro e w6 ⟨rfl, hn6⟩; have hnx := (hnw.trans hn5).trans hn6)
      | (with_reducible (refine (HT1.out _ _ (ST2.out.2.new (New.refl _).drew) HN3.out.drew).mono ?_); rintro e w5 ⟨rfl, hn5'⟩; have hn5 := (New.refl _).drew.trans hn5'; have hnw := HN3.out; have dw := ST2b.out; have r0 := hn5.still m0; have r1 := hn5.still m1; have r2 := hn5.still m2; have r3 := hn5.still m3)))
    all_goals
      have HN6 := Lib.hid hnx
      clear hnx hn5 hn6 hn5' hnw dw
      go_wp2
      go_ret
      exact ⟨rfl, HN6.out⟩
end
end Go.Proofs.YtkjlmibleoecgaaGreatDoor
