/- The laws of 02: NumSigns, walked. (Printed by mkn5.py.) -/
import Derived.Test.YtkjlmibleoecgaaGreatDoorLw
import Derived.Test.YtkjlmibleoecgaaGreatDoorN4
namespace Go.Proofs.YtkjlmibleoecgaaGreatDoor
set_option linter.unusedSimpArgs false
set_option linter.unusedVariables false
open Go.RowKit
theorem sgZ_neg (x : Int) : sgZ (-x) = - sgZ x := by unfold sgZ; (repeat' split) <;> omega
theorem numS_head {x : Int} {a : ByteArray} (h : numS x = a) : ∃ h0 : 0 < a.size, (((a[0]'h0).toNat : Int) == 45) = decide (x < 0) := by
  have hd : ∀ n : Nat, ∃ c, (decS n).data.toList.head? = some c ∧ c.toNat ≠ 45 := by
    intro n
    rw [decS_data]
    have hne : Lib.decDigits n ≠ [] := dec_ne n
    cases hc : Lib.decDigits n with
    | nil => exact absurd hc hne
    | cons c r =>
      refine ⟨c, rfl, ?_⟩
      have h3 := dec_dig n
      rw [hc, List.all_cons, Bool.and_eq_true] at h3
      have h4 := h3.1
      unfold dig at h4
      simp only [Bool.and_eq_true, decide_eq_true_eq] at h4
      omega
  have key : ∃ c, a.data.toList.head? = some c ∧ ((c.toNat : Int) == 45) = decide (x < 0) := by
    subst h
    unfold numS
    by_cases hx : x < 0
    · rw [if_pos hx]
      refine ⟨45, rfl, ?_⟩
      rw [decide_eq_true hx]; rfl
    · rw [if_neg hx]
      obtain ⟨c, h1, h2⟩ := hd x.natAbs
      refine ⟨c, h1, ?_⟩
      rw [decide_eq_false hx, beq_eq_false_iff_ne]; omega
  obtain ⟨c, h1, h2⟩ := key
  have h0 : 0 < a.size := by
    rw [Lib.size_eq]
    cases hl : a.data.toList with
    | nil => rw [hl] at h1; cases h1
    | cons _ _ => simp
  refine ⟨h0, ?_⟩
  rw [head_get h0] at h1
  injection h1 with h1
  rw [h1]; exact h2
theorem decS_zero' : decS 0 = ⟨#[48]⟩ := by unfold decS; rw [dec_small (by omega)]; rfl
theorem numS_zero {x : Int} {a : ByteArray} (h : numS x = a) : (a.toList == [48]) = (sgZ x == 0) := by
  obtain ⟨h0, h1⟩ := numS_head h
  subst h
  by_cases hx : x = 0
  · subst hx; 
    rw [show numS 0 = decS 0 from rfl, decS_zero', Lib.toList_data]; rfl
  · have hs : (sgZ x == 0) = false := by rw [beq_eq_false_iff_ne]; unfold sgZ; (repeat' split) <;> omega
    rw [hs, beq_eq_false_iff_ne]
    intro e
    by_cases hn : x < 0
    · unfold numS at e; rw [if_pos hn, Lib.toList_data, ByteArray.data_append, Array.toList_append] at e
      exact absurd e (by simp)
    · unfold numS at e; rw [if_neg hn, Lib.toList_data] at e
      have h48 : (decS 0).data.toList = [48] := by rw [decS_zero']
      have := decS_inj (data_inj0 (e.trans h48.symm))
      omega
set_option maxRecDepth 1000000 in
set_option maxHeartbeats 8000000 in
theorem numSigns_walk (a b : ByteArray) (w : World) (L : Lib.TabIs Tryz.prog w "internal/strconv.uint64pow10" .u64 Lib.pow10Tab) :
    Calls Tryz.prog 6 #[.string a, .string b] w fun e w' => e = .returned (.bool true) ∧ Below w.heap.size w w' := by
  have HTAB := Lib.hid L
  clear L
  go_enter Tryz.func6, Tryz.ntmps6
  go_wp2_with fail
  have hbx := Box.last w #[.string a, .string b] 9
  refine (long_n [a, b] _ 2 2 _ rfl (fun i hi => by
    rw [hbx.cell]
    match i, hi with
    | 0, _ => rfl
    | 1, _ => rfl) hbx.lt (by decide) (by decide)).mono ?_
  rintro e w1 ⟨r, rfl, hr, hn1⟩
  have hn1' : New w w1 := ((New.refl w).alloc _).trans hn1
  clear hbx hn1
  cases r with
  | true =>
    go_wp2
    go_ret
    exact ⟨rfl, hn1'⟩
  | false =>
    have hz := hr rfl
    have ha : a.size ≤ 512 := hz a (by simp)
    have hb : b.size ≤ 512 := hz b (by simp)
    have H1 := Lib.hid (fun W => number_n a W (by omega))
    have H2 := Lib.hid (fun W => number_n b W (by omega))
    have HN1 := Lib.hid hn1'
    clear hz hr hn1'
    go_wp2_with fail
    refine (H1.out _).mono ?_
    rintro e w2 ⟨v1, u1, rfl, hv1, hu1, hn⟩
    obtain ⟨A1, l1, c1, rfl, _⟩ := hv1.form
    obtain ⟨bb1, B1, m1, d1, rfl⟩ := hu1.form
    generalize hb1e : decide (zNum a.data.toList < 0) = b1 at *
    have HB1 := Lib.hid hb1e
    have hnn := (hn.alloc (.cells #[.slice A1 l1 c1, .bool b1] NNum)).alloc (.cells #[.bool bb1, .slice B1 m1 d1] RNum)
    have T1 := Lib.hid (NY.last (.cells #[.bool bb1, .slice B1 m1 d1] RNum) hv1)
    have R1 := Lib.hid (RY.last2 (.cells #[.slice A1 l1 c1, .bool b1] NNum) hu1)
    have HN2 := Lib.hid (HN1.out.trans hnn)
    clear hv1 hu1 hn hnn hb1e HN1
    go_wp2_with fail
    refine (H2.out _).mono ?_
    rintro e w3 ⟨v2, u2, rfl, hv2, hu2, hn⟩
    obtain ⟨A2, l2, c2, rfl, _⟩ := hv2.form
    obtain ⟨bb2, B2, m2, d2, rfl⟩ := hu2.form
    generalize hb2e : decide (zNum b.data.toList < 0) = b2 at *
    have HB2 := Lib.hid hb2e
    have hnn := (hn.alloc (.cells #[.slice A2 l2 c2, .bool b2] NNum)).alloc (.cells #[.bool bb2, .slice B2 m2 d2] RNum)
    have T2 := Lib.hid (NY.last (.cells #[.bool bb2, .slice B2 m2 d2] RNum) hv2)
    have R2 := Lib.hid (RY.last2 (.cells #[.slice A2 l2 c2, .bool b2] NNum) hu2)
    replace T1 := Lib.hid (T1.out.new hnn)
    replace R1 := Lib.hid (R1.out.new hnn)
    have HN3 := Lib.hid (HN2.out.trans hnn)
    clear hv2 hu2 hn hnn hb2e HN2
    clear H1 H2
    obtain ⟨hx1, hy1⟩ := T1.out.cells
    obtain ⟨hx2, hy2⟩ := T2.out.cells
    cases i1 : isZ a.data.toList with
    | false => go_wp2_with fail; go_ret; exact ⟨rfl, HN3.out⟩
    | true =>
    cases i2 : isZ b.data.toList with
    | false => go_wp2_with fail; go_ret; exact ⟨rfl, HN3.out⟩
    | true =>
      have E1 : numS (zNum a.data.toList) = a := zNum_text i1
      have hk1 : (dg B9 (zNum a.data.toList).natAbs).length ≤ 512 := Nat.le_trans (zNum_len (by decide)) (by rw [← Lib.size_eq]; omega)
      have E2 : numS (zNum b.data.toList) = b := zNum_text i2
      have hk2 : (dg B9 (zNum b.data.toList).natAbs).length ≤ 512 := Nat.le_trans (zNum_len (by decide)) (by rw [← Lib.size_eq]; omega)
      generalize zNum a.data.toList = x at *
      have HE1 := Lib.hid E1
      have HK1 := Lib.hid hk1
      generalize zNum b.data.toList = y at *
      have HE2 := Lib.hid E2
      have HK2 := Lib.hid hk2
      clear E1 hk1 i1 E2 hk2 i2
      obtain ⟨hpos, hhd⟩ := numS_head HE1.out
      have hzz := numS_zero HE1.out
      generalize hs0 : sgZ x = s at *
      have hsb := sgZ_bound x
      rw [hs0] at hsb
      have hd1 : decide (x < 0) = decide (s < 0) := by rw [← hs0]; unfold sgZ; (repeat' split) <;> simp <;> omega
      rw [hd1] at hhd
      have hw1 : IntKind.i64.wrap (-s) = -s := IntWalk.i64_in _ (by omega)
      have S0 := Lib.hid hs0
      have S1 : Hid (sgZ (-x) = -s) := Lib.hid (by rw [sgZ_neg, hs0])
      have S2 : Hid (sgZ (x + -x) = 0) := Lib.hid (by rw [Int.add_right_neg]; rfl)
      obtain ⟨t1, ht1⟩ : ∃ t, decS x.natAbs = t := ⟨_, rfl⟩
      obtain ⟨t2, ht2⟩ : ∃ t, numS (-(x * y)) = t := ⟨_, rfl⟩
      obtain ⟨t3, ht3⟩ : ∃ t, numS (x - y) = t := ⟨_, rfl⟩
      obtain ⟨s4, hs4⟩ : ∃ t, sgZ (x * x) = t := ⟨_, rfl⟩
      have hp4 : 0 ≤ s4 := by rw [← hs4, sgZ_mul]; have := sgZ_bound x; (rcases (show sgZ x = -1 ∨ sgZ x = 0 ∨ sgZ x = 1 by omega) with h | h | h <;> rw [h] <;> decide)
      have D1 := Lib.hid ht1
      have D2 : Hid (decS (-x).natAbs = t1) := Lib.hid (by rw [Int.natAbs_neg, ht1])
      have N1 := Lib.hid ht2
      have N2 : Hid (numS (-x * y) = t2) := Lib.hid (by rw [Int.neg_mul, ht2])
      have N3 := Lib.hid ht3
      have N4 : Hid (numS (-(y - x)) = t3) := Lib.hid (by rw [show -(y - x) = x - y by omega, ht3])
      have S4 := Lib.hid hs4
      have G1 := Lib.hid (show - -x = x by omega)
      clear ht1 ht2 ht3 hs4 hs0 hsb hd1 HE1 HE2 HK1 HK2
      go_wp2_with fail
      generalize hW : (w3.alloc (.cells #[.slice A2 l2 c2, .bool b2] NNum)).alloc (.cells #[.bool bb2, .slice B2 m2 d2] RNum) = W at *
      generalize hp1 : w2.heap.size = p1 at *
      generalize hp2 : w3.heap.size = p2 at *
      generalize hq1 : p1 + 1 = q1 at *
      generalize hq2 : p2 + 1 = q2 at *
      clear hW hp1 hq1 hp2 hq2
      refine (neg_n T1.out.nx (by omega)).mono ?_
      rintro e w4 ⟨v4, rfl, hv4, hn4⟩
      obtain ⟨A4, l4, c4, rfl, _⟩ := hv4.form
      generalize decide (-x < 0) = b4 at *
      have hn4' := hn4.alloc (.cells #[.slice A4 l4 c4, .bool b4] NNum)
      have nb4 := hv4.new ((New.refl w4).alloc (.cells #[.slice A4 l4 c4, .bool b4] NNum))
      have nb1 := (T1.out.new hn4').nx
      have nb2 := (T2.out.new hn4').nx
      replace hx1 := hn4'.still hx1
      replace hy1 := hn4'.still hy1
      replace hx2 := hn4'.still hx2
      replace hy2 := hn4'.still hy2
      obtain ⟨hx4, hy4⟩ := (Box.last w4 #[.slice A4 l4 c4, .bool b4] NNum).cells2
      have HN4 := Lib.hid (HN3.out.trans hn4')
      clear HN3 hn4 hn4' hv4 T1 T2 R1 R2
      have htab := tabIs_new HN4.out HTAB.out
      go_wp2_with fail
      generalize hp4e : w4.heap.size = p4 at *
      generalize hW4 : w4.alloc (.cells #[.slice A4 l4 c4, .bool b4] NNum) = W4 at *
      clear hp4e hW4
      have HTB := Lib.hid htab
      clear htab
      go_wp2
      try simp only [List.append_eq, List.cons_append, List.nil_append]
      go_region_held3 (fun V => New W4 V ∧ V.cell? ⟨p1, 0, none⟩ = some (.slice A1 l1 c1) ∧ V.cell? ⟨p1, 1, none⟩ = some (.bool b1) ∧ V.cell? ⟨p2, 0, none⟩ = some (.slice A2 l2 c2) ∧ V.cell? ⟨p2, 1, none⟩ = some (.bool b2) ∧ V.cell? ⟨p4, 0, none⟩ = some (.slice A4 l4 c4) ∧ V.cell? ⟨p4, 1, none⟩ = some (.bool b4))
        (first
          | exact ⟨(New.refl _).drew, by simpa using hx1, by simpa using hy1, by simpa using hx2, by simpa using hy2, by simpa using hx4, by simpa using hy4⟩
          | (go_split_ands; exact ⟨New.trans (by assumption) (by assumption), New.still (by assumption) (by assumption), New.still (by assumption) (by assumption), New.still (by assumption) (by assumption), New.still (by assumption) (by assumption), New.still (by assumption) (by assumption), New.still (by assumption) (by assumption)⟩)
          | (go_split_ands; exact ⟨by assumption, by assumption, by assumption, by assumption, by assumption, by assumption, by assumption⟩))
        ((rw [if_pos (by rfl)]; go_big_op; go_split_ands; first
          | (with_reducible (refine (text_s (by first | assumption | exact NatB.new (by assumption) (by first | exact New.refl _ | assumption | exact New.trans (by assumption) (by assumption) | exact New.trans (by assumption) (New.trans (by assumption) (by assumption)) | exact New.trans (by assumption) (New.trans (by assumption) (New.trans (by assumption) (by assumption))) | exact New.trans (by assumption) (New.trans (by assumption) (New.trans (by assumption) (New.trans (by assumption) (by assumption)))))) (by omega) (tabIs_new (by first | exact New.refl _ | assumption | exact New.trans (by assumption) (by assumption) | exact New.trans (by assumption) (New.trans (by assumption) (by assumption)) | exact New.trans (by assumption) (New.trans (by assumption) (New.trans (by assumption) (by assumption))) | exact New.trans (by assumption) (New.trans (by assumption) (New.trans (by assumption) (New.trans (by assumption) (by assumption))))) HTB.out) (Hid.out (by assumption))).mono ?_); rintro e w' ⟨rfl, hn⟩; dsimp only)
          | (with_reducible (refine (text_nv _ (by first | assumption | exact NumB.new (by assumption) (by first | exact New.refl _ | assumption | exact New.trans (by assumption) (by assumption) | exact New.trans (by assumption) (New.trans (by assumption) (by assumption)) | exact New.trans (by assumption) (New.trans (by assumption) (New.trans (by assumption) (by assumption))) | exact New.trans (by assumption) (New.trans (by assumption) (New.trans (by assumption) (New.trans (by assumption) (by assumption)))))) (by omega) (tabIs_new (by first | exact New.refl _ | assumption | exact New.trans (by assumption) (by assumption) | exact New.trans (by assumption) (New.trans (by assumption) (by assumption)) | exact New.trans (by assumption) (New.trans (by assumption) (New.trans (by assumption) (by assumption))) | exact New.trans (by assumption) (New.trans (by assumption) (New.trans (by assumption) (New.trans (by assumption) (by assumption))))) HTB.out) (Hid.out (by assumption))).mono ?_); rintro e w' ⟨rfl, hn⟩; dsimp only)
          | (with_reducible (refine (sign_v _ (by first | assumption | exact NumB.new (by assumption) (by first | exact New.refl _ | assumption | exact New.trans (by assumption) (by assumption) | exact New.trans (by assumption) (New.trans (by assumption) (by assumption)) | exact New.trans (by assumption) (New.trans (by assumption) (New.trans (by assumption) (by assumption))) | exact New.trans (by assumption) (New.trans (by assumption) (New.trans (by assumption) (New.trans (by assumption) (by assumption)))))) (by omega) (Hid.out (by assumption))).mono ?_); rintro e w' ⟨rfl, hn⟩; dsimp only)
          | (with_reducible (refine (neg_n (by first | assumption | exact NumB.new (by assumption) (by first | exact New.refl _ | assumption | exact New.trans (by assumption) (by assumption) | exact New.trans (by assumption) (New.trans (by assumption) (by assumption)) | exact New.trans (by assumption) (New.trans (by assumption) (New.trans (by assumption) (by assumption))) | exact New.trans (by assumption) (New.trans (by assumption) (New.trans (by assumption) (New.trans (by assumption) (by assumption)))))) (by omega)).mono ?_); rintro e w' ⟨v', rfl, hv', hn⟩; dsimp only)
          | (with_reducible (refine (abs_n (by first | assumption | exact NumB.new (by assumption) (by first | exact New.refl _ | assumption | exact New.trans (by assumption) (by assumption) | exact New.trans (by assumption) (New.trans (by assumption) (by assumption)) | exact New.trans (by assumption) (New.trans (by assumption) (New.trans (by assumption) (by assumption))) | exact New.trans (by assumption) (New.trans (by assumption) (New.trans (by assumption) (New.trans (by assumption) (by assumption))))))).mono ?_); rintro e w' ⟨v', rfl, hv', hn⟩; dsimp only)
          | (with_reducible (refine (sub_n (by first | assumption | exact NumB.new (by assumption) (by first | exact New.refl _ | assumption | exact New.trans (by assumption) (by assumption) | exact New.trans (by assumption) (New.trans (by assumption) (by assumption)) | exact New.trans (by assumption) (New.trans (by assumption) (New.trans (by assumption) (by assumption))) | exact New.trans (by assumption) (New.trans (by assumption) (New.trans (by assumption) (New.trans (by assumption) (by assumption)))))) (by first | assumption | exact NumB.new (by assumption) (by first | exact New.refl _ | assumption | exact New.trans (by assumption) (by assumption) | exact New.trans (by assumption) (New.trans (by assumption) (by assumption)) | exact New.trans (by assumption) (New.trans (by assumption) (New.trans (by assumption) (by assumption))) | exact New.trans (by assumption) (New.trans (by assumption) (New.trans (by assumption) (New.trans (by assumption) (by assumption)))))) (by omega) (by omega)).mono ?_); rintro e w' ⟨v', rfl, hv', hn⟩; dsimp only)
          | (with_reducible (refine (add_n (by first | assumption | exact NumB.new (by assumption) (by first | exact New.refl _ | assumption | exact New.trans (by assumption) (by assumption) | exact New.trans (by assumption) (New.trans (by assumption) (by assumption)) | exact New.trans (by assumption) (New.trans (by assumption) (New.trans (by assumption) (by assumption))) | exact New.trans (by assumption) (New.trans (by assumption) (New.trans (by assumption) (New.trans (by assumption) (by assumption)))))) (by first | assumption | exact NumB.new (by assumption) (by first | exact New.refl _ | assumption | exact New.trans (by assumption) (by assumption) | exact New.trans (by assumption) (New.trans (by assumption) (by assumption)) | exact New.trans (by assumption) (New.trans (by assumption) (New.trans (by assumption) (by assumption))) | exact New.trans (by assumption) (New.trans (by assumption) (New.trans (by assumption) (New.trans (by assumption) (by assumption)))))) (by omega) (by omega)).mono ?_); rintro e w' ⟨v', rfl, hv', hn⟩; dsimp only)
          | (with_reducible (refine (mul_n (by first | assumption | exact NumB.new (by assumption) (by first | exact New.refl _ | assumption | exact New.trans (by assumption) (by assumption) | exact New.trans (by assumption) (New.trans (by assumption) (by assumption)) | exact New.trans (by assumption) (New.trans (by assumption) (New.trans (by assumption) (by assumption))) | exact New.trans (by assumption) (New.trans (by assumption) (New.trans (by assumption) (New.trans (by assumption) (by assumption)))))) (by first | assumption | exact NumB.new (by assumption) (by first | exact New.refl _ | assumption | exact New.trans (by assumption) (by assumption) | exact New.trans (by assumption) (New.trans (by assumption) (by assumption)) | exact New.trans (by assumption) (New.trans (by assumption) (New.trans (by assumption) (by assumption))) | exact New.trans (by assumption) (New.trans (by assumption) (New.trans (by assumption) (New.trans (by assumption) (by assumption)))))) (by omega) (by omega)).mono ?_); rintro e w' ⟨v', rfl, hv', hn⟩; dsimp only)))
      go_split_ands
      rename_i hN hx1' hy1' hx2' hy2' hx4' hy4'
      clear hx1 hy1 hx2 hy2 hx4 hy4
      go_wp2_with fail
      go_wp2
      try simp only [List.append_eq, List.cons_append, List.nil_append]
      go_region_held3 (fun V => New W4 V ∧ V.cell? ⟨p1, 0, none⟩ = some (.slice A1 l1 c1) ∧ V.cell? ⟨p1, 1, none⟩ = some (.bool b1) ∧ V.cell? ⟨p2, 0, none⟩ = some (.slice A2 l2 c2) ∧ V.cell? ⟨p2, 1, none⟩ = some (.bool b2) ∧ V.cell? ⟨p4, 0, none⟩ = some (.slice A4 l4 c4) ∧ V.cell? ⟨p4, 1, none⟩ = some (.bool b4))
        (first
          | exact ⟨hN.drew, by simpa using hx1', by simpa using hy1', by simpa using hx2', by simpa using hy2', by simpa using hx4', by simpa using hy4'⟩
          | (go_split_ands; exact ⟨New.trans (by assumption) (by assumption), New.still (by assumption) (by assumption), New.still (by assumption) (by assumption), New.still (by assumption) (by assumption), New.still (by assumption) (by assumption), New.still (by assumption) (by assumption), New.still (by assumption) (by assumption)⟩)
          | (go_split_ands; exact ⟨by assumption, by assumption, by assumption, by assumption, by assumption, by assumption, by assumption⟩))
        ((rw [if_pos (by rfl)]; go_big_op; go_split_ands; first
          | (with_reducible (refine (cmp_zero (by first | assumption | exact NumB.new (by assumption) (by first | exact New.refl _ | assumption | exact New.trans (by assumption) (by assumption) | exact New.trans (by assumption) (New.trans (by assumption) (by assumption)) | exact New.trans (by assumption) (New.trans (by assumption) (New.trans (by assumption) (by assumption))) | exact New.trans (by assumption) (New.trans (by assumption) (New.trans (by assumption) (New.trans (by assumption) (by assumption)))))) (by first | assumption | exact NumB.new (by assumption) (by first | exact New.refl _ | assumption | exact New.trans (by assumption) (by assumption) | exact New.trans (by assumption) (New.trans (by assumption) (by assumption)) | exact New.trans (by assumption) (New.trans (by assumption) (New.trans (by assumption) (by assumption))) | exact New.trans (by assumption) (New.trans (by assumption) (New.trans (by assumption) (New.trans (by assumption) (by assumption)))))) (by omega) (by omega) (Hid.out (by assumption))).mono ?_); rintro e w' ⟨rfl, hn⟩; dsimp only)
          | (with_reducible (refine (sign_v _ (by first | assumption | exact NumB.new (by assumption) (by first | exact New.refl _ | assumption | exact New.trans (by assumption) (by assumption) | exact New.trans (by assumption) (New.trans (by assumption) (by assumption)) | exact New.trans (by assumption) (New.trans (by assumption) (New.trans (by assumption) (by assumption))) | exact New.trans (by assumption) (New.trans (by assumption) (New.trans (by assumption) (New.trans (by assumption) (by assumption)))))) (by omega) (Hid.out (by assumption))).mono ?_); rintro e w' ⟨rfl, hn⟩; dsimp only)
          | (with_reducible (refine (neg_n (by first | assumption | exact NumB.new (by assumption) (by first | exact New.refl _ | assumption | exact New.trans (by assumption) (by assumption) | exact New.trans (by assumption) (New.trans (by assumption) (by assumption)) | exact New.trans (by assumption) (New.trans (by assumption) (New.trans (by assumption) (by assumption))) | exact New.trans (by assumption) (New.trans (by assumption) (New.trans (by assumption) (New.trans (by assumption) (by assumption)))))) (by omega)).mono ?_); rintro e w' ⟨v', rfl, hv', hn⟩; dsimp only)
          | (with_reducible (refine (mul_n (by first | assumption | exact NumB.new (by assumption) (by first | exact New.refl _ | assumption | exact New.trans (by assumption) (by assumption) | exact New.trans (by assumption) (New.trans (by assumption) (by assumption)) | exact New.trans (by assumption) (New.trans (by assumption) (New.trans (by assumption) (by assumption))) | exact New.trans (by assumption) (New.trans (by assumption) (New.trans (by assumption) (New.trans (by assumption) (by assumption)))))) (by first | assumption | exact NumB.new (by assumption) (by first | exact New.refl _ | assumption | exact New.trans (by assumption) (by assumption) | exact New.trans (by assumption) (New.trans (by assumption) (by assumption)) | exact New.trans (by assumption) (New.trans (by assumption) (New.trans (by assumption) (by assumption))) | exact New.trans (by assumption) (New.trans (by assumption) (New.trans (by assumption) (New.trans (by assumption) (by assumption)))))) (by omega) (by omega)).mono ?_); rintro e w' ⟨v', rfl, hv', hn⟩; dsimp only)))
      all_goals
        go_split_ands
        rename_i hN2 _ _ _ _ _ _
        have HNF := Lib.hid (HN4.out.trans hN2)
        clear hN hN2
        go_wp2_with fail
        go_ret
        first | exact ⟨rfl, HNF.out⟩ | exact ⟨by simp, HNF.out⟩
end Go.Proofs.YtkjlmibleoecgaaGreatDoor
