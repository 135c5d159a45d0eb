/- The laws of 02: NumBack, walked. (Printed by mkn2.py.) -/
import Derived.Test.YtkjlmibleoecgaaDoorLw
import Derived.Test.YtkjlmibleoecgaaDoorZ10
import Derived.Test.YtkjlmibleoecgaaDoorConD
namespace Go.Proofs.YtkjlmibleoecgaaDoor
set_option linter.unusedSimpArgs false
set_option linter.unusedVariables false
open Go.RowKit
theorem remI_back {x y : Int} (h : y ≠ 0) : x.tdiv y * y + remI x y = x := by
  unfold remI; rw [if_neg h]; have := Int.tmod_add_mul_tdiv x y; rw [Int.mul_comm] at this; omega
theorem fr_back {x y : Int} (h : y ≠ 0) : fq x y * y + fr x y = x := by
  have := remI_back (x := x) h
  unfold fq fr
  split
  · rw [Int.sub_mul, Int.one_mul]; omega
  · exact this
theorem remI_lt {x y : Int} (h : y ≠ 0) : (remI x y).natAbs < y.natAbs := by
  unfold remI; rw [if_neg h, Int.natAbs_tmod]; exact Nat.mod_lt _ (by omega)
theorem fr_lt {x y : Int} (h : y ≠ 0) : (fr x y).natAbs < y.natAbs := by
  have := remI_lt (x := x) h
  unfold fr stepZ
  by_cases h0 : remI x y = 0
  · simp [h0]; omega
  · by_cases h1 : remI x y < 0 <;> by_cases h2 : y < 0 <;> simp [h0, h1, h2] <;> omega
theorem remI_sign {x y : Int} (h : y ≠ 0) : (0 ≤ x ∧ 0 ≤ remI x y) ∨ (x < 0 ∧ remI x y ≤ 0) := by
  unfold remI; rw [if_neg h]
  rcases Int.lt_or_le x 0 with h1 | h1
  · right
    refine ⟨h1, ?_⟩
    have := Int.tmod_nonneg y (show 0 ≤ -x by omega)
    rw [Int.neg_tmod] at this
    omega
  · exact .inl ⟨h1, Int.tmod_nonneg y h1⟩
theorem fr_sign {x y : Int} (h : y ≠ 0) : (0 < y ∧ 0 ≤ fr x y) ∨ (y < 0 ∧ fr x y ≤ 0) := by
  have := remI_lt (x := x) h
  unfold fr stepZ
  by_cases h0 : remI x y = 0
  · simp [h0]; omega
  · by_cases h1 : remI x y < 0 <;> by_cases h2 : y < 0 <;> simp [h0, h1, h2] <;> omega
theorem sg_mul {a b : Int} (h : (0 ≤ a ∧ 0 ≤ b) ∨ (a ≤ 0 ∧ b ≤ 0)) : 0 ≤ sgZ a * sgZ b ∧ sgZ a * sgZ b ≤ 1 := by
  unfold sgZ
  (repeat' split) <;> first | omega | decide
set_option maxRecDepth 1000000 in
set_option maxHeartbeats 8000000 in
theorem numBack_walk (a b : ByteArray) (w : World) :
    Calls Tryd.prog 3 #[.string a, .string b] w fun e w' => e = .returned (.bool true) ∧ Below w.heap.size w w' := by
  go_enter Tryd.func3, Tryd.ntmps3
  go_wp2_with fail
  have hbx := Box.last w #[.string a, .string b] 9
  refine (long_n [a, b] _ 2 2 _ rfl (fun i hi => by
    rw [hbx.cell]
    match i, hi with
    | 0, _ => rfl
    | 1, _ => rfl) hbx.lt (by decide) (by decide)).mono ?_
  rintro e w1 ⟨r, rfl, hr, hn1⟩
  have hn1' : New w w1 := ((New.refl w).alloc _).trans hn1
  clear hbx hn1
  cases r with
  | true =>
    go_wp2
    go_ret
    exact ⟨rfl, hn1'⟩
  | false =>
    have hz := hr rfl
    have ha : a.size ≤ 512 := hz a (by simp)
    have hb : b.size ≤ 512 := hz b (by simp)
    have H1 := Lib.hid (fun W => number_n a W (by omega))
    have H2 := Lib.hid (fun W => number_n b W (by omega))
    have HN1 := Lib.hid hn1'
    clear hz hr hn1'
    go_wp2_with fail
    refine (H1.out _).mono ?_
    rintro e w2 ⟨v1, u1, rfl, hv1, hu1, hn⟩
    obtain ⟨A1, l1, c1, rfl, _⟩ := hv1.form
    obtain ⟨bb1, B1, m1, d1, rfl⟩ := hu1.form
    generalize hb1e : decide (zNum a.data.toList < 0) = b1 at *
    have HB1 := Lib.hid hb1e
    have hnn := (hn.alloc (.cells #[.slice A1 l1 c1, .bool b1] NNum)).alloc (.cells #[.bool bb1, .slice B1 m1 d1] RNum)
    have T1 := Lib.hid (NY.last (.cells #[.bool bb1, .slice B1 m1 d1] RNum) hv1)
    have R1 := Lib.hid (RY.last2 (.cells #[.slice A1 l1 c1, .bool b1] NNum) hu1)
    have HN2 := Lib.hid (HN1.out.trans hnn)
    clear hv1 hu1 hn hnn hb1e HN1
    go_wp2_with fail
    refine (H2.out _).mono ?_
    rintro e w3 ⟨v2, u2, rfl, hv2, hu2, hn⟩
    obtain ⟨A2, l2, c2, rfl, _⟩ := hv2.form
    obtain ⟨bb2, B2, m2, d2, rfl⟩ := hu2.form
    generalize hb2e : decide (zNum b.data.toList < 0) = b2 at *
    have HB2 := Lib.hid hb2e
    have hnn := (hn.alloc (.cells #[.slice A2 l2 c2, .bool b2] NNum)).alloc (.cells #[.bool bb2, .slice B2 m2 d2] RNum)
    have T2 := Lib.hid (NY.last (.cells #[.bool bb2, .slice B2 m2 d2] RNum) hv2)
    have R2 := Lib.hid (RY.last2 (.cells #[.slice A2 l2 c2, .bool b2] NNum) hu2)
    replace T1 := Lib.hid (T1.out.new hnn)
    replace R1 := Lib.hid (R1.out.new hnn)
    have HN3 := Lib.hid (HN2.out.trans hnn)
    clear hv2 hu2 hn hnn hb2e HN2
    clear H1 H2
    obtain ⟨hx1, hy1⟩ := T1.out.cells
    obtain ⟨hx2, hy2⟩ := T2.out.cells
    cases i1 : isZ a.data.toList with
    | false => go_wp2_with fail; go_ret; exact ⟨rfl, HN3.out⟩
    | true =>
    cases i2 : isZ b.data.toList with
    | false => go_wp2_with fail; go_ret; exact ⟨rfl, HN3.out⟩
    | true =>
      have E1 : numS (zNum a.data.toList) = a := zNum_text i1
      have hk1 : (dg B9 (zNum a.data.toList).natAbs).length ≤ 512 := Nat.le_trans (zNum_len (by decide)) (by rw [← Lib.size_eq]; omega)
      have E2 : numS (zNum b.data.toList) = b := zNum_text i2
      have hk2 : (dg B9 (zNum b.data.toList).natAbs).length ≤ 512 := Nat.le_trans (zNum_len (by decide)) (by rw [← Lib.size_eq]; omega)
      generalize zNum a.data.toList = x at *
      have HE1 := Lib.hid E1
      have HK1 := Lib.hid hk1
      generalize zNum b.data.toList = y at *
      have HE2 := Lib.hid E2
      have HK2 := Lib.hid hk2
      clear E1 hk1 i1 E2 hk2 i2
      go_wp2_with fail
      refine (quorem_n T1.out.nx T2.out.nx (by omega) (by omega)).mono ?_
      rintro e w4 ⟨v4, v5, rfl, hv4, hv5, hn⟩
      obtain ⟨A4, l4, c4, rfl, _⟩ := hv4.form
      obtain ⟨A5, l5, c5, rfl, _⟩ := hv5.form
      generalize decide (x.tdiv y < 0) = b4 at *
      generalize decide (remI x y < 0) = b5 at *
      have hnn := (hn.alloc (.cells #[.slice A4 l4 c4, .bool b4] NNum)).alloc (.cells #[.slice A5 l5 c5, .bool b5] NNum)
      have T4 := Lib.hid (NY.last (.cells #[.slice A5 l5 c5, .bool b5] NNum) hv4)
      have T5 := Lib.hid (NY.last2 (.cells #[.slice A4 l4 c4, .bool b4] NNum) hv5)
      replace T1 := Lib.hid (T1.out.new hnn)
      replace hx1 := hnn.still hx1
      replace hy1 := hnn.still hy1
      replace T2 := Lib.hid (T2.out.new hnn)
      replace hx2 := hnn.still hx2
      replace hy2 := hnn.still hy2
      obtain ⟨hx4, hy4⟩ := T4.out.cells
      obtain ⟨hx5, hy5⟩ := T5.out.cells
      have HN4 := Lib.hid (HN3.out.trans hnn)
      clear hv4 hv5 hn hnn HN3
      go_wp2_with fail
      refine (divmod_n T1.out.nx T2.out.nx (by omega) (by omega)).mono ?_
      rintro e w5 ⟨v6, v7, rfl, hv6, hv7, hn⟩
      obtain ⟨A6, l6, c6, rfl, _⟩ := hv6.form
      obtain ⟨A7, l7, c7, rfl, _⟩ := hv7.form
      generalize decide (fq x y < 0) = b6 at *
      generalize decide (fr x y < 0) = b7 at *
      have hnn := (hn.alloc (.cells #[.slice A6 l6 c6, .bool b6] NNum)).alloc (.cells #[.slice A7 l7 c7, .bool b7] NNum)
      have T6 := Lib.hid (NY.last (.cells #[.slice A7 l7 c7, .bool b7] NNum) hv6)
      have T7 := Lib.hid (NY.last2 (.cells #[.slice A6 l6 c6, .bool b6] NNum) hv7)
      replace T1 := Lib.hid (T1.out.new hnn)
      replace hx1 := hnn.still hx1
      replace hy1 := hnn.still hy1
      replace T2 := Lib.hid (T2.out.new hnn)
      replace hx2 := hnn.still hx2
      replace hy2 := hnn.still hy2
      replace T4 := Lib.hid (T4.out.new hnn)
      replace hx4 := hnn.still hx4
      replace hy4 := hnn.still hy4
      replace T5 := Lib.hid (T5.out.new hnn)
      replace hx5 := hnn.still hx5
      replace hy5 := hnn.still hy5
      obtain ⟨hx6, hy6⟩ := T6.out.cells
      obtain ⟨hx7, hy7⟩ := T7.out.cells
      have HN5 := Lib.hid (HN4.out.trans hnn)
      clear hv6 hv7 hn hnn HN4
      by_cases h0 : y = 0
      · have HSG : Hid (sgZ y = 0) := Lib.hid (by rw [h0]; rfl)
        have e1 : divI y = 12 := by unfold divI; rw [if_pos h0]
        rw [e1]
        clear h0 e1
        go_wp2_with fail
        refine (sign_v 0 T2.out.nx (by omega) HSG.out).mono ?_
        rintro e w6 ⟨rfl, hn⟩
        have HN6 := Lib.hid (HN5.out.trans hn)
        replace T1 := Lib.hid (T1.out.new hn)
        replace hx1 := hn.still hx1
        replace hy1 := hn.still hy1
        replace T2 := Lib.hid (T2.out.new hn)
        replace hx2 := hn.still hx2
        replace hy2 := hn.still hy2
        replace T4 := Lib.hid (T4.out.new hn)
        replace hx4 := hn.still hx4
        replace hy4 := hn.still hy4
        replace T5 := Lib.hid (T5.out.new hn)
        replace hx5 := hn.still hx5
        replace hy5 := hn.still hy5
        replace T6 := Lib.hid (T6.out.new hn)
        replace hx6 := hn.still hx6
        replace hy6 := hn.still hy6
        replace T7 := Lib.hid (T7.out.new hn)
        replace hx7 := hn.still hx7
        replace hy7 := hn.still hy7
        clear hn
        go_wp2_with fail
        go_ret
        exact ⟨rfl, HN6.out⟩
      · have e1 : divI y = 0 := by unfold divI; rw [if_neg h0]
        rw [e1]
        have HQ1 := Lib.hid (remI_back (x := x) h0)
        have HQ2 := Lib.hid (fr_back (x := x) h0)
        have HL1 := Lib.hid (remI_lt (x := x) h0)
        have HL2 := Lib.hid (fr_lt (x := x) h0)
        obtain ⟨hp1, hp1'⟩ := sg_mul (a := remI x y) (b := x) (by have := remI_sign (x := x) h0; omega)
        obtain ⟨hp2, hp2'⟩ := sg_mul (a := fr x y) (b := y) (by have := fr_sign (x := x) h0; omega)
        obtain ⟨s1, hs1⟩ : ∃ s, sgZ (remI x y) = s := ⟨_, rfl⟩
        obtain ⟨s2, hs2⟩ : ∃ s, sgZ x = s := ⟨_, rfl⟩
        obtain ⟨s3, hs3⟩ : ∃ s, sgZ (fr x y) = s := ⟨_, rfl⟩
        obtain ⟨s4, hs4⟩ : ∃ s, sgZ y = s := ⟨_, rfl⟩
        have hs4' : s4 ≠ 0 := by rw [← hs4]; unfold sgZ; (repeat' split) <;> omega
        have hs4b : (s4 == 0) = false := by rw [beq_eq_false_iff_ne]; exact hs4'
        rw [hs1, hs2] at hp1 hp1'
        rw [hs3, hs4] at hp2 hp2'
        have HS1 := Lib.hid hs1
        have HS2 := Lib.hid hs2
        have HS3 := Lib.hid hs3
        have HSG := Lib.hid hs4
        generalize hm1 : s1 * s2 = t1 at *
        generalize hm2 : s3 * s4 = t2 at *
        have hw1 : IntKind.i64.wrap t1 = t1 := IntWalk.i64_in _ (by omega)
        have hw2 : IntKind.i64.wrap t2 = t2 := IntWalk.i64_in _ (by omega)
        clear hs1 hs2 hs3 hs4 h0 e1 hs4' hp1' hp2'
        go_wp2_with fail
        refine (sign_v s4 T2.out.nx (by omega) HSG.out).mono ?_
        rintro e w6 ⟨rfl, hn⟩
        have HN6 := Lib.hid (HN5.out.trans hn)
        replace T1 := Lib.hid (T1.out.new hn)
        replace hx1 := hn.still hx1
        replace hy1 := hn.still hy1
        replace T2 := Lib.hid (T2.out.new hn)
        replace hx2 := hn.still hx2
        replace hy2 := hn.still hy2
        replace T4 := Lib.hid (T4.out.new hn)
        replace hx4 := hn.still hx4
        replace hy4 := hn.still hy4
        replace T5 := Lib.hid (T5.out.new hn)
        replace hx5 := hn.still hx5
        replace hy5 := hn.still hy5
        replace T6 := Lib.hid (T6.out.new hn)
        replace hx6 := hn.still hx6
        replace hy6 := hn.still hy6
        replace T7 := Lib.hid (T7.out.new hn)
        replace hx7 := hn.still hx7
        replace hy7 := hn.still hy7
        clear hn
        generalize w4.heap.size = p4 at *
        generalize w5.heap.size = p6 at *
        generalize hq4 : p4 + 1 = q4 at *
        generalize hq6 : p6 + 1 = q6 at *
        clear hq4 hq6
        generalize hp1e : w2.heap.size = p1 at *
        generalize hp2e : w3.heap.size = p2 at *
        clear hp1e hp2e
        have nb1 := T1.out.nx
        have nb2 := T2.out.nx
        have nb4 := T4.out.nx
        have nb5 := T5.out.nx
        have nb6 := T6.out.nx
        have nb7 := T7.out.nx
        clear T1 T2 T4 T5 T6 T7
        go_wp2_with fail
        go_region_held3 (fun V => New w6 V ∧ V.cell? ⟨p1, 0, none⟩ = some (.slice A1 l1 c1) ∧ V.cell? ⟨p1, 1, none⟩ = some (.bool b1) ∧ V.cell? ⟨p2, 0, none⟩ = some (.slice A2 l2 c2) ∧ V.cell? ⟨p2, 1, none⟩ = some (.bool b2) ∧ V.cell? ⟨p4, 0, none⟩ = some (.slice A4 l4 c4) ∧ V.cell? ⟨p4, 1, none⟩ = some (.bool b4) ∧ V.cell? ⟨q4, 0, none⟩ = some (.slice A5 l5 c5) ∧ V.cell? ⟨q4, 1, none⟩ = some (.bool b5) ∧ V.cell? ⟨p6, 0, none⟩ = some (.slice A6 l6 c6) ∧ V.cell? ⟨p6, 1, none⟩ = some (.bool b6) ∧ V.cell? ⟨q6, 0, none⟩ = some (.slice A7 l7 c7) ∧ V.cell? ⟨q6, 1, none⟩ = some (.bool b7))
          (first
            | exact ⟨(New.refl _).drew, by simpa using hx1, by simpa using hy1, by simpa using hx2, by simpa using hy2, by simpa using hx4, by simpa using hy4, by simpa using hx5, by simpa using hy5, by simpa using hx6, by simpa using hy6, by simpa using hx7, by simpa using hy7⟩
            | (go_split_ands; exact ⟨New.trans (by assumption) (by assumption), New.still (by assumption) (by assumption), New.still (by assumption) (by assumption), New.still (by assumption) (by assumption), New.still (by assumption) (by assumption), New.still (by assumption) (by assumption), New.still (by assumption) (by assumption), New.still (by assumption) (by assumption), New.still (by assumption) (by assumption), New.still (by assumption) (by assumption), New.still (by assumption) (by assumption), New.still (by assumption) (by assumption), New.still (by assumption) (by assumption)⟩)
            | (go_split_ands; exact ⟨by assumption, by assumption, by assumption, by assumption, by assumption, by assumption, by assumption, by assumption, by assumption, by assumption, by assumption, by assumption, by assumption⟩))
          ((rw [if_pos (by rfl)]; go_big_op; go_split_ands; first
            | (with_reducible (refine (cmp_below (by first | assumption | exact NatB.new (by assumption) (by first | exact New.refl _ | assumption | exact New.trans (by assumption) (by assumption) | exact New.trans (by assumption) (New.trans (by assumption) (by assumption)) | exact New.trans (by assumption) (New.trans (by assumption) (New.trans (by assumption) (by assumption))) | exact New.trans (by assumption) (New.trans (by assumption) (New.trans (by assumption) (New.trans (by assumption) (by assumption)))))) (by first | assumption | exact NatB.new (by assumption) (by first | exact New.refl _ | assumption | exact New.trans (by assumption) (by assumption) | exact New.trans (by assumption) (New.trans (by assumption) (by assumption)) | exact New.trans (by assumption) (New.trans (by assumption) (New.trans (by assumption) (by assumption))) | exact New.trans (by assumption) (New.trans (by assumption) (New.trans (by assumption) (New.trans (by assumption) (by assumption)))))) (by omega) (by omega) (Hid.out (by assumption))).mono ?_); rintro e w' ⟨rfl, hn⟩; dsimp only)
            | (with_reducible (refine (cmp_zero (by first | assumption | exact NumB.new (by assumption) (by first | exact New.refl _ | assumption | exact New.trans (by assumption) (by assumption) | exact New.trans (by assumption) (New.trans (by assumption) (by assumption)) | exact New.trans (by assumption) (New.trans (by assumption) (New.trans (by assumption) (by assumption))) | exact New.trans (by assumption) (New.trans (by assumption) (New.trans (by assumption) (New.trans (by assumption) (by assumption)))))) (by first | assumption | exact NumB.new (by assumption) (by first | exact New.refl _ | assumption | exact New.trans (by assumption) (by assumption) | exact New.trans (by assumption) (New.trans (by assumption) (by assumption)) | exact New.trans (by assumption) (New.trans (by assumption) (New.trans (by assumption) (by assumption))) | exact New.trans (by assumption) (New.trans (by assumption) (New.trans (by assumption) (New.trans (by assumption) (by assumption)))))) (by omega) (by omega) (Hid.out (by assumption))).mono ?_); rintro e w' ⟨rfl, hn⟩; dsimp only)
            | (with_reducible (refine (add_n (by first | assumption | exact NumB.new (by assumption) (by first | exact New.refl _ | assumption | exact New.trans (by assumption) (by assumption) | exact New.trans (by assumption) (New.trans (by assumption) (by assumption)) | exact New.trans (by assumption) (New.trans (by assumption) (New.trans (by assumption) (by assumption))) | exact New.trans (by assumption) (New.trans (by assumption) (New.trans (by assumption) (New.trans (by assumption) (by assumption)))))) (by first | assumption | exact NumB.new (by assumption) (by first | exact New.refl _ | assumption | exact New.trans (by assumption) (by assumption) | exact New.trans (by assumption) (New.trans (by assumption) (by assumption)) | exact New.trans (by assumption) (New.trans (by assumption) (New.trans (by assumption) (by assumption))) | exact New.trans (by assumption) (New.trans (by assumption) (New.trans (by assumption) (New.trans (by assumption) (by assumption)))))) (by omega) (by omega)).mono ?_); rintro e w' ⟨v', rfl, hv', hn⟩; dsimp only)
            | (with_reducible (refine (mul_n (by first | assumption | exact NumB.new (by assumption) (by first | exact New.refl _ | assumption | exact New.trans (by assumption) (by assumption) | exact New.trans (by assumption) (New.trans (by assumption) (by assumption)) | exact New.trans (by assumption) (New.trans (by assumption) (New.trans (by assumption) (by assumption))) | exact New.trans (by assumption) (New.trans (by assumption) (New.trans (by assumption) (New.trans (by assumption) (by assumption)))))) (by first | assumption | exact NumB.new (by assumption) (by first | exact New.refl _ | assumption | exact New.trans (by assumption) (by assumption) | exact New.trans (by assumption) (New.trans (by assumption) (by assumption)) | exact New.trans (by assumption) (New.trans (by assumption) (New.trans (by assumption) (by assumption))) | exact New.trans (by assumption) (New.trans (by assumption) (New.trans (by assumption) (New.trans (by assumption) (by assumption)))))) (by omega) (by omega)).mono ?_); rintro e w' ⟨v', rfl, hv', hn⟩; dsimp only)
            | (with_reducible (refine (abs_n (by first | assumption | exact NumB.new (by assumption) (by first | exact New.refl _ | assumption | exact New.trans (by assumption) (by assumption) | exact New.trans (by assumption) (New.trans (by assumption) (by assumption)) | exact New.trans (by assumption) (New.trans (by assumption) (New.trans (by assumption) (by assumption))) | exact New.trans (by assumption) (New.trans (by assumption) (New.trans (by assumption) (New.trans (by assumption) (by assumption))))))).mono ?_); rintro e w' ⟨v', rfl, hv', hn⟩; dsimp only)
            | (with_reducible (refine (sign_v _ (by first | assumption | exact NumB.new (by assumption) (by first | exact New.refl _ | assumption | exact New.trans (by assumption) (by assumption) | exact New.trans (by assumption) (New.trans (by assumption) (by assumption)) | exact New.trans (by assumption) (New.trans (by assumption) (New.trans (by assumption) (by assumption))) | exact New.trans (by assumption) (New.trans (by assumption) (New.trans (by assumption) (New.trans (by assumption) (by assumption)))))) (by omega) (Hid.out (by assumption))).mono ?_); rintro e w' ⟨rfl, hn⟩; dsimp only)))
        go_split_ands
        rename_i hN _ _ _ _ _ _ _ _ _ _ _ _
        have HNF := Lib.hid (HN6.out.trans hN)
        clear hN
        go_wp2_with fail
        go_ret
        first | exact ⟨rfl, HNF.out⟩ | exact ⟨by simp, HNF.out⟩
end Go.Proofs.YtkjlmibleoecgaaDoor
