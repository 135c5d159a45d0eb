/- The laws of 02: NumDivides, walked. (Printed by mkn8.py.) -/
import Derived.Test.YtkjlmibleoecgaaGreatDoorM4
import Derived.Test.YtkjlmibleoecgaaGreatDoorqRZ6
namespace Go.Proofs.YtkjlmibleoecgaaGreatDoor
set_option linter.unusedSimpArgs false
set_option linter.unusedVariables false
open Go.RowKit
theorem RY.last {w : World} {A : Option Addr} {l c : Nat} {b : Bool} {z : Int} (o : Obj) (h : RNumV w (.agg #[.bool b, .slice A l c]) z) : RY ((w.alloc (.cells #[.bool b, .slice A l c] RNum)).alloc o) w.heap.size b A l c z :=
  ⟨(Box.last w _ _).alloc _, h.new (((New.refl w).alloc _).alloc _)⟩
theorem rem_len {b : Nat} (hb : 2 ≤ b) {x y : Int} {k : Nat} (h : (dg b x.natAbs).length ≤ k) : (dg b (remI x y).natAbs).length ≤ k := by
  refine Nat.le_trans (dg_len_mono hb ?_) h
  unfold remI
  split
  · simp
  · rw [Int.natAbs_tmod]; exact Nat.mod_le _ _
set_option maxRecDepth 1000000 in
set_option maxHeartbeats 16000000 in
theorem numDivides_walk (a b : ByteArray) (w : World) (L : Lib.TabIs Tryz.prog w "internal/strconv.uint64pow10" .u64 Lib.pow10Tab) :
    Calls Tryz.prog 8 #[.string a, .string b] w fun e w' => e = .returned (.bool true) ∧ Below w.heap.size w w' := by
  have HTAB := Lib.hid L
  clear L
  go_enter Tryz.func8, Tryz.ntmps8
  go_wp2_with fail
  have hbx := Box.last w #[.string a, .string b] 9
  refine (long_n [a, b] _ 2 2 _ rfl (fun i hi => by
    rw [hbx.cell]
    match i, hi with
    | 0, _ => rfl
    | 1, _ => rfl) hbx.lt (by decide) (by decide)).mono ?_
  rintro e w1 ⟨r, rfl, hr, hn1⟩
  have hn1' : New w w1 := ((New.refl w).alloc _).trans hn1
  clear hbx hn1
  cases r with
  | true =>
    go_wp2
    go_ret
    exact ⟨rfl, hn1'⟩
  | false =>
    have hz := hr rfl
    have ha : a.size ≤ 512 := hz a (by simp)
    have hb : b.size ≤ 512 := hz b (by simp)
    have H1 := Lib.hid (fun W => number_n a W (by omega))
    have H2 := Lib.hid (fun W => number_n b W (by omega))
    have HN1 := Lib.hid hn1'
    clear hz hr hn1'
    go_wp2_with fail
    refine (H1.out _).mono ?_
    rintro e w2 ⟨v1, u1, rfl, hv1, hu1, hn⟩
    obtain ⟨A1, l1, c1, rfl, _⟩ := hv1.form
    obtain ⟨bb1, B1, m1, d1, rfl⟩ := hu1.form
    generalize hb1e : decide (zNum a.data.toList < 0) = b1 at *
    have HB1 := Lib.hid hb1e
    have hnn := (hn.alloc (.cells #[.slice A1 l1 c1, .bool b1] NNum)).alloc (.cells #[.bool bb1, .slice B1 m1 d1] RNum)
    have T1 := Lib.hid (NY.last (.cells #[.bool bb1, .slice B1 m1 d1] RNum) hv1)
    have R1 := Lib.hid (RY.last2 (.cells #[.slice A1 l1 c1, .bool b1] NNum) hu1)
    have HN2 := Lib.hid (HN1.out.trans hnn)
    clear hv1 hu1 hn hnn hb1e HN1
    go_wp2_with fail
    refine (H2.out _).mono ?_
    rintro e w3 ⟨v2, u2, rfl, hv2, hu2, hn⟩
    obtain ⟨A2, l2, c2, rfl, _⟩ := hv2.form
    obtain ⟨bb2, B2, m2, d2, rfl⟩ := hu2.form
    generalize hb2e : decide (zNum b.data.toList < 0) = b2 at *
    have HB2 := Lib.hid hb2e
    have hnn := (hn.alloc (.cells #[.slice A2 l2 c2, .bool b2] NNum)).alloc (.cells #[.bool bb2, .slice B2 m2 d2] RNum)
    have T2 := Lib.hid (NY.last (.cells #[.bool bb2, .slice B2 m2 d2] RNum) hv2)
    have R2 := Lib.hid (RY.last2 (.cells #[.slice A2 l2 c2, .bool b2] NNum) hu2)
    replace T1 := Lib.hid (T1.out.new hnn)
    replace R1 := Lib.hid (R1.out.new hnn)
    have HN3 := Lib.hid (HN2.out.trans hnn)
    clear hv2 hu2 hn hnn hb2e HN2
    clear H1 H2
    obtain ⟨hx1, hy1⟩ := T1.out.cells
    obtain ⟨hr1, hs1, _, _⟩ := R1.out.bx.two
    obtain ⟨hx2, hy2⟩ := T2.out.cells
    obtain ⟨hr2, hs2, _, _⟩ := R2.out.bx.two
    cases i1 : isZ a.data.toList with
    | false => go_wp2_with fail; go_ret; exact ⟨rfl, HN3.out⟩
    | true =>
    cases i2 : isZ b.data.toList with
    | false => go_wp2_with fail; go_ret; exact ⟨rfl, HN3.out⟩
    | true =>
      have E1 : numS (zNum a.data.toList) = a := zNum_text i1
      have hk1 : (dg B9 (zNum a.data.toList).natAbs).length ≤ 512 := Nat.le_trans (zNum_len (by decide)) (by rw [← Lib.size_eq]; omega)
      have E2 : numS (zNum b.data.toList) = b := zNum_text i2
      have hk2 : (dg B9 (zNum b.data.toList).natAbs).length ≤ 512 := Nat.le_trans (zNum_len (by decide)) (by rw [← Lib.size_eq]; omega)
      generalize zNum a.data.toList = x at *
      have HE1 := Lib.hid E1
      have HK1 := Lib.hid hk1
      generalize zNum b.data.toList = y at *
      have HE2 := Lib.hid E2
      have HK2 := Lib.hid hk2
      clear E1 hk1 i1 E2 hk2 i2
      go_wp2_with fail
      refine (quorem_n T1.out.nx T2.out.nx (by omega) (by omega)).mono ?_
      rintro e w4 ⟨v4, v5, rfl, hv4, hv5, hn⟩
      obtain ⟨A4, l4, c4, rfl, _⟩ := hv4.form
      obtain ⟨A5, l5, c5, rfl, _⟩ := hv5.form
      generalize decide (x.tdiv y < 0) = b4 at *
      generalize decide (remI x y < 0) = b5 at *
      have hnn := (hn.alloc (.cells #[.slice A4 l4 c4, .bool b4] NNum)).alloc (.cells #[.slice A5 l5 c5, .bool b5] NNum)
      have T4 := Lib.hid (NY.last (.cells #[.slice A5 l5 c5, .bool b5] NNum) hv4)
      have T5 := Lib.hid (NY.last2 (.cells #[.slice A4 l4 c4, .bool b4] NNum) hv5)
      obtain ⟨hx4, hy4⟩ := T4.out.cells
      obtain ⟨hx5, hy5⟩ := T5.out.cells
      replace T1 := Lib.hid (T1.out.new hnn)
      replace hx1 := hnn.still hx1
      replace hy1 := hnn.still hy1
      replace T2 := Lib.hid (T2.out.new hnn)
      replace hx2 := hnn.still hx2
      replace hy2 := hnn.still hy2
      replace R1 := Lib.hid (R1.out.new hnn)
      replace hr1 := hnn.still hr1
      replace hs1 := hnn.still hs1
      replace R2 := Lib.hid (R2.out.new hnn)
      replace hr2 := hnn.still hr2
      replace hs2 := hnn.still hs2
      have HN4 := Lib.hid (HN3.out.trans hnn)
      clear hv4 hv5 hn hnn HN3
      go_wp2_with fail
      refine (rquorem_n ⟨R1.out.nx, HK1.out⟩ ⟨R2.out.nx, HK2.out⟩ (by omega) (by omega)).mono ?_
      rintro e w5 ⟨v6, v7, rfl, hv6, hv7, hn⟩
      obtain ⟨A6, l6, c6, rfl, _⟩ := hv6.form
      obtain ⟨A7, l7, c7, rfl, _⟩ := hv7.form
      generalize decide (x.tdiv y < 0) = b6 at *
      generalize decide (remI x y < 0) = b7 at *
      have hnn := (hn.alloc (.cells #[.bool b6, .slice A6 l6 c6] RNum)).alloc (.cells #[.bool b7, .slice A7 l7 c7] RNum)
      have R6 := Lib.hid (RY.last (.cells #[.bool b7, .slice A7 l7 c7] RNum) hv6.v)
      have R7 := Lib.hid (RY.last2 (.cells #[.bool b6, .slice A6 l6 c6] RNum) hv7.v)
      have HK6 := Lib.hid hv6.k
      have HK7 := Lib.hid hv7.k
      obtain ⟨hr6, hs6⟩ := R6.out.bx.cells2
      obtain ⟨hr7, hs7⟩ := R7.out.bx.cells2
      replace T1 := Lib.hid (T1.out.new hnn)
      replace hx1 := hnn.still hx1
      replace hy1 := hnn.still hy1
      replace T2 := Lib.hid (T2.out.new hnn)
      replace hx2 := hnn.still hx2
      replace hy2 := hnn.still hy2
      replace T4 := Lib.hid (T4.out.new hnn)
      replace hx4 := hnn.still hx4
      replace hy4 := hnn.still hy4
      replace T5 := Lib.hid (T5.out.new hnn)
      replace hx5 := hnn.still hx5
      replace hy5 := hnn.still hy5
      replace R1 := Lib.hid (R1.out.new hnn)
      replace hr1 := hnn.still hr1
      replace hs1 := hnn.still hs1
      replace R2 := Lib.hid (R2.out.new hnn)
      replace hr2 := hnn.still hr2
      replace hs2 := hnn.still hs2
      have HN5 := Lib.hid (HN4.out.trans hnn)
      clear hv6 hv7 hn hnn HN4
      go_wp2_with fail
      refine (divmod_n T1.out.nx T2.out.nx (by omega) (by omega)).mono ?_
      rintro e w6 ⟨v8, v9, rfl, hv8, hv9, hn⟩
      obtain ⟨A8, l8, c8, rfl, _⟩ := hv8.form
      obtain ⟨A9, l9, c9, rfl, _⟩ := hv9.form
      generalize decide (fq x y < 0) = b8 at *
      generalize decide (fr x y < 0) = b9 at *
      have hnn := (hn.alloc (.cells #[.slice A8 l8 c8, .bool b8] NNum)).alloc (.cells #[.slice A9 l9 c9, .bool b9] NNum)
      have T8 := Lib.hid (NY.last (.cells #[.slice A9 l9 c9, .bool b9] NNum) hv8)
      have T9 := Lib.hid (NY.last2 (.cells #[.slice A8 l8 c8, .bool b8] NNum) hv9)
      obtain ⟨hx8, hy8⟩ := T8.out.cells
      obtain ⟨hx9, hy9⟩ := T9.out.cells
      replace T1 := Lib.hid (T1.out.new hnn)
      replace hx1 := hnn.still hx1
      replace hy1 := hnn.still hy1
      replace T2 := Lib.hid (T2.out.new hnn)
      replace hx2 := hnn.still hx2
      replace hy2 := hnn.still hy2
      replace T4 := Lib.hid (T4.out.new hnn)
      replace hx4 := hnn.still hx4
      replace hy4 := hnn.still hy4
      replace T5 := Lib.hid (T5.out.new hnn)
      replace hx5 := hnn.still hx5
      replace hy5 := hnn.still hy5
      replace R1 := Lib.hid (R1.out.new hnn)
      replace hr1 := hnn.still hr1
      replace hs1 := hnn.still hs1
      replace R2 := Lib.hid (R2.out.new hnn)
      replace hr2 := hnn.still hr2
      replace hs2 := hnn.still hs2
      replace R6 := Lib.hid (R6.out.new hnn)
      replace hr6 := hnn.still hr6
      replace hs6 := hnn.still hs6
      replace R7 := Lib.hid (R7.out.new hnn)
      replace hr7 := hnn.still hr7
      replace hs7 := hnn.still hs7
      have HN6 := Lib.hid (HN5.out.trans hnn)
      clear hv8 hv9 hn hnn HN5
      go_wp2_with fail
      refine (rdivmod_n ⟨R1.out.nx, HK1.out⟩ ⟨R2.out.nx, HK2.out⟩ (by omega) (by omega)).mono ?_
      rintro e w7 ⟨v10, v11, rfl, hv10, hv11, hn⟩
      obtain ⟨A10, l10, c10, rfl, _⟩ := hv10.form
      obtain ⟨A11, l11, c11, rfl, _⟩ := hv11.form
      generalize decide (fq x y < 0) = b10 at *
      generalize decide (fr x y < 0) = b11 at *
      have hnn := (hn.alloc (.cells #[.bool b10, .slice A10 l10 c10] RNum)).alloc (.cells #[.bool b11, .slice A11 l11 c11] RNum)
      have R10 := Lib.hid (RY.last (.cells #[.bool b11, .slice A11 l11 c11] RNum) hv10.v)
      have R11 := Lib.hid (RY.last2 (.cells #[.bool b10, .slice A10 l10 c10] RNum) hv11.v)
      have HK10 := Lib.hid hv10.k
      have HK11 := Lib.hid hv11.k
      obtain ⟨hr10, hs10⟩ := R10.out.bx.cells2
      obtain ⟨hr11, hs11⟩ := R11.out.bx.cells2
      replace T4 := Lib.hid (T4.out.new hnn)
      replace hx4 := hnn.still hx4
      replace hy4 := hnn.still hy4
      replace T5 := Lib.hid (T5.out.new hnn)
      replace hx5 := hnn.still hx5
      replace hy5 := hnn.still hy5
      replace T8 := Lib.hid (T8.out.new hnn)
      replace hx8 := hnn.still hx8
      replace hy8 := hnn.still hy8
      replace T9 := Lib.hid (T9.out.new hnn)
      replace hx9 := hnn.still hx9
      replace hy9 := hnn.still hy9
      replace R1 := Lib.hid (R1.out.new hnn)
      replace hr1 := hnn.still hr1
      replace hs1 := hnn.still hs1
      replace R2 := Lib.hid (R2.out.new hnn)
      replace hr2 := hnn.still hr2
      replace hs2 := hnn.still hs2
      replace R6 := Lib.hid (R6.out.new hnn)
      replace hr6 := hnn.still hr6
      replace hs6 := hnn.still hs6
      replace R7 := Lib.hid (R7.out.new hnn)
      replace hr7 := hnn.still hr7
      replace hs7 := hnn.still hs7
      have HN7 := Lib.hid (HN6.out.trans hnn)
      clear hv10 hv11 hn hnn HN6
      obtain ⟨t1, ht1⟩ : ∃ t, numS (x.tdiv y) = t := ⟨_, rfl⟩
      obtain ⟨t2, ht2⟩ : ∃ t, numS (remI x y) = t := ⟨_, rfl⟩
      obtain ⟨t3, ht3⟩ : ∃ t, numS (fq x y) = t := ⟨_, rfl⟩
      obtain ⟨t4, ht4⟩ : ∃ t, numS (fr x y) = t := ⟨_, rfl⟩
      have N1 := Lib.hid ht1
      have N2 := Lib.hid ht2
      have N3 := Lib.hid ht3
      have N4 := Lib.hid ht4
      clear ht1 ht2 ht3 ht4 hx1 hy1 hx2 hy2 hr1 hs1 hr2 hs2 HK1 HK2 R1 R2 T1 T2
      generalize divI y = de at *
      go_wp2_with fail
      generalize hW : (w7.alloc (.cells #[.bool b10, .slice A10 l10 c10] RNum)).alloc (.cells #[.bool b11, .slice A11 l11 c11] RNum) = W at *
      generalize w4.heap.size = p4 at *
      generalize w5.heap.size = p6 at *
      generalize w6.heap.size = p8 at *
      generalize w7.heap.size = p10 at *
      generalize p4 + 1 = p5 at *
      generalize p6 + 1 = p7 at *
      generalize p8 + 1 = p9 at *
      generalize p10 + 1 = p11 at *
      clear hW
      have nb4 := T4.out.nx
      have nb5 := T5.out.nx
      have nb8 := T8.out.nx
      have nb9 := T9.out.nx
      have nr6 : RNumB W _ _ 512 := ⟨R6.out.nx, HK6.out⟩
      have nr7 : RNumB W _ _ 512 := ⟨R7.out.nx, HK7.out⟩
      have nr10 : RNumB W _ _ (512 + 4) := ⟨R10.out.nx, HK10.out⟩
      have nr11 : RNumB W _ _ (512 + 512 + 1) := ⟨R11.out.nx, HK11.out⟩
      have htab := tabIs_new HN7.out HTAB.out
      clear T4 T5 T8 T9 R6 R7 R10 R11 HK6 HK7 HK10 HK11
      have HTB := Lib.hid htab
      clear htab
      go_wp2
      try simp only [List.append_eq, List.cons_append, List.nil_append]
      go_region_held3 (fun V => New W V ∧ V.cell? ⟨p4, 0, none⟩ = some (.slice A4 l4 c4) ∧ V.cell? ⟨p4, 1, none⟩ = some (.bool b4) ∧ V.cell? ⟨p5, 0, none⟩ = some (.slice A5 l5 c5) ∧ V.cell? ⟨p5, 1, none⟩ = some (.bool b5) ∧ V.cell? ⟨p8, 0, none⟩ = some (.slice A8 l8 c8) ∧ V.cell? ⟨p8, 1, none⟩ = some (.bool b8) ∧ V.cell? ⟨p9, 0, none⟩ = some (.slice A9 l9 c9) ∧ V.cell? ⟨p9, 1, none⟩ = some (.bool b9) ∧ V.cell? ⟨p6, 0, none⟩ = some (.bool b6) ∧ V.cell? ⟨p6, 1, none⟩ = some (.slice A6 l6 c6) ∧ V.cell? ⟨p7, 0, none⟩ = some (.bool b7) ∧ V.cell? ⟨p7, 1, none⟩ = some (.slice A7 l7 c7) ∧ V.cell? ⟨p10, 0, none⟩ = some (.bool b10) ∧ V.cell? ⟨p10, 1, none⟩ = some (.slice A10 l10 c10) ∧ V.cell? ⟨p11, 0, none⟩ = some (.bool b11) ∧ V.cell? ⟨p11, 1, none⟩ = some (.slice A11 l11 c11))
        (first
          | exact ⟨(New.refl _).drew, by simpa using hx4, by simpa using hy4, by simpa using hx5, by simpa using hy5, by simpa using hx8, by simpa using hy8, by simpa using hx9, by simpa using hy9, by simpa using hr6, by simpa using hs6, by simpa using hr7, by simpa using hs7, by simpa using hr10, by simpa using hs10, by simpa using hr11, by simpa using hs11⟩
          | (go_split_ands; exact ⟨New.trans (by assumption) (by assumption), New.still (by assumption) (by assumption), New.still (by assumption) (by assumption), New.still (by assumption) (by assumption), New.still (by assumption) (by assumption), New.still (by assumption) (by assumption), New.still (by assumption) (by assumption), New.still (by assumption) (by assumption), New.still (by assumption) (by assumption), New.still (by assumption) (by assumption), New.still (by assumption) (by assumption), New.still (by assumption) (by assumption), New.still (by assumption) (by assumption), New.still (by assumption) (by assumption), New.still (by assumption) (by assumption), New.still (by assumption) (by assumption), New.still (by assumption) (by assumption)⟩)
          | (go_split_ands; exact ⟨by assumption, by assumption, by assumption, by assumption, by assumption, by assumption, by assumption, by assumption, by assumption, by assumption, by assumption, by assumption, by assumption, by assumption, by assumption, by assumption, by assumption⟩))
        ((rw [if_pos (by rfl)]; go_big_op; go_split_ands; first
          | (with_reducible (refine (text_nw _ (by first | assumption | exact NumB.new (by assumption) (by first | exact New.refl _ | assumption | exact New.trans (by assumption) (by assumption) | exact New.trans (by assumption) (New.trans (by assumption) (by assumption)) | exact New.trans (by assumption) (New.trans (by assumption) (New.trans (by assumption) (by assumption))) | exact New.trans (by assumption) (New.trans (by assumption) (New.trans (by assumption) (New.trans (by assumption) (by assumption)))))) (by omega) (tabIs_new (by first | exact New.refl _ | assumption | exact New.trans (by assumption) (by assumption) | exact New.trans (by assumption) (New.trans (by assumption) (by assumption)) | exact New.trans (by assumption) (New.trans (by assumption) (New.trans (by assumption) (by assumption))) | exact New.trans (by assumption) (New.trans (by assumption) (New.trans (by assumption) (New.trans (by assumption) (by assumption))))) HTB.out) (Hid.out (by assumption))).mono ?_); rintro e w' ⟨rfl, hn⟩; dsimp only)
          | (with_reducible (refine (rtext_nw _ (by first | assumption | exact RNumB.new (by assumption) (by first | exact New.refl _ | assumption | exact New.trans (by assumption) (by assumption) | exact New.trans (by assumption) (New.trans (by assumption) (by assumption)) | exact New.trans (by assumption) (New.trans (by assumption) (New.trans (by assumption) (by assumption))) | exact New.trans (by assumption) (New.trans (by assumption) (New.trans (by assumption) (New.trans (by assumption) (by assumption)))))) (by omega) (Hid.out (by assumption))).mono ?_); rintro e w' ⟨rfl, hn⟩; dsimp only)))
      go_split_ands
      rename_i hN _ _ _ _ _ _ _ _ _ _ _ _ _ _ _ _
      have HNF := Lib.hid (HN7.out.trans hN)
      clear hN
      go_wp2_with fail
      go_ret
      first | exact ⟨rfl, HNF.out⟩ | exact ⟨by simp, HNF.out⟩
end Go.Proofs.YtkjlmibleoecgaaGreatDoor
