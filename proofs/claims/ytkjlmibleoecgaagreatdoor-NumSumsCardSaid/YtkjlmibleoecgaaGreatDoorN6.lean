/- The laws of 02: NumSums, walked. (Printed by mkn6.py.) -/
import Derived.Test.YtkjlmibleoecgaaGreatDoorLt
namespace Go.Proofs.YtkjlmibleoecgaaGreatDoor
set_option linter.unusedSimpArgs false
set_option linter.unusedVariables false
open Go.RowKit
set_option maxRecDepth 1000000 in
set_option maxHeartbeats 16000000 in
theorem numSums_walk (a b : ByteArray) (w : World) (L : Lib.TabIs Tryz.prog w "internal/strconv.uint64pow10" .u64 Lib.pow10Tab) :
    Calls Tryz.prog 4 #[.string a, .string b] w fun e w' => e = .returned (.bool true) ∧ Below w.heap.size w w' := by
  have HTAB := Lib.hid L
  clear L
  go_enter Tryz.func4, Tryz.ntmps4
  go_wp2_with fail
  have hbx := Box.last w #[.string a, .string b] 9
  refine (long_n [a, b] _ 2 2 _ rfl (fun i hi => by
    rw [hbx.cell]
    match i, hi with
    | 0, _ => rfl
    | 1, _ => rfl) hbx.lt (by decide) (by decide)).mono ?_
  rintro e w1 ⟨r, rfl, hr, hn1⟩
  have hn1' : New w w1 := ((New.refl w).alloc _).trans hn1
  clear hbx hn1
  cases r with
  | true =>
    go_wp2
    go_ret
    exact ⟨rfl, hn1'⟩
  | false =>
    have hz := hr rfl
    have ha : a.size ≤ 512 := hz a (by simp)
    have hb : b.size ≤ 512 := hz b (by simp)
    have H1 := Lib.hid (fun W => number_n a W (by omega))
    have H2 := Lib.hid (fun W => number_n b W (by omega))
    have HN1 := Lib.hid hn1'
    clear hz hr hn1'
    go_wp2_with fail
    refine (H1.out _).mono ?_
    rintro e w2 ⟨v1, u1, rfl, hv1, hu1, hn⟩
    obtain ⟨A1, l1, c1, rfl, _⟩ := hv1.form
    obtain ⟨bb1, B1, m1, d1, rfl⟩ := hu1.form
    generalize hb1e : decide (zNum a.data.toList < 0) = b1 at *
    have HB1 := Lib.hid hb1e
    have hnn := (hn.alloc (.cells #[.slice A1 l1 c1, .bool b1] NNum)).alloc (.cells #[.bool bb1, .slice B1 m1 d1] RNum)
    have T1 := Lib.hid (NY.last (.cells #[.bool bb1, .slice B1 m1 d1] RNum) hv1)
    have R1 := Lib.hid (RY.last2 (.cells #[.slice A1 l1 c1, .bool b1] NNum) hu1)
    have HN2 := Lib.hid (HN1.out.trans hnn)
    clear hv1 hu1 hn hnn hb1e HN1
    go_wp2_with fail
    refine (H2.out _).mono ?_
    rintro e w3 ⟨v2, u2, rfl, hv2, hu2, hn⟩
    obtain ⟨A2, l2, c2, rfl, _⟩ := hv2.form
    obtain ⟨bb2, B2, m2, d2, rfl⟩ := hu2.form
    generalize hb2e : decide (zNum b.data.toList < 0) = b2 at *
    have HB2 := Lib.hid hb2e
    have hnn := (hn.alloc (.cells #[.slice A2 l2 c2, .bool b2] NNum)).alloc (.cells #[.bool bb2, .slice B2 m2 d2] RNum)
    have T2 := Lib.hid (NY.last (.cells #[.bool bb2, .slice B2 m2 d2] RNum) hv2)
    have R2 := Lib.hid (RY.last2 (.cells #[.slice A2 l2 c2, .bool b2] NNum) hu2)
    replace T1 := Lib.hid (T1.out.new hnn)
    replace R1 := Lib.hid (R1.out.new hnn)
    have HN3 := Lib.hid (HN2.out.trans hnn)
    clear hv2 hu2 hn hnn hb2e HN2
    clear H1 H2
    obtain ⟨hx1, hy1⟩ := T1.out.cells
    obtain ⟨hr1, hs1, _, _⟩ := R1.out.bx.two
    obtain ⟨hx2, hy2⟩ := T2.out.cells
    obtain ⟨hr2, hs2, _, _⟩ := R2.out.bx.two
    cases i1 : isZ a.data.toList with
    | false => go_wp2_with fail; go_ret; exact ⟨rfl, HN3.out⟩
    | true =>
    cases i2 : isZ b.data.toList with
    | false => go_wp2_with fail; go_ret; exact ⟨rfl, HN3.out⟩
    | true =>
      have E1 : numS (zNum a.data.toList) = a := zNum_text i1
      have hk1 : (dg B9 (zNum a.data.toList).natAbs).length ≤ 512 := Nat.le_trans (zNum_len (by decide)) (by rw [← Lib.size_eq]; omega)
      have E2 : numS (zNum b.data.toList) = b := zNum_text i2
      have hk2 : (dg B9 (zNum b.data.toList).natAbs).length ≤ 512 := Nat.le_trans (zNum_len (by decide)) (by rw [← Lib.size_eq]; omega)
      generalize zNum a.data.toList = x at *
      have HE1 := Lib.hid E1
      have HK1 := Lib.hid hk1
      generalize zNum b.data.toList = y at *
      have HE2 := Lib.hid E2
      have HK2 := Lib.hid hk2
      clear E1 hk1 i1 E2 hk2 i2
      obtain ⟨t1, ht1⟩ : ∃ t, numS (x + y) = t := ⟨_, rfl⟩
      obtain ⟨t2, ht2⟩ : ∃ t, numS (x - y) = t := ⟨_, rfl⟩
      obtain ⟨t3, ht3⟩ : ∃ t, numS (x * y) = t := ⟨_, rfl⟩
      obtain ⟨s1, hs1⟩ : ∃ t, cmpZ x y = t := ⟨_, rfl⟩
      have N1 := Lib.hid ht1
      have N2 := Lib.hid ht2
      have N3 := Lib.hid ht3
      have S1 := Lib.hid hs1
      clear ht1 ht2 ht3 hs1
      go_wp2_with fail
      generalize hW : (w3.alloc (.cells #[.slice A2 l2 c2, .bool b2] NNum)).alloc (.cells #[.bool bb2, .slice B2 m2 d2] RNum) = W at *
      generalize hp1 : w2.heap.size = p1 at *
      generalize hp2 : w3.heap.size = p2 at *
      generalize hq1 : p1 + 1 = q1 at *
      generalize hq2 : p2 + 1 = q2 at *
      clear hW hp1 hq1 hp2 hq2
      have nb1 := T1.out.nx
      have nb2 := T2.out.nx
      have nr1 : RNumB W _ x 512 := ⟨R1.out.nx, HK1.out⟩
      have nr2 : RNumB W _ y 512 := ⟨R2.out.nx, HK2.out⟩
      have htab := tabIs_new HN3.out HTAB.out
      clear T1 T2 R1 R2 HK1 HK2
      have HTB := Lib.hid htab
      clear htab
      go_wp2
      try simp only [List.append_eq, List.cons_append, List.nil_append]
      go_region_held3 (fun V => New W V ∧ V.cell? ⟨p1, 0, none⟩ = some (.slice A1 l1 c1) ∧ V.cell? ⟨p1, 1, none⟩ = some (.bool b1) ∧ V.cell? ⟨q1, 0, none⟩ = some (.bool bb1) ∧ V.cell? ⟨q1, 1, none⟩ = some (.slice B1 m1 d1) ∧ V.cell? ⟨p2, 0, none⟩ = some (.slice A2 l2 c2) ∧ V.cell? ⟨p2, 1, none⟩ = some (.bool b2) ∧ V.cell? ⟨q2, 0, none⟩ = some (.bool bb2) ∧ V.cell? ⟨q2, 1, none⟩ = some (.slice B2 m2 d2))
        (first
          | exact ⟨(New.refl _).drew, by simpa using hx1, by simpa using hy1, by simpa using hr1, by simpa using hs1, by simpa using hx2, by simpa using hy2, by simpa using hr2, by simpa using hs2⟩
          | (go_split_ands; exact ⟨New.trans (by assumption) (by assumption), New.still (by assumption) (by assumption), New.still (by assumption) (by assumption), New.still (by assumption) (by assumption), New.still (by assumption) (by assumption), New.still (by assumption) (by assumption), New.still (by assumption) (by assumption), New.still (by assumption) (by assumption), New.still (by assumption) (by assumption)⟩)
          | (go_split_ands; exact ⟨by assumption, by assumption, by assumption, by assumption, by assumption, by assumption, by assumption, by assumption, by assumption⟩))
        ((rw [if_pos (by rfl)]; go_big_op; go_split_ands; first
          | (with_reducible (refine (text_nw _ (by first | assumption | exact NumB.new (by assumption) (by first | exact New.refl _ | assumption | exact New.trans (by assumption) (by assumption) | exact New.trans (by assumption) (New.trans (by assumption) (by assumption)) | exact New.trans (by assumption) (New.trans (by assumption) (New.trans (by assumption) (by assumption))) | exact New.trans (by assumption) (New.trans (by assumption) (New.trans (by assumption) (New.trans (by assumption) (by assumption)))))) (by omega) (tabIs_new (by first | exact New.refl _ | assumption | exact New.trans (by assumption) (by assumption) | exact New.trans (by assumption) (New.trans (by assumption) (by assumption)) | exact New.trans (by assumption) (New.trans (by assumption) (New.trans (by assumption) (by assumption))) | exact New.trans (by assumption) (New.trans (by assumption) (New.trans (by assumption) (New.trans (by assumption) (by assumption))))) HTB.out) (Hid.out (by assumption))).mono ?_); rintro e w' ⟨rfl, hn⟩; dsimp only)
          | (with_reducible (refine (rtext_nw _ (by first | assumption | exact RNumB.new (by assumption) (by first | exact New.refl _ | assumption | exact New.trans (by assumption) (by assumption) | exact New.trans (by assumption) (New.trans (by assumption) (by assumption)) | exact New.trans (by assumption) (New.trans (by assumption) (New.trans (by assumption) (by assumption))) | exact New.trans (by assumption) (New.trans (by assumption) (New.trans (by assumption) (New.trans (by assumption) (by assumption)))))) (by omega) (Hid.out (by assumption))).mono ?_); rintro e w' ⟨rfl, hn⟩; dsimp only)
          | (with_reducible (refine (cmp_v _ (by first | assumption | exact NumB.new (by assumption) (by first | exact New.refl _ | assumption | exact New.trans (by assumption) (by assumption) | exact New.trans (by assumption) (New.trans (by assumption) (by assumption)) | exact New.trans (by assumption) (New.trans (by assumption) (New.trans (by assumption) (by assumption))) | exact New.trans (by assumption) (New.trans (by assumption) (New.trans (by assumption) (New.trans (by assumption) (by assumption)))))) (by first | assumption | exact NumB.new (by assumption) (by first | exact New.refl _ | assumption | exact New.trans (by assumption) (by assumption) | exact New.trans (by assumption) (New.trans (by assumption) (by assumption)) | exact New.trans (by assumption) (New.trans (by assumption) (New.trans (by assumption) (by assumption))) | exact New.trans (by assumption) (New.trans (by assumption) (New.trans (by assumption) (New.trans (by assumption) (by assumption)))))) (by omega) (by omega) (Hid.out (by assumption))).mono ?_); rintro e w' ⟨rfl, hn⟩; dsimp only)
          | (with_reducible (refine (rcmp_v _ (by first | assumption | exact RNumB.new (by assumption) (by first | exact New.refl _ | assumption | exact New.trans (by assumption) (by assumption) | exact New.trans (by assumption) (New.trans (by assumption) (by assumption)) | exact New.trans (by assumption) (New.trans (by assumption) (New.trans (by assumption) (by assumption))) | exact New.trans (by assumption) (New.trans (by assumption) (New.trans (by assumption) (New.trans (by assumption) (by assumption)))))) (by first | assumption | exact RNumB.new (by assumption) (by first | exact New.refl _ | assumption | exact New.trans (by assumption) (by assumption) | exact New.trans (by assumption) (New.trans (by assumption) (by assumption)) | exact New.trans (by assumption) (New.trans (by assumption) (New.trans (by assumption) (by assumption))) | exact New.trans (by assumption) (New.trans (by assumption) (New.trans (by assumption) (New.trans (by assumption) (by assumption)))))) (by omega) (by omega) (Hid.out (by assumption))).mono ?_); rintro e w' ⟨rfl, hn⟩; dsimp only)
          | (with_reducible (refine (sub_n (by first | assumption | exact NumB.new (by assumption) (by first | exact New.refl _ | assumption | exact New.trans (by assumption) (by assumption) | exact New.trans (by assumption) (New.trans (by assumption) (by assumption)) | exact New.trans (by assumption) (New.trans (by assumption) (New.trans (by assumption) (by assumption))) | exact New.trans (by assumption) (New.trans (by assumption) (New.trans (by assumption) (New.trans (by assumption) (by assumption)))))) (by first | assumption | exact NumB.new (by assumption) (by first | exact New.refl _ | assumption | exact New.trans (by assumption) (by assumption) | exact New.trans (by assumption) (New.trans (by assumption) (by assumption)) | exact New.trans (by assumption) (New.trans (by assumption) (New.trans (by assumption) (by assumption))) | exact New.trans (by assumption) (New.trans (by assumption) (New.trans (by assumption) (New.trans (by assumption) (by assumption)))))) (by omega) (by omega)).mono ?_); rintro e w' ⟨v', rfl, hv', hn⟩; dsimp only)
          | (with_reducible (refine (rsub_n (by first | assumption | exact RNumB.new (by assumption) (by first | exact New.refl _ | assumption | exact New.trans (by assumption) (by assumption) | exact New.trans (by assumption) (New.trans (by assumption) (by assumption)) | exact New.trans (by assumption) (New.trans (by assumption) (New.trans (by assumption) (by assumption))) | exact New.trans (by assumption) (New.trans (by assumption) (New.trans (by assumption) (New.trans (by assumption) (by assumption)))))) (by first | assumption | exact RNumB.new (by assumption) (by first | exact New.refl _ | assumption | exact New.trans (by assumption) (by assumption) | exact New.trans (by assumption) (New.trans (by assumption) (by assumption)) | exact New.trans (by assumption) (New.trans (by assumption) (New.trans (by assumption) (by assumption))) | exact New.trans (by assumption) (New.trans (by assumption) (New.trans (by assumption) (New.trans (by assumption) (by assumption)))))) (by omega) (by omega)).mono ?_); rintro e w' ⟨v', rfl, hv', hn⟩; dsimp only)
          | (with_reducible (refine (add_n (by first | assumption | exact NumB.new (by assumption) (by first | exact New.refl _ | assumption | exact New.trans (by assumption) (by assumption) | exact New.trans (by assumption) (New.trans (by assumption) (by assumption)) | exact New.trans (by assumption) (New.trans (by assumption) (New.trans (by assumption) (by assumption))) | exact New.trans (by assumption) (New.trans (by assumption) (New.trans (by assumption) (New.trans (by assumption) (by assumption)))))) (by first | assumption | exact NumB.new (by assumption) (by first | exact New.refl _ | assumption | exact New.trans (by assumption) (by assumption) | exact New.trans (by assumption) (New.trans (by assumption) (by assumption)) | exact New.trans (by assumption) (New.trans (by assumption) (New.trans (by assumption) (by assumption))) | exact New.trans (by assumption) (New.trans (by assumption) (New.trans (by assumption) (New.trans (by assumption) (by assumption)))))) (by omega) (by omega)).mono ?_); rintro e w' ⟨v', rfl, hv', hn⟩; dsimp only)
          | (with_reducible (refine (radd_n (by first | assumption | exact RNumB.new (by assumption) (by first | exact New.refl _ | assumption | exact New.trans (by assumption) (by assumption) | exact New.trans (by assumption) (New.trans (by assumption) (by assumption)) | exact New.trans (by assumption) (New.trans (by assumption) (New.trans (by assumption) (by assumption))) | exact New.trans (by assumption) (New.trans (by assumption) (New.trans (by assumption) (New.trans (by assumption) (by assumption)))))) (by first | assumption | exact RNumB.new (by assumption) (by first | exact New.refl _ | assumption | exact New.trans (by assumption) (by assumption) | exact New.trans (by assumption) (New.trans (by assumption) (by assumption)) | exact New.trans (by assumption) (New.trans (by assumption) (New.trans (by assumption) (by assumption))) | exact New.trans (by assumption) (New.trans (by assumption) (New.trans (by assumption) (New.trans (by assumption) (by assumption)))))) (by omega) (by omega)).mono ?_); rintro e w' ⟨v', rfl, hv', hn⟩; dsimp only)
          | (with_reducible (refine (mul_n (by first | assumption | exact NumB.new (by assumption) (by first | exact New.refl _ | assumption | exact New.trans (by assumption) (by assumption) | exact New.trans (by assumption) (New.trans (by assumption) (by assumption)) | exact New.trans (by assumption) (New.trans (by assumption) (New.trans (by assumption) (by assumption))) | exact New.trans (by assumption) (New.trans (by assumption) (New.trans (by assumption) (New.trans (by assumption) (by assumption)))))) (by first | assumption | exact NumB.new (by assumption) (by first | exact New.refl _ | assumption | exact New.trans (by assumption) (by assumption) | exact New.trans (by assumption) (New.trans (by assumption) (by assumption)) | exact New.trans (by assumption) (New.trans (by assumption) (New.trans (by assumption) (by assumption))) | exact New.trans (by assumption) (New.trans (by assumption) (New.trans (by assumption) (New.trans (by assumption) (by assumption)))))) (by omega) (by omega)).mono ?_); rintro e w' ⟨v', rfl, hv', hn⟩; dsimp only)
          | (with_reducible (refine (rmul_n (by first | assumption | exact RNumB.new (by assumption) (by first | exact New.refl _ | assumption | exact New.trans (by assumption) (by assumption) | exact New.trans (by assumption) (New.trans (by assumption) (by assumption)) | exact New.trans (by assumption) (New.trans (by assumption) (New.trans (by assumption) (by assumption))) | exact New.trans (by assumption) (New.trans (by assumption) (New.trans (by assumption) (New.trans (by assumption) (by assumption)))))) (by first | assumption | exact RNumB.new (by assumption) (by first | exact New.refl _ | assumption | exact New.trans (by assumption) (by assumption) | exact New.trans (by assumption) (New.trans (by assumption) (by assumption)) | exact New.trans (by assumption) (New.trans (by assumption) (New.trans (by assumption) (by assumption))) | exact New.trans (by assumption) (New.trans (by assumption) (New.trans (by assumption) (New.trans (by assumption) (by assumption)))))) (by omega) (by omega)).mono ?_); rintro e w' ⟨v', rfl, hv', hn⟩; dsimp only)))
      go_split_ands
      rename_i hN _ _ _ _ _ _ _ _
      have HNF := Lib.hid (HN3.out.trans hN)
      clear hN
      go_wp2_with fail
      go_ret
      first | exact ⟨rfl, HNF.out⟩ | exact ⟨by simp, HNF.out⟩
end Go.Proofs.YtkjlmibleoecgaaGreatDoor
