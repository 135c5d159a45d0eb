/- The laws of 01: NatSums, walked. (Printed by lawgen.py.) -/
import Derived.Test.YtjandmkopeapeaaDoorLaw4a
import Derived.Deep.RegionHeld3
namespace Go.Proofs.YtjandmkopeapeaaDoor
set_option linter.unusedSimpArgs false
set_option linter.unusedVariables false
open Go.RowKit
set_option maxRecDepth 1000000 in
set_option maxHeartbeats 8000000 in
theorem natSums_walk (a b : ByteArray) (w : World) (L : Lib.TabIs Tryd.prog w "internal/strconv.uint64pow10" .u64 Lib.pow10Tab) :
    Calls Tryd.prog 6 #[.string a, .string b] w fun e w' => e = .returned (.bool true) ∧ Below w.heap.size w w' := by
  have HTAB := Lib.hid L
  clear L
  go_enter Tryd.func6, Tryd.ntmps6
  go_wp2_with fail
  have hbx := Box.last w #[.string a, .string b] 9
  refine (long_c [a, b] _ 2 2 _ rfl (fun i hi => by
    rw [hbx.cell]
    match i, hi with
    | 0, _ => rfl
    | 1, _ => rfl) hbx.lt (by decide) (by decide)).mono ?_
  rintro e w1 ⟨r, rfl, hr, hn1⟩
  have hn1' : New w w1 := ((New.refl w).alloc _).trans hn1
  clear hbx hn1
  cases r with
  | true =>
    go_wp2
    go_ret
    exact ⟨rfl, hn1'⟩
  | false =>
    have hz := hr rfl
    have ha : a.size ≤ 256 := hz a (by simp)
    have hb : b.size ≤ 256 := hz b (by simp)
    have H1 := Lib.hid (fun W => number_c a W (by omega))
    have H2 := Lib.hid (fun W => number_c b W (by omega))
    have HN1 := Lib.hid hn1'
    clear hz hr hn1'
    go_wp2_with fail
    refine (H1.out _).mono ?_
    rintro e w2 ⟨v1, u1, rfl, hv1, hu1, hn2⟩
    obtain ⟨A1, l1, c1, rfl⟩ := hv1.form
    obtain ⟨B1, m1, d1, rfl⟩ := hu1.form
    have T1 := Lib.hid (Two.last hv1 hu1)
    have HN2 := Lib.hid ((HN1.out.trans hn2).alloc (.cells #[.slice A1 l1 c1] 26) |>.alloc (.cells #[.slice B1 m1 d1] 29))
    clear hv1 hu1 hn2 HN1
    go_wp2_with fail
    refine (H2.out _).mono ?_
    rintro e w3 ⟨v2, u2, rfl, hv2, hu2, hn3⟩
    obtain ⟨A2, l2, c2, rfl⟩ := hv2.form
    obtain ⟨B2, m2, d2, rfl⟩ := hu2.form
    have T2 := Lib.hid (Two.last hv2 hu2)
    have T1' := Lib.hid (T1.out.new (hn3.alloc (.cells #[.slice A2 l2 c2] 26) |>.alloc (.cells #[.slice B2 m2 d2] 29)))
    have HN3 := Lib.hid ((HN2.out.trans hn3).alloc (.cells #[.slice A2 l2 c2] 26) |>.alloc (.cells #[.slice B2 m2 d2] 29))
    clear hv2 hu2 hn3 HN2 T1 H1 H2
    have hx6 := T1'.out.bx.cell 0
    have hr6 := T1'.out.dx.cell 0
    have hx10 := T2.out.bx.cell 0
    have hr10 := T2.out.dx.cell 0
    cases i1 : isNum a.data.toList with
    | false => go_wp2_with fail; go_ret; exact ⟨rfl, HN3.out⟩
    | true =>
    cases i2 : isNum b.data.toList with
    | false => go_wp2_with fail; go_ret; exact ⟨rfl, HN3.out⟩
    | true =>
      obtain ⟨L1, E1⟩ := num_facts ha i1
      obtain ⟨L2, E2⟩ := num_facts hb i2
      have R1 := num_ref ha i1
      have R2 := num_ref hb i2
      generalize pNum a.data.toList = x at *
      generalize pNum b.data.toList = y at *
      have hE1 : decS x = a := decS_of E1
      have hE2 : decS y = b := decS_of E2
      have HE1 := Lib.hid hE1
      have HE2 := Lib.hid hE2
      clear E1 E2 i1 i2 hE1 hE2
      go_wp2_with fail
      generalize hW : (w3.alloc (.cells #[.slice A2 l2 c2] 26)).alloc (.cells #[.slice B2 m2 d2] 29) = W at *
      generalize hp6 : w2.heap.size = p6 at *
      generalize hp10 : w3.heap.size = p10 at *
      generalize hq6 : p6 + 1 = q6 at *
      generalize hq10 : p10 + 1 = q10 at *
      clear hW hp6 hp10 hq6 hq10
      have nb1 : NatB W (.agg #[.slice A1 l1 c1]) x 1024 := ⟨T1'.out.nx, L1⟩
      have nb2 : NatB W (.agg #[.slice A2 l2 c2]) y 1024 := ⟨T2.out.nx, L2⟩
      have rb1 : RefB W (.agg #[.slice B1 m1 d1]) x 1024 := ⟨T1'.out.rx, R1⟩
      have rb2 : RefB W (.agg #[.slice B2 m2 d2]) y 1024 := ⟨T2.out.rx, R2⟩
      have HX6 := Lib.hid T1'.out.bx
      have HR6 := Lib.hid T1'.out.dx
      have HX10 := Lib.hid T2.out.bx
      have HR10 := Lib.hid T2.out.dx
      clear T1' T2 L1 L2 R1 R2
      simp only [List.getElem?_toArray, List.getElem?_cons_zero] at hx6 hr6 hx10 hr10
      refine (sub_e nb1 nb2 (by omega) (by omega)).mono ?_
      rintro e w4 ⟨v4, rfl, hv4, hn4⟩
      obtain ⟨A4, l4, c4, rfl⟩ := hv4.form
      have hn4' := hn4.alloc (.cells #[.slice A4 l4 c4] 26)
      have hx14 := (Box.last w4 #[.slice A4 l4 c4] 26).cell 0
      have nb4 := hv4.new ((New.refl w4).alloc (.cells #[.slice A4 l4 c4] 26))
      have mb1 := nb1.new hn4'
      have mb2 := nb2.new hn4'
      have mr1 := rb1.new hn4'
      have mr2 := rb2.new hn4'
      have hy6 := hn4'.still hx6
      have hy10 := hn4'.still hx10
      have hyr6 := hn4'.still hr6
      have hyr10 := hn4'.still hr10
      have HN4 := Lib.hid (HN3.out.trans hn4')
      clear nb1 nb2 rb1 rb2 hx6 hx10 hr6 hr10 HX6 HX10 HR6 HR10 HN3 hn4' hn4 hv4
      go_wp2_with fail
      generalize hW4 : w4.alloc (.cells #[.slice A4 l4 c4] 26) = W4 at *
      generalize hp14 : w4.heap.size = p14 at *
      clear hW4 hp14 w4
      refine (rsub_e mr1 mr2 (by omega) (by omega)).mono ?_
      rintro e w5 ⟨v5, rfl, hv5, hn5⟩
      obtain ⟨A5, l5, c5, rfl⟩ := hv5.form
      have hn5' := hn5.alloc (.cells #[.slice A5 l5 c5] 29)
      have hx16 := (Box.last w5 #[.slice A5 l5 c5] 29).cell 0
      have rb5 := hv5.new ((New.refl w5).alloc (.cells #[.slice A5 l5 c5] 29))
      have nb1 := mb1.new hn5'
      have nb2 := mb2.new hn5'
      have rb1 := mr1.new hn5'
      have rb2 := mr2.new hn5'
      have nb3 := nb4.new hn5'
      have hx6 := hn5'.still hy6
      have hx10 := hn5'.still hy10
      have hr6 := hn5'.still hyr6
      have hr10 := hn5'.still hyr10
      have hz14 := hn5'.still hx14
      have HN5 := Lib.hid (HN4.out.trans hn5')
      clear mb1 mb2 mr1 mr2 nb4 hy6 hy10 hyr6 hyr10 hx14 HN4 hn5' hn5 hv5
      simp only [List.getElem?_toArray, List.getElem?_cons_zero] at hx16 hz14
      generalize subE x y = se at *
      go_wp2_with fail
      generalize hW5 : w5.alloc (.cells #[.slice A5 l5 c5] 29) = W5 at *
      generalize hp16 : w5.heap.size = p16 at *
      clear hW5 hp16
      have htab := Lib.hid (tabIs_new HN5.out HTAB.out)
      go_region_held3 (fun V => New W5 V ∧ V.cell? ⟨p6, 0, none⟩ = some (.slice A1 l1 c1) ∧ V.cell? ⟨q6, 0, none⟩ = some (.slice B1 m1 d1) ∧ V.cell? ⟨p10, 0, none⟩ = some (.slice A2 l2 c2) ∧ V.cell? ⟨q10, 0, none⟩ = some (.slice B2 m2 d2) ∧ V.cell? ⟨p14, 0, none⟩ = some (.slice A4 l4 c4) ∧ V.cell? ⟨p16, 0, none⟩ = some (.slice A5 l5 c5))
          (first
            | exact ⟨(New.refl _).drew, by simpa using hx6, by simpa using hr6, by simpa using hx10, by simpa using hr10, by simpa using hz14, by simpa using hx16⟩
            | (go_split_ands; exact ⟨New.trans (by assumption) (by assumption), New.still (by assumption) (by assumption), New.still (by assumption) (by assumption), New.still (by assumption) (by assumption), New.still (by assumption) (by assumption), New.still (by assumption) (by assumption), New.still (by assumption) (by assumption)⟩)
            | (go_split_ands; exact ⟨by assumption, by assumption, by assumption, by assumption, by assumption, by assumption, by assumption⟩))
          ((rw [if_pos (by rfl)]; go_big_op; go_split_ands; first
            | (with_reducible (refine (text_s (NatB.new (by assumption) (by first | exact New.refl _ | assumption | exact (New.refl _).alloc _ | exact New.trans (by assumption) (by assumption) | exact New.trans (by assumption) (New.trans (by assumption) (by assumption)))) (by omega) (tabIs_new (by first | exact New.refl _ | assumption | exact (New.refl _).alloc _ | exact New.trans (by assumption) (by assumption) | exact New.trans (by assumption) (New.trans (by assumption) (by assumption))) htab.out) HE1.out).mono ?_); rintro e w' ⟨rfl, hn⟩; dsimp only)
            | (with_reducible (refine (text_s (NatB.new (by assumption) (by first | exact New.refl _ | assumption | exact (New.refl _).alloc _ | exact New.trans (by assumption) (by assumption) | exact New.trans (by assumption) (New.trans (by assumption) (by assumption)))) (by omega) (tabIs_new (by first | exact New.refl _ | assumption | exact (New.refl _).alloc _ | exact New.trans (by assumption) (by assumption) | exact New.trans (by assumption) (New.trans (by assumption) (by assumption))) htab.out) HE2.out).mono ?_); rintro e w' ⟨rfl, hn⟩; dsimp only)
            | (with_reducible (refine (text_v (NatB.new (by assumption) (by first | exact New.refl _ | assumption | exact (New.refl _).alloc _ | exact New.trans (by assumption) (by assumption) | exact New.trans (by assumption) (New.trans (by assumption) (by assumption)))) (by omega) (tabIs_new (by first | exact New.refl _ | assumption | exact (New.refl _).alloc _ | exact New.trans (by assumption) (by assumption) | exact New.trans (by assumption) (New.trans (by assumption) (by assumption))) htab.out)).mono ?_); rintro e w' ⟨rfl, hn⟩; dsimp only)
            | (with_reducible (refine (rtext_v (RefB.new (by assumption) (by first | exact New.refl _ | assumption | exact (New.refl _).alloc _ | exact New.trans (by assumption) (by assumption) | exact New.trans (by assumption) (New.trans (by assumption) (by assumption)))) (by omega)).mono ?_); rintro e w' ⟨rfl, hn⟩; dsimp only)
            | (with_reducible (refine (add_b (NatB.new (by assumption) (by first | exact New.refl _ | assumption | exact (New.refl _).alloc _ | exact New.trans (by assumption) (by assumption) | exact New.trans (by assumption) (New.trans (by assumption) (by assumption)))) (NatB.new (by assumption) (by first | exact New.refl _ | assumption | exact (New.refl _).alloc _ | exact New.trans (by assumption) (by assumption) | exact New.trans (by assumption) (New.trans (by assumption) (by assumption)))) (by omega) (by omega)).mono ?_); rintro e w' ⟨v', rfl, hv', hn⟩; dsimp only)
            | (with_reducible (refine (mul_b (NatB.new (by assumption) (by first | exact New.refl _ | assumption | exact (New.refl _).alloc _ | exact New.trans (by assumption) (by assumption) | exact New.trans (by assumption) (New.trans (by assumption) (by assumption)))) (NatB.new (by assumption) (by first | exact New.refl _ | assumption | exact (New.refl _).alloc _ | exact New.trans (by assumption) (by assumption) | exact New.trans (by assumption) (New.trans (by assumption) (by assumption)))) (by omega) (by omega)).mono ?_); rintro e w' ⟨v', rfl, hv', hn⟩; dsimp only)
            | (with_reducible (refine (radd_b (RefB.new (by assumption) (by first | exact New.refl _ | assumption | exact (New.refl _).alloc _ | exact New.trans (by assumption) (by assumption) | exact New.trans (by assumption) (New.trans (by assumption) (by assumption)))) (RefB.new (by assumption) (by first | exact New.refl _ | assumption | exact (New.refl _).alloc _ | exact New.trans (by assumption) (by assumption) | exact New.trans (by assumption) (New.trans (by assumption) (by assumption)))) (by omega) (by omega)).mono ?_); rintro e w' ⟨v', rfl, hv', hn⟩; dsimp only)
            | (with_reducible (refine (rmul_b (RefB.new (by assumption) (by first | exact New.refl _ | assumption | exact (New.refl _).alloc _ | exact New.trans (by assumption) (by assumption) | exact New.trans (by assumption) (New.trans (by assumption) (by assumption)))) (RefB.new (by assumption) (by first | exact New.refl _ | assumption | exact (New.refl _).alloc _ | exact New.trans (by assumption) (by assumption) | exact New.trans (by assumption) (New.trans (by assumption) (by assumption)))) (by omega) (by omega)).mono ?_); rintro e w' ⟨v', rfl, hv', hn⟩; dsimp only)))
      go_split_ands
      rename_i hN _ _ _ _ _ _
      have HNF := Lib.hid (HN5.out.trans hN)
      clear hN
      have hE1 := HE1.out
      have hE2 := HE2.out
      go_wp2_with fail
      go_ret
      first | exact ⟨rfl, HNF.out⟩ | exact ⟨by simp [hE1, hE2], HNF.out⟩
end Go.Proofs.YtjandmkopeapeaaDoor
