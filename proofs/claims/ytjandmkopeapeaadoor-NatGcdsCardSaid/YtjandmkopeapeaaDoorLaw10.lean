/- The laws of 01: NatGcds, walked. (Printed by lawgen.py.) -/
import Derived.Test.YtjandmkopeapeaaDoorLaw4a
import Derived.Test.YtjandmkopeapeaaDoorConD
import Derived.Deep.RegionHeld3
namespace Go.Proofs.YtjandmkopeapeaaDoor
set_option linter.unusedSimpArgs false
set_option linter.unusedVariables false
open Go.RowKit
set_option maxRecDepth 1000000 in
set_option maxHeartbeats 8000000 in
theorem natGcds_walk (a b : ByteArray) (w : World) (L : Lib.TabIs Tryd.prog w "internal/strconv.uint64pow10" .u64 Lib.pow10Tab) :
    Calls Tryd.prog 10 #[.string a, .string b] w fun e w' => e = .returned (.bool true) ∧ Below w.heap.size w w' := by
  have HTAB := Lib.hid L
  clear L
  go_enter Tryd.func10, Tryd.ntmps10
  go_wp2_with fail
  have hbx := Box.last w #[.string a, .string b] 9
  refine (long_c [a, b] _ 2 2 _ rfl (fun i hi => by
    rw [hbx.cell]
    match i, hi with
    | 0, _ => rfl
    | 1, _ => rfl) hbx.lt (by decide) (by decide)).mono ?_
  rintro e w1 ⟨r, rfl, hr, hn1⟩
  have hn1' : New w w1 := ((New.refl w).alloc _).trans hn1
  clear hbx hn1
  cases r with
  | true =>
    go_wp2
    go_ret
    exact ⟨rfl, hn1'⟩
  | false =>
    have hz := hr rfl
    have ha : a.size ≤ 256 := hz a (by simp)
    have hb : b.size ≤ 256 := hz b (by simp)
    have H1 := Lib.hid (fun W => number_c a W (by omega))
    have H2 := Lib.hid (fun W => number_c b W (by omega))
    have HN1 := Lib.hid hn1'
    clear hz hr hn1'
    go_wp2_with fail
    refine (H1.out _).mono ?_
    rintro e w2 ⟨v1, u1, rfl, hv1, hu1, hn2⟩
    obtain ⟨A1, l1, c1, rfl⟩ := hv1.form
    obtain ⟨B1, m1, d1, rfl⟩ := hu1.form
    have T1 := Lib.hid (Two.last hv1 hu1)
    have HN2 := Lib.hid ((HN1.out.trans hn2).alloc (.cells #[.slice A1 l1 c1] 26) |>.alloc (.cells #[.slice B1 m1 d1] 29))
    clear hv1 hu1 hn2 HN1
    go_wp2_with fail
    refine (H2.out _).mono ?_
    rintro e w3 ⟨v2, u2, rfl, hv2, hu2, hn3⟩
    obtain ⟨A2, l2, c2, rfl⟩ := hv2.form
    obtain ⟨B2, m2, d2, rfl⟩ := hu2.form
    have T2 := Lib.hid (Two.last hv2 hu2)
    have T1' := Lib.hid (T1.out.new (hn3.alloc (.cells #[.slice A2 l2 c2] 26) |>.alloc (.cells #[.slice B2 m2 d2] 29)))
    have HN3 := Lib.hid ((HN2.out.trans hn3).alloc (.cells #[.slice A2 l2 c2] 26) |>.alloc (.cells #[.slice B2 m2 d2] 29))
    clear hv2 hu2 hn3 HN2 T1 H1 H2
    have hx6 := T1'.out.bx.cell 0
    have hr6 := T1'.out.dx.cell 0
    have hx10 := T2.out.bx.cell 0
    have hr10 := T2.out.dx.cell 0
    cases i1 : isNum a.data.toList with
    | false => go_wp2_with fail; go_ret; exact ⟨rfl, HN3.out⟩
    | true =>
    cases i2 : isNum b.data.toList with
    | false => go_wp2_with fail; go_ret; exact ⟨rfl, HN3.out⟩
    | true =>
      obtain ⟨L1, E1⟩ := num_facts ha i1
      obtain ⟨L2, E2⟩ := num_facts hb i2
      have R1 := num_ref ha i1
      have R2 := num_ref hb i2
      generalize pNum a.data.toList = x at *
      generalize pNum b.data.toList = y at *
      have hE1 : decS x = a := decS_of E1
      have hE2 : decS y = b := decS_of E2
      have HE1 := Lib.hid hE1
      have HE2 := Lib.hid hE2
      clear E1 E2 i1 i2 hE1 hE2
      go_wp2_with fail
      generalize hW : (w3.alloc (.cells #[.slice A2 l2 c2] 26)).alloc (.cells #[.slice B2 m2 d2] 29) = W at *
      generalize hp6 : w2.heap.size = p6 at *
      generalize hp10 : w3.heap.size = p10 at *
      generalize hq6 : p6 + 1 = q6 at *
      generalize hq10 : p10 + 1 = q10 at *
      clear hW hp6 hp10 hq6 hq10
      have nb1 : NatB W (.agg #[.slice A1 l1 c1]) x 1024 := ⟨T1'.out.nx, L1⟩
      have nb2 : NatB W (.agg #[.slice A2 l2 c2]) y 1024 := ⟨T2.out.nx, L2⟩
      have rb1 : RefB W (.agg #[.slice B1 m1 d1]) x 1024 := ⟨T1'.out.rx, R1⟩
      have rb2 : RefB W (.agg #[.slice B2 m2 d2]) y 1024 := ⟨T2.out.rx, R2⟩
      have HX6 := Lib.hid T1'.out.bx
      have HR6 := Lib.hid T1'.out.dx
      have HX10 := Lib.hid T2.out.bx
      have HR10 := Lib.hid T2.out.dx
      clear T1' T2 L1 L2 R1 R2
      simp only [List.getElem?_toArray, List.getElem?_cons_zero] at hx6 hr6 hx10 hr10
      clear rb1 rb2 hr6 hr10 HR6 HR10 HX6 HX10
      refine (gcd_b nb1 nb2 (by omega) (by omega)).mono ?_
      rintro e w4 ⟨v4, rfl, hv4, hn4⟩
      obtain ⟨A4, l4, c4, rfl⟩ := hv4.form
      have hn4' := hn4.alloc (.cells #[.slice A4 l4 c4] 26)
      obtain ⟨hx14, _⟩ := box_cell0 (Box.last w4 #[.slice A4 l4 c4] 26)
      have nb4 := hv4.new ((New.refl w4).alloc (.cells #[.slice A4 l4 c4] 26))
      replace HN3 := Lib.hid (HN3.out.trans hn4')
      replace hx6 := hn4'.still hx6
      replace hx10 := hn4'.still hx10
      replace nb1 := nb1.new hn4'
      replace nb2 := nb2.new hn4'
      clear hn4' hv4 hn4
      by_cases hxy : x = 0 ∨ y = 0
      · have hsame : Hid (Nat.gcd x y = x + y) := Lib.hid (by rcases hxy with rfl | rfl <;> simp)
        have hor : a.toList = [48] ∨ ((a.toList == [48]) = false ∧ b.toList = [48]) := by
          by_cases hx0 : x = 0
          · exact .inl (text_zero HE1.out hx0)
          · exact .inr ⟨text_pos HE1.out hx0, text_zero HE2.out (by omega)⟩
        clear hxy HE1 HE2
        rcases hor with hd | ⟨hd, hd2⟩
        all_goals
          go_wp2_with fail
          obtain ⟨W4, hW4⟩ : ∃ X : World, X = w4.alloc (.cells #[.slice A4 l4 c4] 26) := ⟨_, rfl⟩
          rw [← hW4] at hx6 hx10 hx14 nb1 nb2 nb4 HN3 ⊢
          clear hW4
          generalize w4.heap.size = p14 at *
          go_region_held3 (fun V => New W4 V ∧ V.cell? ⟨p6, 0, none⟩ = some (.slice A1 l1 c1) ∧ V.cell? ⟨p10, 0, none⟩ = some (.slice A2 l2 c2) ∧ V.cell? ⟨p14, 0, none⟩ = some (.slice A4 l4 c4))
            (first
              | exact ⟨(New.refl _).drew, by simpa using hx6, by simpa using hx10, by simpa using hx14⟩
              | (go_split_ands; exact ⟨New.trans (by assumption) (by assumption), New.still (by assumption) (by assumption), New.still (by assumption) (by assumption), New.still (by assumption) (by assumption)⟩)
              | (go_split_ands; exact ⟨by assumption, by assumption, by assumption, by assumption⟩))
            ((rw [if_pos (by rfl)]; go_big_op; go_split_ands; first
              | (with_reducible (refine (cmp_same (NatB.new (by assumption) (by first | exact New.refl _ | assumption | exact (New.refl _).alloc _ | exact New.alloc (by assumption) _ | exact New.trans ((New.refl _).alloc _) (by assumption) | exact New.trans (by assumption) (New.trans ((New.refl _).alloc _) (by assumption)) | exact New.alloc (New.trans (by assumption) (by assumption)) _ | exact New.trans (by assumption) (by assumption) | exact New.trans (by assumption) (New.trans (by assumption) (by assumption)) | exact New.trans (by assumption) (New.trans (by assumption) (New.trans (by assumption) (by assumption))) | exact New.trans (by assumption) (New.trans (by assumption) (New.trans (by assumption) (New.trans (by assumption) (by assumption)))) | exact New.trans (by assumption) (New.trans (by assumption) (New.trans (by assumption) (New.trans (by assumption) (New.trans (by assumption) (by assumption))))) | exact New.trans (by assumption) (New.trans (by assumption) (New.trans (by assumption) (New.trans (by assumption) (New.trans (by assumption) (New.trans (by assumption) (by assumption)))))))) (NatB.new (by assumption) (by first | exact New.refl _ | assumption | exact (New.refl _).alloc _ | exact New.alloc (by assumption) _ | exact New.trans ((New.refl _).alloc _) (by assumption) | exact New.trans (by assumption) (New.trans ((New.refl _).alloc _) (by assumption)) | exact New.alloc (New.trans (by assumption) (by assumption)) _ | exact New.trans (by assumption) (by assumption) | exact New.trans (by assumption) (New.trans (by assumption) (by assumption)) | exact New.trans (by assumption) (New.trans (by assumption) (New.trans (by assumption) (by assumption))) | exact New.trans (by assumption) (New.trans (by assumption) (New.trans (by assumption) (New.trans (by assumption) (by assumption)))) | exact New.trans (by assumption) (New.trans (by assumption) (New.trans (by assumption) (New.trans (by assumption) (New.trans (by assumption) (by assumption))))) | exact New.trans (by assumption) (New.trans (by assumption) (New.trans (by assumption) (New.trans (by assumption) (New.trans (by assumption) (New.trans (by assumption) (by assumption)))))))) (by omega) (by omega) hsame.out).mono ?_); rintro e w' ⟨rfl, hn⟩; dsimp only)
              | (with_reducible (refine (add_b (NatB.new (by assumption) (by first | exact New.refl _ | assumption | exact (New.refl _).alloc _ | exact New.alloc (by assumption) _ | exact New.trans ((New.refl _).alloc _) (by assumption) | exact New.trans (by assumption) (New.trans ((New.refl _).alloc _) (by assumption)) | exact New.alloc (New.trans (by assumption) (by assumption)) _ | exact New.trans (by assumption) (by assumption) | exact New.trans (by assumption) (New.trans (by assumption) (by assumption)) | exact New.trans (by assumption) (New.trans (by assumption) (New.trans (by assumption) (by assumption))) | exact New.trans (by assumption) (New.trans (by assumption) (New.trans (by assumption) (New.trans (by assumption) (by assumption)))) | exact New.trans (by assumption) (New.trans (by assumption) (New.trans (by assumption) (New.trans (by assumption) (New.trans (by assumption) (by assumption))))) | exact New.trans (by assumption) (New.trans (by assumption) (New.trans (by assumption) (New.trans (by assumption) (New.trans (by assumption) (New.trans (by assumption) (by assumption)))))))) (NatB.new (by assumption) (by first | exact New.refl _ | assumption | exact (New.refl _).alloc _ | exact New.alloc (by assumption) _ | exact New.trans ((New.refl _).alloc _) (by assumption) | exact New.trans (by assumption) (New.trans ((New.refl _).alloc _) (by assumption)) | exact New.alloc (New.trans (by assumption) (by assumption)) _ | exact New.trans (by assumption) (by assumption) | exact New.trans (by assumption) (New.trans (by assumption) (by assumption)) | exact New.trans (by assumption) (New.trans (by assumption) (New.trans (by assumption) (by assumption))) | exact New.trans (by assumption) (New.trans (by assumption) (New.trans (by assumption) (New.trans (by assumption) (by assumption)))) | exact New.trans (by assumption) (New.trans (by assumption) (New.trans (by assumption) (New.trans (by assumption) (New.trans (by assumption) (by assumption))))) | exact New.trans (by assumption) (New.trans (by assumption) (New.trans (by assumption) (New.trans (by assumption) (New.trans (by assumption) (New.trans (by assumption) (by assumption)))))))) (by omega) (by omega)).mono ?_); rintro e w' ⟨v', rfl, hv', hn⟩; dsimp only)))
          go_split_ands
          rename_i hN _ _ _
          have HNF := Lib.hid (HN3.out.trans hN)
          clear hN
          go_wp2_with fail
          go_ret
          first | exact ⟨rfl, HNF.out⟩ | exact ⟨by simp, HNF.out⟩
      · have hd := text_pos HE1.out (show x ≠ 0 by omega)
        have hd2 := text_pos HE2.out (show y ≠ 0 by omega)
        have hg0 : 0 < Nat.gcd x y := Nat.gcd_pos_of_pos_left _ (by omega)
        have HD1 : Hid (x % Nat.gcd x y = 0) := Lib.hid (Nat.mod_eq_zero_of_dvd (Nat.gcd_dvd_left x y))
        have HD2 : Hid (y % Nat.gcd x y = 0) := Lib.hid (Nat.mod_eq_zero_of_dvd (Nat.gcd_dvd_right x y))
        have HD3 : Hid (decS (Nat.gcd (x / Nat.gcd x y) (y / Nat.gcd x y)) = ⟨#[49]⟩) := Lib.hid (by rw [Nat.gcd_div (Nat.gcd_dvd_left x y) (Nat.gcd_dvd_right x y), Nat.div_self hg0]; exact decS_one)
        generalize Nat.gcd x y = g at *
        have HM1 := Lib.hid (fun W (h1 : NatB W (.agg #[.slice A1 l1 c1]) x 1024) (h2 : NatB W (.agg #[.slice A4 l4 c4]) g 2048) => divmod_b1 h1 h2 (by omega) (by omega) hg0)
        have HM2 := Lib.hid (fun W (h1 : NatB W (.agg #[.slice A2 l2 c2]) y 1024) (h2 : NatB W (.agg #[.slice A4 l4 c4]) g 2048) => divmod_b1 h1 h2 (by omega) (by omega) hg0)
        rw [HD1.out] at HM1
        rw [HD2.out] at HM2
        clear hxy hg0 HE1 HE2 HD1 HD2
        go_wp2_with fail
        refine (HM1.out _ nb1 nb4).mono ?_
        rintro e w5 ⟨v5, v6, rfl, hv5, hv6, hn5⟩
        obtain ⟨A5, l5, c5, rfl⟩ := hv5.form
        obtain ⟨A6, l6, c6, rfl⟩ := hv6.form
        have hn' := (hn5.alloc (.cells #[.slice A5 l5 c5] 26)).alloc (.cells #[.slice A6 l6 c6] 26)
        have hz5 := ((Box.last w5 #[.slice A5 l5 c5] 26).alloc (.cells #[.slice A6 l6 c6] 26)).cell 0
        have hz6 := (Box.last2 w5 (.cells #[.slice A5 l5 c5] 26) #[.slice A6 l6 c6] 26).cell 0
        simp only [List.getElem?_toArray, List.getElem?_cons_zero] at hz5 hz6
        have nb5 := hv5.new (((New.refl w5).alloc (.cells #[.slice A5 l5 c5] 26)).alloc (.cells #[.slice A6 l6 c6] 26))
        have nb6 := hv6.new (((New.refl w5).alloc (.cells #[.slice A5 l5 c5] 26)).alloc (.cells #[.slice A6 l6 c6] 26))
        replace HN3 := Lib.hid (HN3.out.trans hn')
        replace hx10 := hn'.still hx10
        replace hx14 := hn'.still hx14
        replace nb2 := nb2.new hn'
        replace nb4 := nb4.new hn'
        clear hn5 hn' hv5 hv6
        go_wp2_with fail
        refine (HM2.out _ nb2 nb4).mono ?_
        rintro e w6 ⟨v7, v8, rfl, hv7, hv8, hn6⟩
        obtain ⟨A7, l7, c7, rfl⟩ := hv7.form
        obtain ⟨A8, l8, c8, rfl⟩ := hv8.form
        have hn' := (hn6.alloc (.cells #[.slice A7 l7 c7] 26)).alloc (.cells #[.slice A8 l8 c8] 26)
        have hz7 := ((Box.last w6 #[.slice A7 l7 c7] 26).alloc (.cells #[.slice A8 l8 c8] 26)).cell 0
        have hz8 := (Box.last2 w6 (.cells #[.slice A7 l7 c7] 26) #[.slice A8 l8 c8] 26).cell 0
        simp only [List.getElem?_toArray, List.getElem?_cons_zero] at hz7 hz8
        have nb7 := hv7.new (((New.refl w6).alloc (.cells #[.slice A7 l7 c7] 26)).alloc (.cells #[.slice A8 l8 c8] 26))
        have nb8 := hv8.new (((New.refl w6).alloc (.cells #[.slice A7 l7 c7] 26)).alloc (.cells #[.slice A8 l8 c8] 26))
        replace HN3 := Lib.hid (HN3.out.trans hn')
        replace hz5 := hn'.still hz5
        replace hz6 := hn'.still hz6
        replace nb5 := nb5.new hn'
        replace nb6 := nb6.new hn'
        clear hn6 hn' hv7 hv8
        clear HM1 HM2 nb1 nb2 nb4 hx6 hx10 hx14
        have htab := Lib.hid (tabIs_new HN3.out HTAB.out)
        go_wp2_with fail
        refine (text_s nb6 (by omega) htab.out decS_zero).mono ?_
        rintro e w7 ⟨rfl, hn7⟩
        replace hz5 := hn7.still hz5
        replace hz7 := hn7.still hz7
        replace hz8 := hn7.still hz8
        replace nb5 := nb5.new hn7
        replace nb7 := nb7.new hn7
        replace nb8 := nb8.new hn7
        replace HN3 := Lib.hid (HN3.out.trans hn7)
        replace htab := Lib.hid (tabIs_new hn7 htab.out)
        clear hn7 hz6 nb6
        go_wp2_with fail
        refine (text_s nb8 (by omega) htab.out decS_zero).mono ?_
        rintro e w9 ⟨rfl, hn9⟩
        replace hz5 := hn9.still hz5
        replace hz7 := hn9.still hz7
        replace nb5 := nb5.new hn9
        replace nb7 := nb7.new hn9
        replace HN3 := Lib.hid (HN3.out.trans hn9)
        replace htab := Lib.hid (tabIs_new hn9 htab.out)
        clear hn9 hz8 nb8
        go_wp2_with fail
        refine (gcd_b nb5 nb7 (by omega) (by omega)).mono ?_
        rintro e w10 ⟨v10, rfl, hv10, hn10⟩
        obtain ⟨A10, l10, c10, rfl⟩ := hv10.form
        replace HN3 := Lib.hid (HN3.out.trans hn10)
        replace htab := Lib.hid (tabIs_new hn10 htab.out)
        have HV10 := Lib.hid hv10
        clear hn10 hz5 hz7 nb5 nb7 hv10
        go_wp2_with fail
        refine (text_s HV10.out (by omega) htab.out HD3.out).mono ?_
        rintro e w11 ⟨rfl, hn11⟩
        have HNF := Lib.hid (HN3.out.trans hn11)
        clear hn11
        go_wp2_with fail
        go_ret
        first | exact ⟨rfl, HNF.out⟩ | exact ⟨by simp, HNF.out⟩
end Go.Proofs.YtjandmkopeapeaaDoor
