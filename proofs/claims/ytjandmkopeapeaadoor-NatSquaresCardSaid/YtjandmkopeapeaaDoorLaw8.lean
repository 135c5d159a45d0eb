/- The laws of 01: NatSquares, walked. (Printed by lawgen.py.) -/
import Derived.Test.YtjandmkopeapeaaDoorLaw4a
import Derived.Test.YtjandmkopeapeaaDoorNat2
import Derived.Deep.RegionHeld3
namespace Go.Proofs.YtjandmkopeapeaaDoor
set_option linter.unusedSimpArgs false
set_option linter.unusedVariables false
open Go.RowKit
theorem sq_one (x y : Nat) : (x + y) * (x + y) = x * x + x * y * 2 + y * y := by
  rw [Nat.add_mul, Nat.mul_add, Nat.mul_add, Nat.mul_comm y x]; omega
theorem sq_two {x y : Nat} (h : y ≤ x) : (x + y) * (x - y) = x * x - y * y := by
  obtain ⟨d, rfl⟩ := Nat.exists_eq_add_of_le h
  rw [Nat.add_sub_cancel_left]
  have e : (y + d) * (y + d) = y * y + (y + d + y) * d := by
    simp only [Nat.add_mul, Nat.mul_add]
    have := Nat.mul_comm d y
    omega
  rw [e]; omega
theorem decS_two : decS 2 = ⟨#[50]⟩ := by unfold decS; rw [dec_small (by omega)]; rfl
theorem cmp_lt {x y : Nat} (h : x < y) : cmpN x y = -1 := by unfold cmpN; rw [if_pos h]
theorem cmp_ge {x y : Nat} (h : ¬ x < y) : ¬ cmpN x y < 0 := by unfold cmpN; split <;> (try split) <;> omega
set_option maxRecDepth 1000000 in
set_option maxHeartbeats 8000000 in
theorem natSquares_walk (a b : ByteArray) (w : World) (L : Lib.TabIs Tryd.prog w "internal/strconv.uint64pow10" .u64 Lib.pow10Tab) :
    Calls Tryd.prog 8 #[.string a, .string b] w fun e w' => e = .returned (.bool true) ∧ Below w.heap.size w w' := by
  have HTAB := Lib.hid L
  clear L
  go_enter Tryd.func8, Tryd.ntmps8
  go_wp2_with fail
  have hbx := Box.last w #[.string a, .string b] 9
  refine (long_c [a, b] _ 2 2 _ rfl (fun i hi => by
    rw [hbx.cell]
    match i, hi with
    | 0, _ => rfl
    | 1, _ => rfl) hbx.lt (by decide) (by decide)).mono ?_
  rintro e w1 ⟨r, rfl, hr, hn1⟩
  have hn1' : New w w1 := ((New.refl w).alloc _).trans hn1
  clear hbx hn1
  cases r with
  | true =>
    go_wp2
    go_ret
    exact ⟨rfl, hn1'⟩
  | false =>
    have hz := hr rfl
    have ha : a.size ≤ 256 := hz a (by simp)
    have hb : b.size ≤ 256 := hz b (by simp)
    have H1 := Lib.hid (fun W => number_c a W (by omega))
    have H2 := Lib.hid (fun W => number_c b W (by omega))
    have HN1 := Lib.hid hn1'
    clear hz hr hn1'
    go_wp2_with fail
    refine (H1.out _).mono ?_
    rintro e w2 ⟨v1, u1, rfl, hv1, hu1, hn2⟩
    obtain ⟨A1, l1, c1, rfl⟩ := hv1.form
    obtain ⟨B1, m1, d1, rfl⟩ := hu1.form
    have T1 := Lib.hid (Two.last hv1 hu1)
    have HN2 := Lib.hid ((HN1.out.trans hn2).alloc (.cells #[.slice A1 l1 c1] 26) |>.alloc (.cells #[.slice B1 m1 d1] 29))
    have HP6 := Lib.hid (HN1.out.trans hn2).le
    clear hv1 hu1 hn2 HN1
    go_wp2_with fail
    refine (H2.out _).mono ?_
    rintro e w3 ⟨v2, u2, rfl, hv2, hu2, hn3⟩
    obtain ⟨A2, l2, c2, rfl⟩ := hv2.form
    obtain ⟨B2, m2, d2, rfl⟩ := hu2.form
    have T2 := Lib.hid (Two.last hv2 hu2)
    have T1' := Lib.hid (T1.out.new (hn3.alloc (.cells #[.slice A2 l2 c2] 26) |>.alloc (.cells #[.slice B2 m2 d2] 29)))
    have HN3 := Lib.hid ((HN2.out.trans hn3).alloc (.cells #[.slice A2 l2 c2] 26) |>.alloc (.cells #[.slice B2 m2 d2] 29))
    have HP10 := Lib.hid (HN2.out.trans hn3).le
    have HLT6 := Lib.hid (T1.out.bx.lt)
    have HLE6 := Lib.hid (hn3.le)
    clear hv2 hu2 hn3 HN2 T1 H1 H2
    have hx6 := T1'.out.bx.cell 0
    have hr6 := T1'.out.dx.cell 0
    have hx10 := T2.out.bx.cell 0
    have hr10 := T2.out.dx.cell 0
    cases i1 : isNum a.data.toList with
    | false => go_wp2_with fail; go_ret; exact ⟨rfl, HN3.out⟩
    | true =>
    cases i2 : isNum b.data.toList with
    | false => go_wp2_with fail; go_ret; exact ⟨rfl, HN3.out⟩
    | true =>
      obtain ⟨L1, E1⟩ := num_facts ha i1
      obtain ⟨L2, E2⟩ := num_facts hb i2
      have R1 := num_ref ha i1
      have R2 := num_ref hb i2
      generalize pNum a.data.toList = x at *
      generalize pNum b.data.toList = y at *
      have hE1 : decS x = a := decS_of E1
      have hE2 : decS y = b := decS_of E2
      have HE1 := Lib.hid hE1
      have HE2 := Lib.hid hE2
      clear E1 E2 i1 i2 hE1 hE2
      go_wp2_with fail
      generalize hW : (w3.alloc (.cells #[.slice A2 l2 c2] 26)).alloc (.cells #[.slice B2 m2 d2] 29) = W at *
      have HNE : Hid (w2.heap.size ≠ w3.heap.size) := Lib.hid (by have h1 := HLT6.out; have h2 := HLE6.out; omega)
      clear HLT6 HLE6
      generalize hp6 : w2.heap.size = p6 at *
      generalize hp10 : w3.heap.size = p10 at *
      generalize hq6 : p6 + 1 = q6 at *
      generalize hq10 : p10 + 1 = q10 at *
      clear hW hp6 hp10 hq6 hq10
      have nb1 : NatB W (.agg #[.slice A1 l1 c1]) x 1024 := ⟨T1'.out.nx, L1⟩
      have nb2 : NatB W (.agg #[.slice A2 l2 c2]) y 1024 := ⟨T2.out.nx, L2⟩
      have rb1 : RefB W (.agg #[.slice B1 m1 d1]) x 1024 := ⟨T1'.out.rx, R1⟩
      have rb2 : RefB W (.agg #[.slice B2 m2 d2]) y 1024 := ⟨T2.out.rx, R2⟩
      have HX6 := Lib.hid T1'.out.bx
      have HR6 := Lib.hid T1'.out.dx
      have HX10 := Lib.hid T2.out.bx
      have HR10 := Lib.hid T2.out.dx
      clear T1' T2 L1 L2 R1 R2
      simp only [List.getElem?_toArray, List.getElem?_cons_zero] at hx6 hr6 hx10 hr10
      clear rb1 rb2 hr6 hr10 HR6 HR10
      refine (of_c (n := 2) (by omega) _).mono ?_
      rintro e w4 ⟨v4, rfl, hv4, hn4⟩
      obtain ⟨A4, l4, c4, rfl⟩ := hv4.form
      have hn4' := hn4.alloc (.cells #[.slice A4 l4 c4] 26)
      obtain ⟨hx14, _⟩ := box_cell0 (Box.last w4 #[.slice A4 l4 c4] 26)
      have HX14 := Lib.hid (Box.last w4 #[.slice A4 l4 c4] 26)
      have nb4 : NatB _ _ 2 2 := ⟨hv4.new ((New.refl w4).alloc (.cells #[.slice A4 l4 c4] 26)), by exact dg_len B32_2 (by rw [B32_eq]; omega)⟩
      replace HN3 := Lib.hid (HN3.out.trans hn4')
      replace hx6 := hn4'.still hx6
      replace hx10 := hn4'.still hx10
      replace nb1 := nb1.new hn4'
      replace nb2 := nb2.new hn4'
      have HX6s := HX6
      have HX10s := HX10
      replace HX6 := Lib.hid (Box.new hn4' HX6.out)
      replace HX10 := Lib.hid (Box.new hn4' HX10.out)
      have HLT10 := Lib.hid (HX10.out.lt)
      have HLT6 := Lib.hid (HX6.out.lt)
      have HNE14 : Hid (p6 ≠ w4.heap.size ∧ p10 ≠ w4.heap.size) := Lib.hid (by
        have h1 := HX6s.out.lt; have h2 := HX10s.out.lt; have h3 := hn4.le; omega)
      clear hn4' hv4 HLT10 HLT6 HX6s HX10s
      go_wp2_with fail
      generalize hW4 : w4.alloc (.cells #[.slice A4 l4 c4] 26) = W4 at *
      generalize hp14 : w4.heap.size = p14 at *
      clear hW4 hp14 hn4
      refine (add_b nb1 nb2 (by omega) (by omega)).mono ?_
      rintro e w5 ⟨v5, rfl, hv5, hn5⟩
      obtain ⟨A5, l5, c5, rfl⟩ := hv5.form
      have hn5' := hn5.alloc (.cells #[.slice A5 l5 c5] 26)
      obtain ⟨hx15, _⟩ := box_cell0 (Box.last w5 #[.slice A5 l5 c5] 26)
      have HX15 := Lib.hid (Box.last w5 #[.slice A5 l5 c5] 26)
      have nb5 := hv5.new ((New.refl w5).alloc (.cells #[.slice A5 l5 c5] 26))
      have HNE15 : Hid (p6 ≠ w5.heap.size ∧ p10 ≠ w5.heap.size) := Lib.hid (by
        have h1 := HX6.out.lt; have h2 := HX10.out.lt; have h3 := hn5.le; omega)
      replace HN3 := Lib.hid (HN3.out.trans hn5')
      replace hx6 := hn5'.still hx6
      replace hx10 := hn5'.still hx10
      replace hx14 := hn5'.still hx14
      replace nb1 := nb1.new hn5'
      replace nb2 := nb2.new hn5'
      replace nb4 := nb4.new hn5'
      replace HX6 := Lib.hid (Box.new hn5' HX6.out)
      replace HX10 := Lib.hid (Box.new hn5' HX10.out)
      replace HX14 := Lib.hid (Box.new hn5' HX14.out)
      clear hn5' hv5
      go_wp2_with fail
      generalize hW5 : w5.alloc (.cells #[.slice A5 l5 c5] 26) = W5 at *
      generalize hp15 : w5.heap.size = p15 at *
      clear hW5 hp15 hn5
      have G1 := Lib.hid (sq_one x y)
      go_region_held3 (fun V => New W5 V ∧ V.cell? ⟨p6, 0, none⟩ = some (.slice A1 l1 c1) ∧ V.cell? ⟨p10, 0, none⟩ = some (.slice A2 l2 c2) ∧ V.cell? ⟨p14, 0, none⟩ = some (.slice A4 l4 c4) ∧ V.cell? ⟨p15, 0, none⟩ = some (.slice A5 l5 c5))
          (first
            | exact ⟨(New.refl _).drew, by simpa using hx6, by simpa using hx10, by simpa using hx14, by simpa using hx15⟩
            | (go_split_ands; exact ⟨New.trans (by assumption) (by assumption), New.still (by assumption) (by assumption), New.still (by assumption) (by assumption), New.still (by assumption) (by assumption), New.still (by assumption) (by assumption)⟩)
            | (go_split_ands; exact ⟨by assumption, by assumption, by assumption, by assumption, by assumption⟩))
          ((rw [if_pos (by rfl)]; go_big_op; go_split_ands; first
            | (with_reducible (refine (cmp_same (NatB.new (by assumption) (by first | exact New.refl _ | assumption | exact (New.refl _).alloc _ | exact New.alloc (by assumption) _ | exact New.trans ((New.refl _).alloc _) (by assumption) | exact New.trans (by assumption) (New.trans ((New.refl _).alloc _) (by assumption)) | exact New.alloc (New.trans (by assumption) (by assumption)) _ | exact New.trans (by assumption) (by assumption) | exact New.trans (by assumption) (New.trans (by assumption) (by assumption)) | exact New.trans (by assumption) (New.trans (by assumption) (New.trans (by assumption) (by assumption))) | exact New.trans (by assumption) (New.trans (by assumption) (New.trans (by assumption) (New.trans (by assumption) (by assumption)))) | exact New.trans (by assumption) (New.trans (by assumption) (New.trans (by assumption) (New.trans (by assumption) (New.trans (by assumption) (by assumption))))) | exact New.trans (by assumption) (New.trans (by assumption) (New.trans (by assumption) (New.trans (by assumption) (New.trans (by assumption) (New.trans (by assumption) (by assumption)))))))) (NatB.new (by assumption) (by first | exact New.refl _ | assumption | exact (New.refl _).alloc _ | exact New.alloc (by assumption) _ | exact New.trans ((New.refl _).alloc _) (by assumption) | exact New.trans (by assumption) (New.trans ((New.refl _).alloc _) (by assumption)) | exact New.alloc (New.trans (by assumption) (by assumption)) _ | exact New.trans (by assumption) (by assumption) | exact New.trans (by assumption) (New.trans (by assumption) (by assumption)) | exact New.trans (by assumption) (New.trans (by assumption) (New.trans (by assumption) (by assumption))) | exact New.trans (by assumption) (New.trans (by assumption) (New.trans (by assumption) (New.trans (by assumption) (by assumption)))) | exact New.trans (by assumption) (New.trans (by assumption) (New.trans (by assumption) (New.trans (by assumption) (New.trans (by assumption) (by assumption))))) | exact New.trans (by assumption) (New.trans (by assumption) (New.trans (by assumption) (New.trans (by assumption) (New.trans (by assumption) (New.trans (by assumption) (by assumption)))))))) (by omega) (by omega) (Hid.out (by assumption))).mono ?_); rintro e w' ⟨rfl, hn⟩; dsimp only)
            | (with_reducible (refine (add_b (NatB.new (by assumption) (by first | exact New.refl _ | assumption | exact (New.refl _).alloc _ | exact New.alloc (by assumption) _ | exact New.trans ((New.refl _).alloc _) (by assumption) | exact New.trans (by assumption) (New.trans ((New.refl _).alloc _) (by assumption)) | exact New.alloc (New.trans (by assumption) (by assumption)) _ | exact New.trans (by assumption) (by assumption) | exact New.trans (by assumption) (New.trans (by assumption) (by assumption)) | exact New.trans (by assumption) (New.trans (by assumption) (New.trans (by assumption) (by assumption))) | exact New.trans (by assumption) (New.trans (by assumption) (New.trans (by assumption) (New.trans (by assumption) (by assumption)))) | exact New.trans (by assumption) (New.trans (by assumption) (New.trans (by assumption) (New.trans (by assumption) (New.trans (by assumption) (by assumption))))) | exact New.trans (by assumption) (New.trans (by assumption) (New.trans (by assumption) (New.trans (by assumption) (New.trans (by assumption) (New.trans (by assumption) (by assumption)))))))) (NatB.new (by assumption) (by first | exact New.refl _ | assumption | exact (New.refl _).alloc _ | exact New.alloc (by assumption) _ | exact New.trans ((New.refl _).alloc _) (by assumption) | exact New.trans (by assumption) (New.trans ((New.refl _).alloc _) (by assumption)) | exact New.alloc (New.trans (by assumption) (by assumption)) _ | exact New.trans (by assumption) (by assumption) | exact New.trans (by assumption) (New.trans (by assumption) (by assumption)) | exact New.trans (by assumption) (New.trans (by assumption) (New.trans (by assumption) (by assumption))) | exact New.trans (by assumption) (New.trans (by assumption) (New.trans (by assumption) (New.trans (by assumption) (by assumption)))) | exact New.trans (by assumption) (New.trans (by assumption) (New.trans (by assumption) (New.trans (by assumption) (New.trans (by assumption) (by assumption))))) | exact New.trans (by assumption) (New.trans (by assumption) (New.trans (by assumption) (New.trans (by assumption) (New.trans (by assumption) (New.trans (by assumption) (by assumption)))))))) (by omega) (by omega)).mono ?_); rintro e w' ⟨v', rfl, hv', hn⟩; dsimp only)
            | (with_reducible (refine (mul_b (NatB.new (by assumption) (by first | exact New.refl _ | assumption | exact (New.refl _).alloc _ | exact New.alloc (by assumption) _ | exact New.trans ((New.refl _).alloc _) (by assumption) | exact New.trans (by assumption) (New.trans ((New.refl _).alloc _) (by assumption)) | exact New.alloc (New.trans (by assumption) (by assumption)) _ | exact New.trans (by assumption) (by assumption) | exact New.trans (by assumption) (New.trans (by assumption) (by assumption)) | exact New.trans (by assumption) (New.trans (by assumption) (New.trans (by assumption) (by assumption))) | exact New.trans (by assumption) (New.trans (by assumption) (New.trans (by assumption) (New.trans (by assumption) (by assumption)))) | exact New.trans (by assumption) (New.trans (by assumption) (New.trans (by assumption) (New.trans (by assumption) (New.trans (by assumption) (by assumption))))) | exact New.trans (by assumption) (New.trans (by assumption) (New.trans (by assumption) (New.trans (by assumption) (New.trans (by assumption) (New.trans (by assumption) (by assumption)))))))) (NatB.new (by assumption) (by first | exact New.refl _ | assumption | exact (New.refl _).alloc _ | exact New.alloc (by assumption) _ | exact New.trans ((New.refl _).alloc _) (by assumption) | exact New.trans (by assumption) (New.trans ((New.refl _).alloc _) (by assumption)) | exact New.alloc (New.trans (by assumption) (by assumption)) _ | exact New.trans (by assumption) (by assumption) | exact New.trans (by assumption) (New.trans (by assumption) (by assumption)) | exact New.trans (by assumption) (New.trans (by assumption) (New.trans (by assumption) (by assumption))) | exact New.trans (by assumption) (New.trans (by assumption) (New.trans (by assumption) (New.trans (by assumption) (by assumption)))) | exact New.trans (by assumption) (New.trans (by assumption) (New.trans (by assumption) (New.trans (by assumption) (New.trans (by assumption) (by assumption))))) | exact New.trans (by assumption) (New.trans (by assumption) (New.trans (by assumption) (New.trans (by assumption) (New.trans (by assumption) (New.trans (by assumption) (by assumption)))))))) (by omega) (by omega)).mono ?_); rintro e w' ⟨v', rfl, hv', hn⟩; dsimp only)))
      go_split_ands
      rename_i hN hd6 hd10 hd14 hd15
      obtain ⟨W6, hW6⟩ : ∃ X : World, X = w' := ⟨_, rfl⟩
      rw [← hW6] at hN hd6 hd10 hd14 hd15 ⊢
      clear hW6 hn hv' G1 hx6 hx10 hx14 hx15
      replace nb1 := nb1.new hN
      replace nb2 := nb2.new hN
      replace nb4 := nb4.new hN
      replace nb5 := nb5.new hN
      replace HX6 := Lib.hid (Box.new hN HX6.out)
      replace HX10 := Lib.hid (Box.new hN HX10.out)
      replace HX14 := Lib.hid (Box.new hN HX14.out)
      replace HX15 := Lib.hid (Box.new hN HX15.out)
      replace HN3 := Lib.hid (HN3.out.trans hN)
      clear hN
      go_wp2_with fail
      refine (cmp_b nb1 nb2 (by omega) (by omega)).mono ?_
      rintro e w7 ⟨rfl, hn7⟩
      replace nb1 := nb1.new hn7
      replace nb2 := nb2.new hn7
      replace nb4 := nb4.new hn7
      replace nb5 := nb5.new hn7
      replace HX6 := Lib.hid (Box.new hn7 HX6.out)
      replace HX10 := Lib.hid (Box.new hn7 HX10.out)
      replace HX14 := Lib.hid (Box.new hn7 HX14.out)
      replace HX15 := Lib.hid (Box.new hn7 HX15.out)
      replace HN3 := Lib.hid (HN3.out.trans hn7)
      clear hn7 hd6 hd10 hd14 hd15 W6
      obtain ⟨hx6, hf6⟩ := box_cell0 HX6.out
      obtain ⟨hx10, hf10⟩ := box_cell0 HX10.out
      obtain ⟨hx14, _⟩ := box_cell0 HX14.out
      obtain ⟨hx15, _⟩ := box_cell0 HX15.out
      by_cases hlt : x < y
      · rw [cmp_lt hlt]
        have HX10a := HX10.out.far (p := p6) (i := 0) (fun h => HNE.out h.symm) (.slice A2 l2 c2)
        replace nb1 := (nb1.set HX6.out (by decide) (i := 0) (.slice A2 l2 c2)).set HX10a (by decide) (i := 0) (.slice A1 l1 c1)
        replace nb2 := (nb2.set HX6.out (by decide) (i := 0) (.slice A2 l2 c2)).set HX10a (by decide) (i := 0) (.slice A1 l1 c1)
        replace nb4 := (nb4.set HX6.out (by decide) (i := 0) (.slice A2 l2 c2)).set HX10a (by decide) (i := 0) (.slice A1 l1 c1)
        replace nb5 := (nb5.set HX6.out (by decide) (i := 0) (.slice A2 l2 c2)).set HX10a (by decide) (i := 0) (.slice A1 l1 c1)
        replace HX6 := Lib.hid ((box_set1 (u := .slice A2 l2 c2) HX6.out).far (p := p10) (i := 0) HNE.out (.slice A1 l1 c1))
        replace HX10 := Lib.hid (box_set1 (u := .slice A1 l1 c1) HX10a)
        replace HX14 := Lib.hid ((HX14.out.far (p := p6) (i := 0) (fun h => HNE14.out.1 h.symm) (.slice A2 l2 c2)).far (p := p10) (i := 0) (fun h => HNE14.out.2 h.symm) (.slice A1 l1 c1))
        replace HX15 := Lib.hid ((HX15.out.far (p := p6) (i := 0) (fun h => HNE15.out.1 h.symm) (.slice A2 l2 c2)).far (p := p10) (i := 0) (fun h => HNE15.out.2 h.symm) (.slice A1 l1 c1))
        replace HN3 := Lib.hid ((HN3.out.setCell (p := ⟨p6, 0, none⟩) HP6.out (.slice A2 l2 c2)).setCell (p := ⟨p10, 0, none⟩) HP10.out (.slice A1 l1 c1))
        have hf10' : (w7.setCell ⟨p6, 0, none⟩ (.slice A2 l2 c2)).frozen? ⟨p10, 0, none⟩ = false := HX10a.frozen 0
        have hc10' : (w7.setCell ⟨p6, 0, none⟩ (.slice A2 l2 c2)).cell? ⟨p10, 0, none⟩ = some (.slice A2 l2 c2) := HX10a.cell 0
        obtain ⟨hx6', _⟩ := box_cell0 HX6.out
        obtain ⟨hx10', _⟩ := box_cell0 HX10.out
        obtain ⟨hx14', _⟩ := box_cell0 HX14.out
        obtain ⟨hx15', _⟩ := box_cell0 HX15.out
        clear HX10a
        go_wp2_with fail
        generalize (w7.setCell ⟨p6, 0, none⟩ (.slice A2 l2 c2)).setCell ⟨p10, 0, none⟩ (.slice A1 l1 c1) = V7 at *
        clear hx6 hx10 hx14 hx15 hf6 hf10 hf10' hc10'
        have hx6 := hx6'
        have hx10 := hx10'
        have hx14 := hx14'
        have hx15 := hx15'
        clear hx6' hx10' hx14' hx15'
        refine (sub_b nb2 nb1 (by omega) (by omega) (by omega)).mono ?_
        rintro e w8 ⟨v8, rfl, hv8, hn8⟩
        obtain ⟨A6, l6, c6, rfl⟩ := hv8.form
        have hn8' := hn8.alloc (.cells #[.slice A6 l6 c6] 26)
        obtain ⟨hx16, _⟩ := box_cell0 (Box.last w8 #[.slice A6 l6 c6] 26)
        have nb6 := hv8.new ((New.refl w8).alloc (.cells #[.slice A6 l6 c6] 26))
        replace nb1 := nb1.new hn8'
        replace nb2 := nb2.new hn8'
        replace nb4 := nb4.new hn8'
        replace nb5 := nb5.new hn8'
        replace hx6 := hn8'.still hx6
        replace hx10 := hn8'.still hx10
        replace hx14 := hn8'.still hx14
        replace hx15 := hn8'.still hx15
        replace HN3 := Lib.hid (HN3.out.trans hn8')
        go_wp2_with fail
        generalize hW8 : w8.alloc (.cells #[.slice A6 l6 c6] 26) = W8 at *
        generalize hp16 : w8.heap.size = p16 at *
        clear hW8 hp16 hn8 hn8' hv8 HX6 HX10 HX14 HX15
        have hle : Hid (x * x ≤ y * y) := Lib.hid (Nat.mul_le_mul (by omega) (by omega))
        have G2 : Hid ((x + y) * (y - x) = y * y - x * x) := Lib.hid (by rw [Nat.add_comm]; exact sq_two (by omega))
        clear hlt
        have hdr : New W8 W8.drew := (New.refl _).drew
        go_region_held3 (fun V => New W8 V ∧ V.cell? ⟨p6, 0, none⟩ = some (.slice A2 l2 c2) ∧ V.cell? ⟨p10, 0, none⟩ = some (.slice A1 l1 c1) ∧ V.cell? ⟨p14, 0, none⟩ = some (.slice A4 l4 c4) ∧ V.cell? ⟨p15, 0, none⟩ = some (.slice A5 l5 c5) ∧ V.cell? ⟨p16, 0, none⟩ = some (.slice A6 l6 c6))
            (first
              | exact ⟨(New.refl _).drew, by simpa using hx6, by simpa using hx10, by simpa using hx14, by simpa using hx15, by simpa using hx16⟩
              | (go_split_ands; exact ⟨New.alloc (by assumption) _, New.still (New.alloc (New.refl _) _) (by assumption), New.still (New.alloc (New.refl _) _) (by assumption), New.still (New.alloc (New.refl _) _) (by assumption), New.still (New.alloc (New.refl _) _) (by assumption), New.still (New.alloc (New.refl _) _) (by assumption)⟩)
              | (go_split_ands; exact ⟨New.trans (by assumption) (by assumption), New.still (by assumption) (by assumption), New.still (by assumption) (by assumption), New.still (by assumption) (by assumption), New.still (by assumption) (by assumption), New.still (by assumption) (by assumption)⟩)
              | (go_split_ands; exact ⟨by assumption, by assumption, by assumption, by assumption, by assumption, by assumption⟩)
              | (go_split_ands; exact ⟨New.alloc (New.trans hdr (by first | assumption | exact New.trans (by assumption) (by assumption) | exact New.trans (by assumption) (New.trans (by assumption) (by assumption)))) _, New.still (New.alloc (New.trans hdr (by first | assumption | exact New.trans (by assumption) (by assumption) | exact New.trans (by assumption) (New.trans (by assumption) (by assumption)))) _) hx6, New.still (New.alloc (New.trans hdr (by first | assumption | exact New.trans (by assumption) (by assumption) | exact New.trans (by assumption) (New.trans (by assumption) (by assumption)))) _) hx10, New.still (New.alloc (New.trans hdr (by first | assumption | exact New.trans (by assumption) (by assumption) | exact New.trans (by assumption) (New.trans (by assumption) (by assumption)))) _) hx14, New.still (New.alloc (New.trans hdr (by first | assumption | exact New.trans (by assumption) (by assumption) | exact New.trans (by assumption) (New.trans (by assumption) (by assumption)))) _) hx15, New.still (New.alloc (New.trans hdr (by first | assumption | exact New.trans (by assumption) (by assumption) | exact New.trans (by assumption) (New.trans (by assumption) (by assumption)))) _) hx16⟩)
              | (go_split_ands; exact ⟨New.setCell (by assumption) (show W8.heap.size ≤ _ by first | exact Nat.le_refl _ | exact New.le (by assumption) | exact New.le (New.trans hdr (by first | assumption | exact New.trans (by assumption) (by assumption) | exact New.trans (by assumption) (New.trans (by assumption) (by assumption))))) _, New.still (New.setCell (by assumption) (show W8.heap.size ≤ _ by first | exact Nat.le_refl _ | exact New.le (by assumption) | exact New.le (New.trans hdr (by first | assumption | exact New.trans (by assumption) (by assumption) | exact New.trans (by assumption) (New.trans (by assumption) (by assumption))))) _) hx6, New.still (New.setCell (by assumption) (show W8.heap.size ≤ _ by first | exact Nat.le_refl _ | exact New.le (by assumption) | exact New.le (New.trans hdr (by first | assumption | exact New.trans (by assumption) (by assumption) | exact New.trans (by assumption) (New.trans (by assumption) (by assumption))))) _) hx10, New.still (New.setCell (by assumption) (show W8.heap.size ≤ _ by first | exact Nat.le_refl _ | exact New.le (by assumption) | exact New.le (New.trans hdr (by first | assumption | exact New.trans (by assumption) (by assumption) | exact New.trans (by assumption) (New.trans (by assumption) (by assumption))))) _) hx14, New.still (New.setCell (by assumption) (show W8.heap.size ≤ _ by first | exact Nat.le_refl _ | exact New.le (by assumption) | exact New.le (New.trans hdr (by first | assumption | exact New.trans (by assumption) (by assumption) | exact New.trans (by assumption) (New.trans (by assumption) (by assumption))))) _) hx15, New.still (New.setCell (by assumption) (show W8.heap.size ≤ _ by first | exact Nat.le_refl _ | exact New.le (by assumption) | exact New.le (New.trans hdr (by first | assumption | exact New.trans (by assumption) (by assumption) | exact New.trans (by assumption) (New.trans (by assumption) (by assumption))))) _) hx16⟩))
            ((rw [if_pos (by rfl)]; go_big_op; go_split_ands; first
              | (with_reducible (refine (mul_b (NatB.new (by assumption) (by first | exact New.refl _ | assumption | exact (New.refl _).alloc _ | exact New.alloc (by assumption) _ | exact New.trans ((New.refl _).alloc _) (by assumption) | exact New.trans (by assumption) (New.trans ((New.refl _).alloc _) (by assumption)) | exact New.alloc (New.trans (by assumption) (by assumption)) _ | exact New.trans (by assumption) (by assumption) | exact New.trans (by assumption) (New.trans (by assumption) (by assumption)) | exact New.trans (by assumption) (New.trans (by assumption) (New.trans (by assumption) (by assumption))) | exact New.trans (by assumption) (New.trans (by assumption) (New.trans (by assumption) (New.trans (by assumption) (by assumption)))) | exact New.trans (by assumption) (New.trans (by assumption) (New.trans (by assumption) (New.trans (by assumption) (New.trans (by assumption) (by assumption))))) | exact New.trans (by assumption) (New.trans (by assumption) (New.trans (by assumption) (New.trans (by assumption) (New.trans (by assumption) (New.trans (by assumption) (by assumption)))))))) (NatB.new (by assumption) (by first | exact New.refl _ | assumption | exact (New.refl _).alloc _ | exact New.alloc (by assumption) _ | exact New.trans ((New.refl _).alloc _) (by assumption) | exact New.trans (by assumption) (New.trans ((New.refl _).alloc _) (by assumption)) | exact New.alloc (New.trans (by assumption) (by assumption)) _ | exact New.trans (by assumption) (by assumption) | exact New.trans (by assumption) (New.trans (by assumption) (by assumption)) | exact New.trans (by assumption) (New.trans (by assumption) (New.trans (by assumption) (by assumption))) | exact New.trans (by assumption) (New.trans (by assumption) (New.trans (by assumption) (New.trans (by assumption) (by assumption)))) | exact New.trans (by assumption) (New.trans (by assumption) (New.trans (by assumption) (New.trans (by assumption) (New.trans (by assumption) (by assumption))))) | exact New.trans (by assumption) (New.trans (by assumption) (New.trans (by assumption) (New.trans (by assumption) (New.trans (by assumption) (New.trans (by assumption) (by assumption)))))))) (by omega) (by omega)).mono ?_); rintro e w' ⟨v', rfl, hv', hn⟩; (first | (have hbx := box_ahead hn; obtain ⟨hcx, hfx⟩ := box_cell0 hbx) | (have hbx := Box.new hn (Box.last _ #[.slice none 0 0] 26); obtain ⟨hcx, hfx⟩ := box_cell0 hbx) | (have hbx := Box.new hn hbx; obtain ⟨hcx, hfx⟩ := box_cell0 hbx) | skip); dsimp only)
              | (with_reducible (refine (sub_b (NatB.new (by assumption) (by first | exact New.refl _ | assumption | exact (New.refl _).alloc _ | exact New.alloc (by assumption) _ | exact New.trans ((New.refl _).alloc _) (by assumption) | exact New.trans (by assumption) (New.trans ((New.refl _).alloc _) (by assumption)) | exact New.alloc (New.trans (by assumption) (by assumption)) _ | exact New.trans (by assumption) (by assumption) | exact New.trans (by assumption) (New.trans (by assumption) (by assumption)) | exact New.trans (by assumption) (New.trans (by assumption) (New.trans (by assumption) (by assumption))) | exact New.trans (by assumption) (New.trans (by assumption) (New.trans (by assumption) (New.trans (by assumption) (by assumption)))) | exact New.trans (by assumption) (New.trans (by assumption) (New.trans (by assumption) (New.trans (by assumption) (New.trans (by assumption) (by assumption))))) | exact New.trans (by assumption) (New.trans (by assumption) (New.trans (by assumption) (New.trans (by assumption) (New.trans (by assumption) (New.trans (by assumption) (by assumption)))))))) (NatB.new (by assumption) (by first | exact New.refl _ | assumption | exact (New.refl _).alloc _ | exact New.alloc (by assumption) _ | exact New.trans ((New.refl _).alloc _) (by assumption) | exact New.trans (by assumption) (New.trans ((New.refl _).alloc _) (by assumption)) | exact New.alloc (New.trans (by assumption) (by assumption)) _ | exact New.trans (by assumption) (by assumption) | exact New.trans (by assumption) (New.trans (by assumption) (by assumption)) | exact New.trans (by assumption) (New.trans (by assumption) (New.trans (by assumption) (by assumption))) | exact New.trans (by assumption) (New.trans (by assumption) (New.trans (by assumption) (New.trans (by assumption) (by assumption)))) | exact New.trans (by assumption) (New.trans (by assumption) (New.trans (by assumption) (New.trans (by assumption) (New.trans (by assumption) (by assumption))))) | exact New.trans (by assumption) (New.trans (by assumption) (New.trans (by assumption) (New.trans (by assumption) (New.trans (by assumption) (New.trans (by assumption) (by assumption)))))))) (by omega) (by omega) (Hid.out (by assumption))).mono ?_); rintro e w' ⟨v', rfl, hv', hn⟩; obtain ⟨A7, l7, c7, rfl⟩ := hv'.form; (first | (have hbx := Box.new hn (Box.last _ #[.slice none 0 0] 26); obtain ⟨hcx, hfx⟩ := box_cell0 hbx) | (have hbx := Box.new hn hbx; obtain ⟨hcx, hfx⟩ := box_cell0 hbx) | skip); dsimp only)))
        all_goals
          go_split_ands
          rename_i hN hd6 hd10 hd14 hd15 hd16
          replace HN3 := Lib.hid (HN3.out.trans hN)
          replace nb4 := nb4.new hN
          replace nb5 := nb5.new hN
          replace nb6 := nb6.new hN
          first
          | (have nb7 := hv'.set hbx (by decide) (i := 0) (.slice A7 l7 c7); have hb7 := box_set1 (u := .slice A7 l7 c7) hbx)
          | (have nb7 := hv'.new ((New.refl w').alloc (.cells #[.slice A7 l7 c7] 26)); have hb7 := Box.last w' #[.slice A7 l7 c7] 26)
          clear hN hx6 hx10 hx14 hx15 hx16 hle hdr hv' hn
          refine name_it hb7 ?_
          rintro W9 p18 hW9 hp18 hb9
          rw [← hW9] at HN3 nb4 nb5 nb6 nb7 hd6 hd10 hd14 hd15 hd16 ⊢
          clear hb7
          rw [← hp18]
          clear hW9 hp18
          obtain ⟨hd18, _⟩ := box_cell0 hb9
          clear hb9
          have htab := Lib.hid (tabIs_new HN3.out HTAB.out)
          have hG := congrArg decS G2.out
          have HG := Lib.hid hG
          clear hG G2
          go_wp2_with fail
          go_region_held3 (fun V => New W9 V ∧ V.cell? ⟨p14, 0, none⟩ = some (.slice A4 l4 c4) ∧ V.cell? ⟨p15, 0, none⟩ = some (.slice A5 l5 c5) ∧ V.cell? ⟨p16, 0, none⟩ = some (.slice A6 l6 c6) ∧ V.cell? ⟨p18, 0, none⟩ = some (.slice A7 l7 c7))
            (first
              | exact ⟨(New.refl _).drew, by simpa using hd14, by simpa using hd15, by simpa using hd16, by simpa using hd18⟩
              | (go_split_ands; exact ⟨New.trans (by assumption) (by assumption), New.still (by assumption) (by assumption), New.still (by assumption) (by assumption), New.still (by assumption) (by assumption), New.still (by assumption) (by assumption)⟩)
              | (go_split_ands; exact ⟨by assumption, by assumption, by assumption, by assumption, by assumption⟩))
            ((rw [if_pos (by rfl)]; go_big_op; go_split_ands; first
              | (with_reducible (refine (text_s (NatB.new (by assumption) (by first | exact New.refl _ | assumption | exact (New.refl _).alloc _ | exact New.alloc (by assumption) _ | exact New.trans ((New.refl _).alloc _) (by assumption) | exact New.trans (by assumption) (New.trans ((New.refl _).alloc _) (by assumption)) | exact New.alloc (New.trans (by assumption) (by assumption)) _ | exact New.trans (by assumption) (by assumption) | exact New.trans (by assumption) (New.trans (by assumption) (by assumption)) | exact New.trans (by assumption) (New.trans (by assumption) (New.trans (by assumption) (by assumption))) | exact New.trans (by assumption) (New.trans (by assumption) (New.trans (by assumption) (New.trans (by assumption) (by assumption)))) | exact New.trans (by assumption) (New.trans (by assumption) (New.trans (by assumption) (New.trans (by assumption) (New.trans (by assumption) (by assumption))))) | exact New.trans (by assumption) (New.trans (by assumption) (New.trans (by assumption) (New.trans (by assumption) (New.trans (by assumption) (New.trans (by assumption) (by assumption)))))))) (by omega) (tabIs_new (by first | exact New.refl _ | assumption | exact (New.refl _).alloc _ | exact New.alloc (by assumption) _ | exact New.trans ((New.refl _).alloc _) (by assumption) | exact New.trans (by assumption) (New.trans ((New.refl _).alloc _) (by assumption)) | exact New.alloc (New.trans (by assumption) (by assumption)) _ | exact New.trans (by assumption) (by assumption) | exact New.trans (by assumption) (New.trans (by assumption) (by assumption)) | exact New.trans (by assumption) (New.trans (by assumption) (New.trans (by assumption) (by assumption))) | exact New.trans (by assumption) (New.trans (by assumption) (New.trans (by assumption) (New.trans (by assumption) (by assumption)))) | exact New.trans (by assumption) (New.trans (by assumption) (New.trans (by assumption) (New.trans (by assumption) (New.trans (by assumption) (by assumption))))) | exact New.trans (by assumption) (New.trans (by assumption) (New.trans (by assumption) (New.trans (by assumption) (New.trans (by assumption) (New.trans (by assumption) (by assumption))))))) htab.out) HG.out).mono ?_); rintro e w' ⟨rfl, hn⟩; dsimp only)
              | (with_reducible (refine (text_s (NatB.new (by assumption) (by first | exact New.refl _ | assumption | exact (New.refl _).alloc _ | exact New.alloc (by assumption) _ | exact New.trans ((New.refl _).alloc _) (by assumption) | exact New.trans (by assumption) (New.trans ((New.refl _).alloc _) (by assumption)) | exact New.alloc (New.trans (by assumption) (by assumption)) _ | exact New.trans (by assumption) (by assumption) | exact New.trans (by assumption) (New.trans (by assumption) (by assumption)) | exact New.trans (by assumption) (New.trans (by assumption) (New.trans (by assumption) (by assumption))) | exact New.trans (by assumption) (New.trans (by assumption) (New.trans (by assumption) (New.trans (by assumption) (by assumption)))) | exact New.trans (by assumption) (New.trans (by assumption) (New.trans (by assumption) (New.trans (by assumption) (New.trans (by assumption) (by assumption))))) | exact New.trans (by assumption) (New.trans (by assumption) (New.trans (by assumption) (New.trans (by assumption) (New.trans (by assumption) (New.trans (by assumption) (by assumption)))))))) (by omega) (tabIs_new (by first | exact New.refl _ | assumption | exact (New.refl _).alloc _ | exact New.alloc (by assumption) _ | exact New.trans ((New.refl _).alloc _) (by assumption) | exact New.trans (by assumption) (New.trans ((New.refl _).alloc _) (by assumption)) | exact New.alloc (New.trans (by assumption) (by assumption)) _ | exact New.trans (by assumption) (by assumption) | exact New.trans (by assumption) (New.trans (by assumption) (by assumption)) | exact New.trans (by assumption) (New.trans (by assumption) (New.trans (by assumption) (by assumption))) | exact New.trans (by assumption) (New.trans (by assumption) (New.trans (by assumption) (New.trans (by assumption) (by assumption)))) | exact New.trans (by assumption) (New.trans (by assumption) (New.trans (by assumption) (New.trans (by assumption) (New.trans (by assumption) (by assumption))))) | exact New.trans (by assumption) (New.trans (by assumption) (New.trans (by assumption) (New.trans (by assumption) (New.trans (by assumption) (New.trans (by assumption) (by assumption))))))) htab.out) decS_two).mono ?_); rintro e w' ⟨rfl, hn⟩; dsimp only)
              | (with_reducible (refine (text_v (NatB.new (by assumption) (by first | exact New.refl _ | assumption | exact (New.refl _).alloc _ | exact New.alloc (by assumption) _ | exact New.trans ((New.refl _).alloc _) (by assumption) | exact New.trans (by assumption) (New.trans ((New.refl _).alloc _) (by assumption)) | exact New.alloc (New.trans (by assumption) (by assumption)) _ | exact New.trans (by assumption) (by assumption) | exact New.trans (by assumption) (New.trans (by assumption) (by assumption)) | exact New.trans (by assumption) (New.trans (by assumption) (New.trans (by assumption) (by assumption))) | exact New.trans (by assumption) (New.trans (by assumption) (New.trans (by assumption) (New.trans (by assumption) (by assumption)))) | exact New.trans (by assumption) (New.trans (by assumption) (New.trans (by assumption) (New.trans (by assumption) (New.trans (by assumption) (by assumption))))) | exact New.trans (by assumption) (New.trans (by assumption) (New.trans (by assumption) (New.trans (by assumption) (New.trans (by assumption) (New.trans (by assumption) (by assumption)))))))) (by omega) (tabIs_new (by first | exact New.refl _ | assumption | exact (New.refl _).alloc _ | exact New.alloc (by assumption) _ | exact New.trans ((New.refl _).alloc _) (by assumption) | exact New.trans (by assumption) (New.trans ((New.refl _).alloc _) (by assumption)) | exact New.alloc (New.trans (by assumption) (by assumption)) _ | exact New.trans (by assumption) (by assumption) | exact New.trans (by assumption) (New.trans (by assumption) (by assumption)) | exact New.trans (by assumption) (New.trans (by assumption) (New.trans (by assumption) (by assumption))) | exact New.trans (by assumption) (New.trans (by assumption) (New.trans (by assumption) (New.trans (by assumption) (by assumption)))) | exact New.trans (by assumption) (New.trans (by assumption) (New.trans (by assumption) (New.trans (by assumption) (New.trans (by assumption) (by assumption))))) | exact New.trans (by assumption) (New.trans (by assumption) (New.trans (by assumption) (New.trans (by assumption) (New.trans (by assumption) (New.trans (by assumption) (by assumption))))))) htab.out)).mono ?_); rintro e w' ⟨rfl, hn⟩; dsimp only)
              | (with_reducible (refine (mul_b (NatB.new (by assumption) (by first | exact New.refl _ | assumption | exact (New.refl _).alloc _ | exact New.alloc (by assumption) _ | exact New.trans ((New.refl _).alloc _) (by assumption) | exact New.trans (by assumption) (New.trans ((New.refl _).alloc _) (by assumption)) | exact New.alloc (New.trans (by assumption) (by assumption)) _ | exact New.trans (by assumption) (by assumption) | exact New.trans (by assumption) (New.trans (by assumption) (by assumption)) | exact New.trans (by assumption) (New.trans (by assumption) (New.trans (by assumption) (by assumption))) | exact New.trans (by assumption) (New.trans (by assumption) (New.trans (by assumption) (New.trans (by assumption) (by assumption)))) | exact New.trans (by assumption) (New.trans (by assumption) (New.trans (by assumption) (New.trans (by assumption) (New.trans (by assumption) (by assumption))))) | exact New.trans (by assumption) (New.trans (by assumption) (New.trans (by assumption) (New.trans (by assumption) (New.trans (by assumption) (New.trans (by assumption) (by assumption)))))))) (NatB.new (by assumption) (by first | exact New.refl _ | assumption | exact (New.refl _).alloc _ | exact New.alloc (by assumption) _ | exact New.trans ((New.refl _).alloc _) (by assumption) | exact New.trans (by assumption) (New.trans ((New.refl _).alloc _) (by assumption)) | exact New.alloc (New.trans (by assumption) (by assumption)) _ | exact New.trans (by assumption) (by assumption) | exact New.trans (by assumption) (New.trans (by assumption) (by assumption)) | exact New.trans (by assumption) (New.trans (by assumption) (New.trans (by assumption) (by assumption))) | exact New.trans (by assumption) (New.trans (by assumption) (New.trans (by assumption) (New.trans (by assumption) (by assumption)))) | exact New.trans (by assumption) (New.trans (by assumption) (New.trans (by assumption) (New.trans (by assumption) (New.trans (by assumption) (by assumption))))) | exact New.trans (by assumption) (New.trans (by assumption) (New.trans (by assumption) (New.trans (by assumption) (New.trans (by assumption) (New.trans (by assumption) (by assumption)))))))) (by omega) (by omega)).mono ?_); rintro e w' ⟨v', rfl, hv', hn⟩; dsimp only)))
          go_split_ands
          rename_i hN _ _ _ _
          have HNF := Lib.hid (HN3.out.trans hN)
          clear hN
          go_wp2_with fail
          go_ret
          first | exact ⟨rfl, HNF.out⟩ | exact ⟨by simp, HNF.out⟩
      · have hs := cmp_ge hlt
        generalize cmpN x y = s at *
        go_wp2_with fail
        refine (sub_b nb1 nb2 (by omega) (by omega) (by omega)).mono ?_
        rintro e w8 ⟨v8, rfl, hv8, hn8⟩
        obtain ⟨A6, l6, c6, rfl⟩ := hv8.form
        have hn8' := hn8.alloc (.cells #[.slice A6 l6 c6] 26)
        obtain ⟨hx16, _⟩ := box_cell0 (Box.last w8 #[.slice A6 l6 c6] 26)
        have nb6 := hv8.new ((New.refl w8).alloc (.cells #[.slice A6 l6 c6] 26))
        replace nb1 := nb1.new hn8'
        replace nb2 := nb2.new hn8'
        replace nb4 := nb4.new hn8'
        replace nb5 := nb5.new hn8'
        replace hx6 := hn8'.still hx6
        replace hx10 := hn8'.still hx10
        replace hx14 := hn8'.still hx14
        replace hx15 := hn8'.still hx15
        replace HN3 := Lib.hid (HN3.out.trans hn8')
        go_wp2_with fail
        generalize hW8 : w8.alloc (.cells #[.slice A6 l6 c6] 26) = W8 at *
        generalize hp16 : w8.heap.size = p16 at *
        clear hW8 hp16 hn8 hn8' hv8 HX6 HX10 HX14 HX15
        have hle : Hid (y * y ≤ x * x) := Lib.hid (Nat.mul_le_mul (by omega) (by omega))
        have G2 : Hid ((x + y) * (x - y) = x * x - y * y) := Lib.hid (sq_two (by omega))
        clear hlt
        have hdr : New W8 W8.drew := (New.refl _).drew
        go_region_held3 (fun V => New W8 V ∧ V.cell? ⟨p6, 0, none⟩ = some (.slice A1 l1 c1) ∧ V.cell? ⟨p10, 0, none⟩ = some (.slice A2 l2 c2) ∧ V.cell? ⟨p14, 0, none⟩ = some (.slice A4 l4 c4) ∧ V.cell? ⟨p15, 0, none⟩ = some (.slice A5 l5 c5) ∧ V.cell? ⟨p16, 0, none⟩ = some (.slice A6 l6 c6))
            (first
              | exact ⟨(New.refl _).drew, by simpa using hx6, by simpa using hx10, by simpa using hx14, by simpa using hx15, by simpa using hx16⟩
              | (go_split_ands; exact ⟨New.alloc (by assumption) _, New.still (New.alloc (New.refl _) _) (by assumption), New.still (New.alloc (New.refl _) _) (by assumption), New.still (New.alloc (New.refl _) _) (by assumption), New.still (New.alloc (New.refl _) _) (by assumption), New.still (New.alloc (New.refl _) _) (by assumption)⟩)
              | (go_split_ands; exact ⟨New.trans (by assumption) (by assumption), New.still (by assumption) (by assumption), New.still (by assumption) (by assumption), New.still (by assumption) (by assumption), New.still (by assumption) (by assumption), New.still (by assumption) (by assumption)⟩)
              | (go_split_ands; exact ⟨by assumption, by assumption, by assumption, by assumption, by assumption, by assumption⟩)
              | (go_split_ands; exact ⟨New.alloc (New.trans hdr (by first | assumption | exact New.trans (by assumption) (by assumption) | exact New.trans (by assumption) (New.trans (by assumption) (by assumption)))) _, New.still (New.alloc (New.trans hdr (by first | assumption | exact New.trans (by assumption) (by assumption) | exact New.trans (by assumption) (New.trans (by assumption) (by assumption)))) _) hx6, New.still (New.alloc (New.trans hdr (by first | assumption | exact New.trans (by assumption) (by assumption) | exact New.trans (by assumption) (New.trans (by assumption) (by assumption)))) _) hx10, New.still (New.alloc (New.trans hdr (by first | assumption | exact New.trans (by assumption) (by assumption) | exact New.trans (by assumption) (New.trans (by assumption) (by assumption)))) _) hx14, New.still (New.alloc (New.trans hdr (by first | assumption | exact New.trans (by assumption) (by assumption) | exact New.trans (by assumption) (New.trans (by assumption) (by assumption)))) _) hx15, New.still (New.alloc (New.trans hdr (by first | assumption | exact New.trans (by assumption) (by assumption) | exact New.trans (by assumption) (New.trans (by assumption) (by assumption)))) _) hx16⟩)
              | (go_split_ands; exact ⟨New.setCell (by assumption) (show W8.heap.size ≤ _ by first | exact Nat.le_refl _ | exact New.le (by assumption) | exact New.le (New.trans hdr (by first | assumption | exact New.trans (by assumption) (by assumption) | exact New.trans (by assumption) (New.trans (by assumption) (by assumption))))) _, New.still (New.setCell (by assumption) (show W8.heap.size ≤ _ by first | exact Nat.le_refl _ | exact New.le (by assumption) | exact New.le (New.trans hdr (by first | assumption | exact New.trans (by assumption) (by assumption) | exact New.trans (by assumption) (New.trans (by assumption) (by assumption))))) _) hx6, New.still (New.setCell (by assumption) (show W8.heap.size ≤ _ by first | exact Nat.le_refl _ | exact New.le (by assumption) | exact New.le (New.trans hdr (by first | assumption | exact New.trans (by assumption) (by assumption) | exact New.trans (by assumption) (New.trans (by assumption) (by assumption))))) _) hx10, New.still (New.setCell (by assumption) (show W8.heap.size ≤ _ by first | exact Nat.le_refl _ | exact New.le (by assumption) | exact New.le (New.trans hdr (by first | assumption | exact New.trans (by assumption) (by assumption) | exact New.trans (by assumption) (New.trans (by assumption) (by assumption))))) _) hx14, New.still (New.setCell (by assumption) (show W8.heap.size ≤ _ by first | exact Nat.le_refl _ | exact New.le (by assumption) | exact New.le (New.trans hdr (by first | assumption | exact New.trans (by assumption) (by assumption) | exact New.trans (by assumption) (New.trans (by assumption) (by assumption))))) _) hx15, New.still (New.setCell (by assumption) (show W8.heap.size ≤ _ by first | exact Nat.le_refl _ | exact New.le (by assumption) | exact New.le (New.trans hdr (by first | assumption | exact New.trans (by assumption) (by assumption) | exact New.trans (by assumption) (New.trans (by assumption) (by assumption))))) _) hx16⟩))
            ((rw [if_pos (by rfl)]; go_big_op; go_split_ands; first
              | (with_reducible (refine (mul_b (NatB.new (by assumption) (by first | exact New.refl _ | assumption | exact (New.refl _).alloc _ | exact New.alloc (by assumption) _ | exact New.trans ((New.refl _).alloc _) (by assumption) | exact New.trans (by assumption) (New.trans ((New.refl _).alloc _) (by assumption)) | exact New.alloc (New.trans (by assumption) (by assumption)) _ | exact New.trans (by assumption) (by assumption) | exact New.trans (by assumption) (New.trans (by assumption) (by assumption)) | exact New.trans (by assumption) (New.trans (by assumption) (New.trans (by assumption) (by assumption))) | exact New.trans (by assumption) (New.trans (by assumption) (New.trans (by assumption) (New.trans (by assumption) (by assumption)))) | exact New.trans (by assumption) (New.trans (by assumption) (New.trans (by assumption) (New.trans (by assumption) (New.trans (by assumption) (by assumption))))) | exact New.trans (by assumption) (New.trans (by assumption) (New.trans (by assumption) (New.trans (by assumption) (New.trans (by assumption) (New.trans (by assumption) (by assumption)))))))) (NatB.new (by assumption) (by first | exact New.refl _ | assumption | exact (New.refl _).alloc _ | exact New.alloc (by assumption) _ | exact New.trans ((New.refl _).alloc _) (by assumption) | exact New.trans (by assumption) (New.trans ((New.refl _).alloc _) (by assumption)) | exact New.alloc (New.trans (by assumption) (by assumption)) _ | exact New.trans (by assumption) (by assumption) | exact New.trans (by assumption) (New.trans (by assumption) (by assumption)) | exact New.trans (by assumption) (New.trans (by assumption) (New.trans (by assumption) (by assumption))) | exact New.trans (by assumption) (New.trans (by assumption) (New.trans (by assumption) (New.trans (by assumption) (by assumption)))) | exact New.trans (by assumption) (New.trans (by assumption) (New.trans (by assumption) (New.trans (by assumption) (New.trans (by assumption) (by assumption))))) | exact New.trans (by assumption) (New.trans (by assumption) (New.trans (by assumption) (New.trans (by assumption) (New.trans (by assumption) (New.trans (by assumption) (by assumption)))))))) (by omega) (by omega)).mono ?_); rintro e w' ⟨v', rfl, hv', hn⟩; (first | (have hbx := box_ahead hn; obtain ⟨hcx, hfx⟩ := box_cell0 hbx) | (have hbx := Box.new hn (Box.last _ #[.slice none 0 0] 26); obtain ⟨hcx, hfx⟩ := box_cell0 hbx) | (have hbx := Box.new hn hbx; obtain ⟨hcx, hfx⟩ := box_cell0 hbx) | skip); dsimp only)
              | (with_reducible (refine (sub_b (NatB.new (by assumption) (by first | exact New.refl _ | assumption | exact (New.refl _).alloc _ | exact New.alloc (by assumption) _ | exact New.trans ((New.refl _).alloc _) (by assumption) | exact New.trans (by assumption) (New.trans ((New.refl _).alloc _) (by assumption)) | exact New.alloc (New.trans (by assumption) (by assumption)) _ | exact New.trans (by assumption) (by assumption) | exact New.trans (by assumption) (New.trans (by assumption) (by assumption)) | exact New.trans (by assumption) (New.trans (by assumption) (New.trans (by assumption) (by assumption))) | exact New.trans (by assumption) (New.trans (by assumption) (New.trans (by assumption) (New.trans (by assumption) (by assumption)))) | exact New.trans (by assumption) (New.trans (by assumption) (New.trans (by assumption) (New.trans (by assumption) (New.trans (by assumption) (by assumption))))) | exact New.trans (by assumption) (New.trans (by assumption) (New.trans (by assumption) (New.trans (by assumption) (New.trans (by assumption) (New.trans (by assumption) (by assumption)))))))) (NatB.new (by assumption) (by first | exact New.refl _ | assumption | exact (New.refl _).alloc _ | exact New.alloc (by assumption) _ | exact New.trans ((New.refl _).alloc _) (by assumption) | exact New.trans (by assumption) (New.trans ((New.refl _).alloc _) (by assumption)) | exact New.alloc (New.trans (by assumption) (by assumption)) _ | exact New.trans (by assumption) (by assumption) | exact New.trans (by assumption) (New.trans (by assumption) (by assumption)) | exact New.trans (by assumption) (New.trans (by assumption) (New.trans (by assumption) (by assumption))) | exact New.trans (by assumption) (New.trans (by assumption) (New.trans (by assumption) (New.trans (by assumption) (by assumption)))) | exact New.trans (by assumption) (New.trans (by assumption) (New.trans (by assumption) (New.trans (by assumption) (New.trans (by assumption) (by assumption))))) | exact New.trans (by assumption) (New.trans (by assumption) (New.trans (by assumption) (New.trans (by assumption) (New.trans (by assumption) (New.trans (by assumption) (by assumption)))))))) (by omega) (by omega) (Hid.out (by assumption))).mono ?_); rintro e w' ⟨v', rfl, hv', hn⟩; obtain ⟨A7, l7, c7, rfl⟩ := hv'.form; (first | (have hbx := Box.new hn (Box.last _ #[.slice none 0 0] 26); obtain ⟨hcx, hfx⟩ := box_cell0 hbx) | (have hbx := Box.new hn hbx; obtain ⟨hcx, hfx⟩ := box_cell0 hbx) | skip); dsimp only)))
        all_goals
          go_split_ands
          rename_i hN hd6 hd10 hd14 hd15 hd16
          replace HN3 := Lib.hid (HN3.out.trans hN)
          replace nb4 := nb4.new hN
          replace nb5 := nb5.new hN
          replace nb6 := nb6.new hN
          first
          | (have nb7 := hv'.set hbx (by decide) (i := 0) (.slice A7 l7 c7); have hb7 := box_set1 (u := .slice A7 l7 c7) hbx)
          | (have nb7 := hv'.new ((New.refl w').alloc (.cells #[.slice A7 l7 c7] 26)); have hb7 := Box.last w' #[.slice A7 l7 c7] 26)
          clear hN hx6 hx10 hx14 hx15 hx16 hle hdr hv' hn
          refine name_it hb7 ?_
          rintro W9 p18 hW9 hp18 hb9
          rw [← hW9] at HN3 nb4 nb5 nb6 nb7 hd6 hd10 hd14 hd15 hd16 ⊢
          clear hb7
          rw [← hp18]
          clear hW9 hp18
          obtain ⟨hd18, _⟩ := box_cell0 hb9
          clear hb9
          have htab := Lib.hid (tabIs_new HN3.out HTAB.out)
          have hG := congrArg decS G2.out
          have HG := Lib.hid hG
          clear hG G2
          go_wp2_with fail
          go_region_held3 (fun V => New W9 V ∧ V.cell? ⟨p14, 0, none⟩ = some (.slice A4 l4 c4) ∧ V.cell? ⟨p15, 0, none⟩ = some (.slice A5 l5 c5) ∧ V.cell? ⟨p16, 0, none⟩ = some (.slice A6 l6 c6) ∧ V.cell? ⟨p18, 0, none⟩ = some (.slice A7 l7 c7))
            (first
              | exact ⟨(New.refl _).drew, by simpa using hd14, by simpa using hd15, by simpa using hd16, by simpa using hd18⟩
              | (go_split_ands; exact ⟨New.trans (by assumption) (by assumption), New.still (by assumption) (by assumption), New.still (by assumption) (by assumption), New.still (by assumption) (by assumption), New.still (by assumption) (by assumption)⟩)
              | (go_split_ands; exact ⟨by assumption, by assumption, by assumption, by assumption, by assumption⟩))
            ((rw [if_pos (by rfl)]; go_big_op; go_split_ands; first
              | (with_reducible (refine (text_s (NatB.new (by assumption) (by first | exact New.refl _ | assumption | exact (New.refl _).alloc _ | exact New.alloc (by assumption) _ | exact New.trans ((New.refl _).alloc _) (by assumption) | exact New.trans (by assumption) (New.trans ((New.refl _).alloc _) (by assumption)) | exact New.alloc (New.trans (by assumption) (by assumption)) _ | exact New.trans (by assumption) (by assumption) | exact New.trans (by assumption) (New.trans (by assumption) (by assumption)) | exact New.trans (by assumption) (New.trans (by assumption) (New.trans (by assumption) (by assumption))) | exact New.trans (by assumption) (New.trans (by assumption) (New.trans (by assumption) (New.trans (by assumption) (by assumption)))) | exact New.trans (by assumption) (New.trans (by assumption) (New.trans (by assumption) (New.trans (by assumption) (New.trans (by assumption) (by assumption))))) | exact New.trans (by assumption) (New.trans (by assumption) (New.trans (by assumption) (New.trans (by assumption) (New.trans (by assumption) (New.trans (by assumption) (by assumption)))))))) (by omega) (tabIs_new (by first | exact New.refl _ | assumption | exact (New.refl _).alloc _ | exact New.alloc (by assumption) _ | exact New.trans ((New.refl _).alloc _) (by assumption) | exact New.trans (by assumption) (New.trans ((New.refl _).alloc _) (by assumption)) | exact New.alloc (New.trans (by assumption) (by assumption)) _ | exact New.trans (by assumption) (by assumption) | exact New.trans (by assumption) (New.trans (by assumption) (by assumption)) | exact New.trans (by assumption) (New.trans (by assumption) (New.trans (by assumption) (by assumption))) | exact New.trans (by assumption) (New.trans (by assumption) (New.trans (by assumption) (New.trans (by assumption) (by assumption)))) | exact New.trans (by assumption) (New.trans (by assumption) (New.trans (by assumption) (New.trans (by assumption) (New.trans (by assumption) (by assumption))))) | exact New.trans (by assumption) (New.trans (by assumption) (New.trans (by assumption) (New.trans (by assumption) (New.trans (by assumption) (New.trans (by assumption) (by assumption))))))) htab.out) HG.out).mono ?_); rintro e w' ⟨rfl, hn⟩; dsimp only)
              | (with_reducible (refine (text_s (NatB.new (by assumption) (by first | exact New.refl _ | assumption | exact (New.refl _).alloc _ | exact New.alloc (by assumption) _ | exact New.trans ((New.refl _).alloc _) (by assumption) | exact New.trans (by assumption) (New.trans ((New.refl _).alloc _) (by assumption)) | exact New.alloc (New.trans (by assumption) (by assumption)) _ | exact New.trans (by assumption) (by assumption) | exact New.trans (by assumption) (New.trans (by assumption) (by assumption)) | exact New.trans (by assumption) (New.trans (by assumption) (New.trans (by assumption) (by assumption))) | exact New.trans (by assumption) (New.trans (by assumption) (New.trans (by assumption) (New.trans (by assumption) (by assumption)))) | exact New.trans (by assumption) (New.trans (by assumption) (New.trans (by assumption) (New.trans (by assumption) (New.trans (by assumption) (by assumption))))) | exact New.trans (by assumption) (New.trans (by assumption) (New.trans (by assumption) (New.trans (by assumption) (New.trans (by assumption) (New.trans (by assumption) (by assumption)))))))) (by omega) (tabIs_new (by first | exact New.refl _ | assumption | exact (New.refl _).alloc _ | exact New.alloc (by assumption) _ | exact New.trans ((New.refl _).alloc _) (by assumption) | exact New.trans (by assumption) (New.trans ((New.refl _).alloc _) (by assumption)) | exact New.alloc (New.trans (by assumption) (by assumption)) _ | exact New.trans (by assumption) (by assumption) | exact New.trans (by assumption) (New.trans (by assumption) (by assumption)) | exact New.trans (by assumption) (New.trans (by assumption) (New.trans (by assumption) (by assumption))) | exact New.trans (by assumption) (New.trans (by assumption) (New.trans (by assumption) (New.trans (by assumption) (by assumption)))) | exact New.trans (by assumption) (New.trans (by assumption) (New.trans (by assumption) (New.trans (by assumption) (New.trans (by assumption) (by assumption))))) | exact New.trans (by assumption) (New.trans (by assumption) (New.trans (by assumption) (New.trans (by assumption) (New.trans (by assumption) (New.trans (by assumption) (by assumption))))))) htab.out) decS_two).mono ?_); rintro e w' ⟨rfl, hn⟩; dsimp only)
              | (with_reducible (refine (text_v (NatB.new (by assumption) (by first | exact New.refl _ | assumption | exact (New.refl _).alloc _ | exact New.alloc (by assumption) _ | exact New.trans ((New.refl _).alloc _) (by assumption) | exact New.trans (by assumption) (New.trans ((New.refl _).alloc _) (by assumption)) | exact New.alloc (New.trans (by assumption) (by assumption)) _ | exact New.trans (by assumption) (by assumption) | exact New.trans (by assumption) (New.trans (by assumption) (by assumption)) | exact New.trans (by assumption) (New.trans (by assumption) (New.trans (by assumption) (by assumption))) | exact New.trans (by assumption) (New.trans (by assumption) (New.trans (by assumption) (New.trans (by assumption) (by assumption)))) | exact New.trans (by assumption) (New.trans (by assumption) (New.trans (by assumption) (New.trans (by assumption) (New.trans (by assumption) (by assumption))))) | exact New.trans (by assumption) (New.trans (by assumption) (New.trans (by assumption) (New.trans (by assumption) (New.trans (by assumption) (New.trans (by assumption) (by assumption)))))))) (by omega) (tabIs_new (by first | exact New.refl _ | assumption | exact (New.refl _).alloc _ | exact New.alloc (by assumption) _ | exact New.trans ((New.refl _).alloc _) (by assumption) | exact New.trans (by assumption) (New.trans ((New.refl _).alloc _) (by assumption)) | exact New.alloc (New.trans (by assumption) (by assumption)) _ | exact New.trans (by assumption) (by assumption) | exact New.trans (by assumption) (New.trans (by assumption) (by assumption)) | exact New.trans (by assumption) (New.trans (by assumption) (New.trans (by assumption) (by assumption))) | exact New.trans (by assumption) (New.trans (by assumption) (New.trans (by assumption) (New.trans (by assumption) (by assumption)))) | exact New.trans (by assumption) (New.trans (by assumption) (New.trans (by assumption) (New.trans (by assumption) (New.trans (by assumption) (by assumption))))) | exact New.trans (by assumption) (New.trans (by assumption) (New.trans (by assumption) (New.trans (by assumption) (New.trans (by assumption) (New.trans (by assumption) (by assumption))))))) htab.out)).mono ?_); rintro e w' ⟨rfl, hn⟩; dsimp only)
              | (with_reducible (refine (mul_b (NatB.new (by assumption) (by first | exact New.refl _ | assumption | exact (New.refl _).alloc _ | exact New.alloc (by assumption) _ | exact New.trans ((New.refl _).alloc _) (by assumption) | exact New.trans (by assumption) (New.trans ((New.refl _).alloc _) (by assumption)) | exact New.alloc (New.trans (by assumption) (by assumption)) _ | exact New.trans (by assumption) (by assumption) | exact New.trans (by assumption) (New.trans (by assumption) (by assumption)) | exact New.trans (by assumption) (New.trans (by assumption) (New.trans (by assumption) (by assumption))) | exact New.trans (by assumption) (New.trans (by assumption) (New.trans (by assumption) (New.trans (by assumption) (by assumption)))) | exact New.trans (by assumption) (New.trans (by assumption) (New.trans (by assumption) (New.trans (by assumption) (New.trans (by assumption) (by assumption))))) | exact New.trans (by assumption) (New.trans (by assumption) (New.trans (by assumption) (New.trans (by assumption) (New.trans (by assumption) (New.trans (by assumption) (by assumption)))))))) (NatB.new (by assumption) (by first | exact New.refl _ | assumption | exact (New.refl _).alloc _ | exact New.alloc (by assumption) _ | exact New.trans ((New.refl _).alloc _) (by assumption) | exact New.trans (by assumption) (New.trans ((New.refl _).alloc _) (by assumption)) | exact New.alloc (New.trans (by assumption) (by assumption)) _ | exact New.trans (by assumption) (by assumption) | exact New.trans (by assumption) (New.trans (by assumption) (by assumption)) | exact New.trans (by assumption) (New.trans (by assumption) (New.trans (by assumption) (by assumption))) | exact New.trans (by assumption) (New.trans (by assumption) (New.trans (by assumption) (New.trans (by assumption) (by assumption)))) | exact New.trans (by assumption) (New.trans (by assumption) (New.trans (by assumption) (New.trans (by assumption) (New.trans (by assumption) (by assumption))))) | exact New.trans (by assumption) (New.trans (by assumption) (New.trans (by assumption) (New.trans (by assumption) (New.trans (by assumption) (New.trans (by assumption) (by assumption)))))))) (by omega) (by omega)).mono ?_); rintro e w' ⟨v', rfl, hv', hn⟩; dsimp only)))
          go_split_ands
          rename_i hN _ _ _ _
          have HNF := Lib.hid (HN3.out.trans hN)
          clear hN
          go_wp2_with fail
          go_ret
          first | exact ⟨rfl, HNF.out⟩ | exact ⟨by simp, HNF.out⟩
end Go.Proofs.YtjandmkopeapeaaDoor
