/- The laws of 01: NatBack, walked. (Printed by lawgen.py.) -/
import Derived.Test.YtjandmkopeapeaaDoorLaw4a
import Derived.Test.YtjandmkopeapeaaDoorConD
import Derived.Deep.RegionHeld3
namespace Go.Proofs.YtjandmkopeapeaaDoor
set_option linter.unusedSimpArgs false
set_option linter.unusedVariables false
open Go.RowKit
set_option maxRecDepth 1000000 in
set_option maxHeartbeats 8000000 in
theorem natBack_walk (a b : ByteArray) (w : World) (L : Lib.TabIs Tryd.prog w "internal/strconv.uint64pow10" .u64 Lib.pow10Tab) :
    Calls Tryd.prog 9 #[.string a, .string b] w fun e w' => e = .returned (.bool true) ∧ Below w.heap.size w w' := by
  have HTAB := Lib.hid L
  clear L
  go_enter Tryd.func9, Tryd.ntmps9
  go_wp2_with fail
  have hbx := Box.last w #[.string a, .string b] 9
  refine (long_c [a, b] _ 2 2 _ rfl (fun i hi => by
    rw [hbx.cell]
    match i, hi with
    | 0, _ => rfl
    | 1, _ => rfl) hbx.lt (by decide) (by decide)).mono ?_
  rintro e w1 ⟨r, rfl, hr, hn1⟩
  have hn1' : New w w1 := ((New.refl w).alloc _).trans hn1
  clear hbx hn1
  cases r with
  | true =>
    go_wp2
    go_ret
    exact ⟨rfl, hn1'⟩
  | false =>
    have hz := hr rfl
    have ha : a.size ≤ 256 := hz a (by simp)
    have hb : b.size ≤ 256 := hz b (by simp)
    have H1 := Lib.hid (fun W => number_c a W (by omega))
    have H2 := Lib.hid (fun W => number_c b W (by omega))
    have HN1 := Lib.hid hn1'
    clear hz hr hn1'
    go_wp2_with fail
    refine (H1.out _).mono ?_
    rintro e w2 ⟨v1, u1, rfl, hv1, hu1, hn2⟩
    obtain ⟨A1, l1, c1, rfl⟩ := hv1.form
    obtain ⟨B1, m1, d1, rfl⟩ := hu1.form
    have T1 := Lib.hid (Two.last hv1 hu1)
    have HN2 := Lib.hid ((HN1.out.trans hn2).alloc (.cells #[.slice A1 l1 c1] 26) |>.alloc (.cells #[.slice B1 m1 d1] 29))
    clear hv1 hu1 hn2 HN1
    go_wp2_with fail
    refine (H2.out _).mono ?_
    rintro e w3 ⟨v2, u2, rfl, hv2, hu2, hn3⟩
    obtain ⟨A2, l2, c2, rfl⟩ := hv2.form
    obtain ⟨B2, m2, d2, rfl⟩ := hu2.form
    have T2 := Lib.hid (Two.last hv2 hu2)
    have T1' := Lib.hid (T1.out.new (hn3.alloc (.cells #[.slice A2 l2 c2] 26) |>.alloc (.cells #[.slice B2 m2 d2] 29)))
    have HN3 := Lib.hid ((HN2.out.trans hn3).alloc (.cells #[.slice A2 l2 c2] 26) |>.alloc (.cells #[.slice B2 m2 d2] 29))
    clear hv2 hu2 hn3 HN2 T1 H1 H2
    have hx6 := T1'.out.bx.cell 0
    have hr6 := T1'.out.dx.cell 0
    have hx10 := T2.out.bx.cell 0
    have hr10 := T2.out.dx.cell 0
    cases i1 : isNum a.data.toList with
    | false => go_wp2_with fail; go_ret; exact ⟨rfl, HN3.out⟩
    | true =>
    cases i2 : isNum b.data.toList with
    | false => go_wp2_with fail; go_ret; exact ⟨rfl, HN3.out⟩
    | true =>
      obtain ⟨L1, E1⟩ := num_facts ha i1
      obtain ⟨L2, E2⟩ := num_facts hb i2
      have R1 := num_ref ha i1
      have R2 := num_ref hb i2
      generalize pNum a.data.toList = x at *
      generalize pNum b.data.toList = y at *
      have hE1 : decS x = a := decS_of E1
      have hE2 : decS y = b := decS_of E2
      have HE1 := Lib.hid hE1
      have HE2 := Lib.hid hE2
      clear E1 E2 i1 i2 hE1 hE2
      go_wp2_with fail
      generalize hW : (w3.alloc (.cells #[.slice A2 l2 c2] 26)).alloc (.cells #[.slice B2 m2 d2] 29) = W at *
      generalize hp6 : w2.heap.size = p6 at *
      generalize hp10 : w3.heap.size = p10 at *
      generalize hq6 : p6 + 1 = q6 at *
      generalize hq10 : p10 + 1 = q10 at *
      clear hW hp6 hp10 hq6 hq10
      have nb1 : NatB W (.agg #[.slice A1 l1 c1]) x 1024 := ⟨T1'.out.nx, L1⟩
      have nb2 : NatB W (.agg #[.slice A2 l2 c2]) y 1024 := ⟨T2.out.nx, L2⟩
      have rb1 : RefB W (.agg #[.slice B1 m1 d1]) x 1024 := ⟨T1'.out.rx, R1⟩
      have rb2 : RefB W (.agg #[.slice B2 m2 d2]) y 1024 := ⟨T2.out.rx, R2⟩
      have HX6 := Lib.hid T1'.out.bx
      have HR6 := Lib.hid T1'.out.dx
      have HX10 := Lib.hid T2.out.bx
      have HR10 := Lib.hid T2.out.dx
      clear T1' T2 L1 L2 R1 R2
      simp only [List.getElem?_toArray, List.getElem?_cons_zero] at hx6 hr6 hx10 hr10
      clear rb1 rb2 hr6 hr10 HR6 HR10 HX6 HX10
      by_cases h0 : y = 0
      · have hd := text_zero HE2.out h0
        subst h0
        refine (divmod_b0 nb1 nb2 (by omega) (by omega)).mono ?_
        rintro e w4 ⟨v4, v5, rfl, hv4, hv5, hn4⟩
        obtain ⟨A4, l4, c4, rfl⟩ := hv4.form
        obtain ⟨A5, l5, c5, rfl⟩ := hv5.form
        have hn4' := (hn4.alloc (.cells #[.slice A4 l4 c4] 26)).alloc (.cells #[.slice A5 l5 c5] 26)
        have hx14 := ((Box.last w4 #[.slice A4 l4 c4] 26).alloc (.cells #[.slice A5 l5 c5] 26)).cell 0
        have hx15 := (Box.last2 w4 (.cells #[.slice A4 l4 c4] 26) #[.slice A5 l5 c5] 26).cell 0
        simp only [List.getElem?_toArray, List.getElem?_cons_zero] at hx14 hx15
        have nb4 := hv4.new (((New.refl w4).alloc (.cells #[.slice A4 l4 c4] 26)).alloc (.cells #[.slice A5 l5 c5] 26))
        have nb5 := hv5.new (((New.refl w4).alloc (.cells #[.slice A4 l4 c4] 26)).alloc (.cells #[.slice A5 l5 c5] 26))
        replace HN3 := Lib.hid (HN3.out.trans hn4')
        have htab := Lib.hid (tabIs_new HN3.out HTAB.out)
        replace hx6 := hn4'.still hx6
        replace hx10 := hn4'.still hx10
        replace nb1 := nb1.new hn4'
        replace nb2 := nb2.new hn4'
        clear hn4 hn4' hv4 hv5
        go_wp2_with fail
        refine (text_s nb4 (by omega) htab.out decS_zero).mono ?_
        rintro e w5 ⟨rfl, hn5⟩
        replace hx15 := hn5.still hx15
        replace nb5 := nb5.new hn5
        replace HN3 := Lib.hid (HN3.out.trans hn5)
        replace htab := Lib.hid (tabIs_new hn5 htab.out)
        clear hn5
        go_wp2_with fail
        refine (text_s nb5 (by omega) htab.out decS_zero).mono ?_
        rintro e w6 ⟨rfl, hn6⟩
        replace HN3 := Lib.hid (HN3.out.trans hn6)
        clear hn6
        go_wp2_with fail
        go_ret
        exact ⟨rfl, HN3.out⟩
      · have hd := text_pos HE2.out h0
        have hy0 : 0 < y := by omega
        have hlt := Nat.mod_lt x hy0
        have HLT := Lib.hid hlt
        have HG := Lib.hid (show decS (x / y * y + x % y) = a by rw [Nat.mul_comm, Nat.div_add_mod]; exact HE1.out)
        refine (divmod_b1 nb1 nb2 (by omega) (by omega) hy0).mono ?_
        clear hlt
        rintro e w4 ⟨v4, v5, rfl, hv4, hv5, hn4⟩
        obtain ⟨A4, l4, c4, rfl⟩ := hv4.form
        obtain ⟨A5, l5, c5, rfl⟩ := hv5.form
        have hn4' := (hn4.alloc (.cells #[.slice A4 l4 c4] 26)).alloc (.cells #[.slice A5 l5 c5] 26)
        have hx14 := ((Box.last w4 #[.slice A4 l4 c4] 26).alloc (.cells #[.slice A5 l5 c5] 26)).cell 0
        have hx15 := (Box.last2 w4 (.cells #[.slice A4 l4 c4] 26) #[.slice A5 l5 c5] 26).cell 0
        simp only [List.getElem?_toArray, List.getElem?_cons_zero] at hx14 hx15
        have nb4 := hv4.new (((New.refl w4).alloc (.cells #[.slice A4 l4 c4] 26)).alloc (.cells #[.slice A5 l5 c5] 26))
        have nb5 := hv5.new (((New.refl w4).alloc (.cells #[.slice A4 l4 c4] 26)).alloc (.cells #[.slice A5 l5 c5] 26))
        replace HN3 := Lib.hid (HN3.out.trans hn4')
        have htab := Lib.hid (tabIs_new HN3.out HTAB.out)
        replace hx6 := hn4'.still hx6
        replace hx10 := hn4'.still hx10
        replace nb1 := nb1.new hn4'
        replace nb2 := nb2.new hn4'
        clear hn4 hn4' hv4 hv5
        go_wp2_with fail
        obtain ⟨W4, hW4⟩ : ∃ X : World, X = (w4.alloc (.cells #[.slice A4 l4 c4] 26)).alloc (.cells #[.slice A5 l5 c5] 26) := ⟨_, rfl⟩
        rw [← hW4] at hx6 hx10 hx14 hx15 nb1 nb2 nb4 nb5 HN3 htab ⊢
        clear hW4
        generalize w4.heap.size = p14 at *
        go_region_held3 (fun V => New W4 V ∧ V.cell? ⟨p6, 0, none⟩ = some (.slice A1 l1 c1) ∧ V.cell? ⟨p10, 0, none⟩ = some (.slice A2 l2 c2) ∧ V.cell? ⟨p14, 0, none⟩ = some (.slice A4 l4 c4) ∧ V.cell? ⟨p14 + 1, 0, none⟩ = some (.slice A5 l5 c5))
          (first
            | exact ⟨(New.refl _).drew, by simpa using hx6, by simpa using hx10, by simpa using hx14, by simpa using hx15⟩
            | (go_split_ands; exact ⟨New.trans (by assumption) (by assumption), New.still (by assumption) (by assumption), New.still (by assumption) (by assumption), New.still (by assumption) (by assumption), New.still (by assumption) (by assumption)⟩)
            | (go_split_ands; exact ⟨by assumption, by assumption, by assumption, by assumption, by assumption⟩))
          ((rw [if_pos (by rfl)]; go_big_op; go_split_ands; first
            | (with_reducible (refine (text_s (NatB.new (by assumption) (by first | exact New.refl _ | assumption | exact (New.refl _).alloc _ | exact New.alloc (by assumption) _ | exact New.trans ((New.refl _).alloc _) (by assumption) | exact New.trans (by assumption) (New.trans ((New.refl _).alloc _) (by assumption)) | exact New.alloc (New.trans (by assumption) (by assumption)) _ | exact New.trans (by assumption) (by assumption) | exact New.trans (by assumption) (New.trans (by assumption) (by assumption)) | exact New.trans (by assumption) (New.trans (by assumption) (New.trans (by assumption) (by assumption))) | exact New.trans (by assumption) (New.trans (by assumption) (New.trans (by assumption) (New.trans (by assumption) (by assumption)))) | exact New.trans (by assumption) (New.trans (by assumption) (New.trans (by assumption) (New.trans (by assumption) (New.trans (by assumption) (by assumption))))) | exact New.trans (by assumption) (New.trans (by assumption) (New.trans (by assumption) (New.trans (by assumption) (New.trans (by assumption) (New.trans (by assumption) (by assumption)))))))) (by omega) (tabIs_new (by first | exact New.refl _ | assumption | exact (New.refl _).alloc _ | exact New.alloc (by assumption) _ | exact New.trans ((New.refl _).alloc _) (by assumption) | exact New.trans (by assumption) (New.trans ((New.refl _).alloc _) (by assumption)) | exact New.alloc (New.trans (by assumption) (by assumption)) _ | exact New.trans (by assumption) (by assumption) | exact New.trans (by assumption) (New.trans (by assumption) (by assumption)) | exact New.trans (by assumption) (New.trans (by assumption) (New.trans (by assumption) (by assumption))) | exact New.trans (by assumption) (New.trans (by assumption) (New.trans (by assumption) (New.trans (by assumption) (by assumption)))) | exact New.trans (by assumption) (New.trans (by assumption) (New.trans (by assumption) (New.trans (by assumption) (New.trans (by assumption) (by assumption))))) | exact New.trans (by assumption) (New.trans (by assumption) (New.trans (by assumption) (New.trans (by assumption) (New.trans (by assumption) (New.trans (by assumption) (by assumption))))))) htab.out) HG.out).mono ?_); rintro e w' ⟨rfl, hn⟩; dsimp only)
            | (with_reducible (refine (add_b (NatB.new (by assumption) (by first | exact New.refl _ | assumption | exact (New.refl _).alloc _ | exact New.alloc (by assumption) _ | exact New.trans ((New.refl _).alloc _) (by assumption) | exact New.trans (by assumption) (New.trans ((New.refl _).alloc _) (by assumption)) | exact New.alloc (New.trans (by assumption) (by assumption)) _ | exact New.trans (by assumption) (by assumption) | exact New.trans (by assumption) (New.trans (by assumption) (by assumption)) | exact New.trans (by assumption) (New.trans (by assumption) (New.trans (by assumption) (by assumption))) | exact New.trans (by assumption) (New.trans (by assumption) (New.trans (by assumption) (New.trans (by assumption) (by assumption)))) | exact New.trans (by assumption) (New.trans (by assumption) (New.trans (by assumption) (New.trans (by assumption) (New.trans (by assumption) (by assumption))))) | exact New.trans (by assumption) (New.trans (by assumption) (New.trans (by assumption) (New.trans (by assumption) (New.trans (by assumption) (New.trans (by assumption) (by assumption)))))))) (NatB.new (by assumption) (by first | exact New.refl _ | assumption | exact (New.refl _).alloc _ | exact New.alloc (by assumption) _ | exact New.trans ((New.refl _).alloc _) (by assumption) | exact New.trans (by assumption) (New.trans ((New.refl _).alloc _) (by assumption)) | exact New.alloc (New.trans (by assumption) (by assumption)) _ | exact New.trans (by assumption) (by assumption) | exact New.trans (by assumption) (New.trans (by assumption) (by assumption)) | exact New.trans (by assumption) (New.trans (by assumption) (New.trans (by assumption) (by assumption))) | exact New.trans (by assumption) (New.trans (by assumption) (New.trans (by assumption) (New.trans (by assumption) (by assumption)))) | exact New.trans (by assumption) (New.trans (by assumption) (New.trans (by assumption) (New.trans (by assumption) (New.trans (by assumption) (by assumption))))) | exact New.trans (by assumption) (New.trans (by assumption) (New.trans (by assumption) (New.trans (by assumption) (New.trans (by assumption) (New.trans (by assumption) (by assumption)))))))) (by omega) (by omega)).mono ?_); rintro e w' ⟨v', rfl, hv', hn⟩; dsimp only)
            | (with_reducible (refine (mul_b (NatB.new (by assumption) (by first | exact New.refl _ | assumption | exact (New.refl _).alloc _ | exact New.alloc (by assumption) _ | exact New.trans ((New.refl _).alloc _) (by assumption) | exact New.trans (by assumption) (New.trans ((New.refl _).alloc _) (by assumption)) | exact New.alloc (New.trans (by assumption) (by assumption)) _ | exact New.trans (by assumption) (by assumption) | exact New.trans (by assumption) (New.trans (by assumption) (by assumption)) | exact New.trans (by assumption) (New.trans (by assumption) (New.trans (by assumption) (by assumption))) | exact New.trans (by assumption) (New.trans (by assumption) (New.trans (by assumption) (New.trans (by assumption) (by assumption)))) | exact New.trans (by assumption) (New.trans (by assumption) (New.trans (by assumption) (New.trans (by assumption) (New.trans (by assumption) (by assumption))))) | exact New.trans (by assumption) (New.trans (by assumption) (New.trans (by assumption) (New.trans (by assumption) (New.trans (by assumption) (New.trans (by assumption) (by assumption)))))))) (NatB.new (by assumption) (by first | exact New.refl _ | assumption | exact (New.refl _).alloc _ | exact New.alloc (by assumption) _ | exact New.trans ((New.refl _).alloc _) (by assumption) | exact New.trans (by assumption) (New.trans ((New.refl _).alloc _) (by assumption)) | exact New.alloc (New.trans (by assumption) (by assumption)) _ | exact New.trans (by assumption) (by assumption) | exact New.trans (by assumption) (New.trans (by assumption) (by assumption)) | exact New.trans (by assumption) (New.trans (by assumption) (New.trans (by assumption) (by assumption))) | exact New.trans (by assumption) (New.trans (by assumption) (New.trans (by assumption) (New.trans (by assumption) (by assumption)))) | exact New.trans (by assumption) (New.trans (by assumption) (New.trans (by assumption) (New.trans (by assumption) (New.trans (by assumption) (by assumption))))) | exact New.trans (by assumption) (New.trans (by assumption) (New.trans (by assumption) (New.trans (by assumption) (New.trans (by assumption) (New.trans (by assumption) (by assumption)))))))) (by omega) (by omega)).mono ?_); rintro e w' ⟨v', rfl, hv', hn⟩; dsimp only)
            | (with_reducible (refine (cmp_below (NatB.new (by assumption) (by first | exact New.refl _ | assumption | exact (New.refl _).alloc _ | exact New.alloc (by assumption) _ | exact New.trans ((New.refl _).alloc _) (by assumption) | exact New.trans (by assumption) (New.trans ((New.refl _).alloc _) (by assumption)) | exact New.alloc (New.trans (by assumption) (by assumption)) _ | exact New.trans (by assumption) (by assumption) | exact New.trans (by assumption) (New.trans (by assumption) (by assumption)) | exact New.trans (by assumption) (New.trans (by assumption) (New.trans (by assumption) (by assumption))) | exact New.trans (by assumption) (New.trans (by assumption) (New.trans (by assumption) (New.trans (by assumption) (by assumption)))) | exact New.trans (by assumption) (New.trans (by assumption) (New.trans (by assumption) (New.trans (by assumption) (New.trans (by assumption) (by assumption))))) | exact New.trans (by assumption) (New.trans (by assumption) (New.trans (by assumption) (New.trans (by assumption) (New.trans (by assumption) (New.trans (by assumption) (by assumption)))))))) (NatB.new (by assumption) (by first | exact New.refl _ | assumption | exact (New.refl _).alloc _ | exact New.alloc (by assumption) _ | exact New.trans ((New.refl _).alloc _) (by assumption) | exact New.trans (by assumption) (New.trans ((New.refl _).alloc _) (by assumption)) | exact New.alloc (New.trans (by assumption) (by assumption)) _ | exact New.trans (by assumption) (by assumption) | exact New.trans (by assumption) (New.trans (by assumption) (by assumption)) | exact New.trans (by assumption) (New.trans (by assumption) (New.trans (by assumption) (by assumption))) | exact New.trans (by assumption) (New.trans (by assumption) (New.trans (by assumption) (New.trans (by assumption) (by assumption)))) | exact New.trans (by assumption) (New.trans (by assumption) (New.trans (by assumption) (New.trans (by assumption) (New.trans (by assumption) (by assumption))))) | exact New.trans (by assumption) (New.trans (by assumption) (New.trans (by assumption) (New.trans (by assumption) (New.trans (by assumption) (New.trans (by assumption) (by assumption)))))))) (by omega) (by omega) HLT.out).mono ?_); rintro e w' ⟨rfl, hn⟩; dsimp only)))
        go_split_ands
        rename_i hN _ _ _ _
        have HNF := Lib.hid (HN3.out.trans hN)
        clear hN
        go_wp2_with fail
        go_ret
        first | exact ⟨rfl, HNF.out⟩ | exact ⟨by simp, HNF.out⟩
end Go.Proofs.YtjandmkopeapeaaDoor
