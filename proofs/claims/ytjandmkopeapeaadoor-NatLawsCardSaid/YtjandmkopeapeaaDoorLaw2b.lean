/- The laws of 01: NatLaws, walked. (Printed by mklaw7.py.) -/
import Derived.Test.YtjandmkopeapeaaDoorLaw2a
namespace Go.Proofs.YtjandmkopeapeaaDoor
set_option linter.unusedSimpArgs false
set_option linter.unusedVariables false
open Go.RowKit
set_option maxRecDepth 1000000 in
set_option maxHeartbeats 8000000 in
theorem natLaws_walk (a b c : ByteArray) (w : World) (L : Lib.TabIs Tryd.prog w "internal/strconv.uint64pow10" .u64 Lib.pow10Tab) :
    Calls Tryd.prog 7 #[.string a, .string b, .string c] w fun e w' => e = .returned (.bool true) ∧ Below w.heap.size w w' := by
  have HTAB := Lib.hid L
  clear L
  go_enter Tryd.func7, Tryd.ntmps7
  go_wp2_with fail
  have hbx := Box.last w #[.string a, .string b, .string c] 9
  refine (long_c [a, b, c] _ 3 3 _ rfl (fun i hi => by
    rw [hbx.cell]
    match i, hi with
    | 0, _ => rfl
    | 1, _ => rfl
    | 2, _ => rfl) hbx.lt (by decide) (by decide)).mono ?_
  rintro e w1 ⟨r, rfl, hr, hn1⟩
  have hn1' : New w w1 := ((New.refl w).alloc _).trans hn1
  clear hbx hn1
  cases r with
  | true =>
    go_wp2
    go_ret
    exact ⟨rfl, hn1'⟩
  | false =>
    have hz := hr rfl
    have ha : a.size ≤ 256 := hz a (by simp)
    have hb : b.size ≤ 256 := hz b (by simp)
    have hc : c.size ≤ 256 := hz c (by simp)
    have h1 := fun W => number_c a W (by omega)
    have h2 := fun W => number_c b W (by omega)
    have h3 := fun W => number_c c W (by omega)
    have H1 := Lib.hid h1
    have H2 := Lib.hid h2
    have H3 := Lib.hid h3
    have HN1 := Lib.hid hn1'
    clear hz hr h1 h2 h3 hn1'
    go_wp2_with fail
    refine (H1.out _).mono ?_
    rintro e w2 ⟨v1, u1, rfl, hv1, hu1, hn2⟩
    obtain ⟨A1, l1, c1, rfl⟩ := hv1.form
    obtain ⟨B1, m1, d1, rfl⟩ := hu1.form
    have T1 := Lib.hid (Two.last hv1 hu1)
    have HN2 := Lib.hid ((HN1.out.trans hn2).alloc (.cells #[.slice A1 l1 c1] 26) |>.alloc (.cells #[.slice B1 m1 d1] 29))
    clear hv1 hu1 hn2 HN1
    go_wp2_with fail
    refine (H2.out _).mono ?_
    rintro e w3 ⟨v2, u2, rfl, hv2, hu2, hn3⟩
    obtain ⟨A2, l2, c2, rfl⟩ := hv2.form
    obtain ⟨B2, m2, d2, rfl⟩ := hu2.form
    have T2 := Lib.hid (Two.last hv2 hu2)
    have T1' := Lib.hid (T1.out.new (hn3.alloc (.cells #[.slice A2 l2 c2] 26) |>.alloc (.cells #[.slice B2 m2 d2] 29)))
    have HN3 := Lib.hid ((HN2.out.trans hn3).alloc (.cells #[.slice A2 l2 c2] 26) |>.alloc (.cells #[.slice B2 m2 d2] 29))
    clear hv2 hu2 hn3 HN2 T1
    go_wp2_with fail
    refine (H3.out _).mono ?_
    rintro e w4 ⟨v3, u3, rfl, hv3, hu3, hn4⟩
    obtain ⟨A3, l3, c3, rfl⟩ := hv3.form
    obtain ⟨B3, m3, d3, rfl⟩ := hu3.form
    have T3 := Lib.hid (Two.last hv3 hu3)
    have T1 := Lib.hid (T1'.out.new (hn4.alloc (.cells #[.slice A3 l3 c3] 26) |>.alloc (.cells #[.slice B3 m3 d3] 29)))
    have T2' := Lib.hid (T2.out.new (hn4.alloc (.cells #[.slice A3 l3 c3] 26) |>.alloc (.cells #[.slice B3 m3 d3] 29)))
    have HN4 := Lib.hid ((HN3.out.trans hn4).alloc (.cells #[.slice A3 l3 c3] 26) |>.alloc (.cells #[.slice B3 m3 d3] 29))
    clear hv3 hu3 hn4 HN3 T1' T2 H1 H2 H3
    have hx8 := T1.out.bx.cell 0
    have hx12 := T2'.out.bx.cell 0
    have hx16 := T3.out.bx.cell 0
    cases i1 : isNum a.data.toList with
    | false => go_wp2_with fail; go_ret; exact ⟨rfl, HN4.out⟩
    | true =>
    cases i2 : isNum b.data.toList with
    | false => go_wp2_with fail; go_ret; exact ⟨rfl, HN4.out⟩
    | true =>
    cases i3 : isNum c.data.toList with
    | false => go_wp2_with fail; go_ret; exact ⟨rfl, HN4.out⟩
    | true =>
      obtain ⟨L1, E1⟩ := num_facts ha i1
      obtain ⟨L2, E2⟩ := num_facts hb i2
      obtain ⟨L3, E3⟩ := num_facts hc i3
      generalize pNum a.data.toList = x at *
      generalize pNum b.data.toList = y at *
      generalize pNum c.data.toList = z at *
      have HE1 := Lib.hid E1
      clear E1 E2 E3 i1 i2 i3
      go_wp2_with fail
      generalize hW : (w4.alloc (.cells #[.slice A3 l3 c3] 26)).alloc (.cells #[.slice B3 m3 d3] 29) = W at *
      generalize hp8 : w2.heap.size = p8 at *
      generalize hp12 : w3.heap.size = p12 at *
      generalize hp16 : w4.heap.size = p16 at *
      generalize hq8 : p8 + 1 = q8 at *
      generalize hq12 : p12 + 1 = q12 at *
      generalize hq16 : p16 + 1 = q16 at *
      clear hW hp8 hp12 hp16 hq8 hq12 hq16
      have nb1 : NatB W (.agg #[.slice A1 l1 c1]) x 1024 := ⟨T1.out.nx, L1⟩
      have nb2 : NatB W (.agg #[.slice A2 l2 c2]) y 1024 := ⟨T2'.out.nx, L2⟩
      have nb3 : NatB W (.agg #[.slice A3 l3 c3]) z 1024 := ⟨T3.out.nx, L3⟩
      have HX8 := Lib.hid T1.out.bx
      have HX12 := Lib.hid T2'.out.bx
      have HX16 := Lib.hid T3.out.bx
      have G1 := Lib.hid (show x + y = y + x from Nat.add_comm ..)
      have G2 := Lib.hid (show x * y = y * x from Nat.mul_comm ..)
      have G3 := Lib.hid (show x + y + z = x + (y + z) from Nat.add_assoc ..)
      have G4 := Lib.hid (show x * y * z = x * (y * z) from Nat.mul_assoc ..)
      have G5 := Lib.hid (show x * (y + z) = x * y + x * z from Nat.mul_add ..)
      clear T1 T2' T3 L1 L2 L3
      simp only [List.getElem?_toArray, List.getElem?_cons_zero] at hx8 hx12 hx16
      go_region_held3 (fun V => New W V ∧ V.cell? ⟨p8, 0, none⟩ = some (.slice A1 l1 c1) ∧ V.cell? ⟨p12, 0, none⟩ = some (.slice A2 l2 c2) ∧ V.cell? ⟨p16, 0, none⟩ = some (.slice A3 l3 c3))
          (first
            | exact ⟨(New.refl _).drew, by simpa using hx8, by simpa using hx12, by simpa using hx16⟩
            | (go_split_ands; exact ⟨New.trans (by assumption) (by assumption), New.still (by assumption) (by assumption), New.still (by assumption) (by assumption), New.still (by assumption) (by assumption)⟩)
            | (go_split_ands; exact ⟨by assumption, by assumption, by assumption, by assumption⟩))
          ((rw [if_pos (by rfl)]; go_big_op; go_split_ands; first
            | (with_reducible (refine (cmp_same (NatB.new (by assumption) (by first | exact New.refl _ | assumption | exact (New.refl _).alloc _ | exact New.trans (by assumption) (by assumption) | exact New.trans (by assumption) (New.trans (by assumption) (by assumption)) | exact New.trans (by assumption) (New.trans (by assumption) (New.trans (by assumption) (by assumption))) | exact New.trans (by assumption) (New.trans (by assumption) (New.trans (by assumption) (New.trans (by assumption) (by assumption)))))) (NatB.new (by assumption) (by first | exact New.refl _ | assumption | exact (New.refl _).alloc _ | exact New.trans (by assumption) (by assumption) | exact New.trans (by assumption) (New.trans (by assumption) (by assumption)) | exact New.trans (by assumption) (New.trans (by assumption) (New.trans (by assumption) (by assumption))) | exact New.trans (by assumption) (New.trans (by assumption) (New.trans (by assumption) (New.trans (by assumption) (by assumption)))))) (by omega) (by omega) (Hid.out (by assumption))).mono ?_); rintro e w' ⟨rfl, hn⟩; dsimp only)
            | (with_reducible (refine (add_b (NatB.new (by assumption) (by first | exact New.refl _ | assumption | exact (New.refl _).alloc _ | exact New.trans (by assumption) (by assumption) | exact New.trans (by assumption) (New.trans (by assumption) (by assumption)) | exact New.trans (by assumption) (New.trans (by assumption) (New.trans (by assumption) (by assumption))) | exact New.trans (by assumption) (New.trans (by assumption) (New.trans (by assumption) (New.trans (by assumption) (by assumption)))))) (NatB.new (by assumption) (by first | exact New.refl _ | assumption | exact (New.refl _).alloc _ | exact New.trans (by assumption) (by assumption) | exact New.trans (by assumption) (New.trans (by assumption) (by assumption)) | exact New.trans (by assumption) (New.trans (by assumption) (New.trans (by assumption) (by assumption))) | exact New.trans (by assumption) (New.trans (by assumption) (New.trans (by assumption) (New.trans (by assumption) (by assumption)))))) (by omega) (by omega)).mono ?_); rintro e w' ⟨v', rfl, hv', hn⟩; dsimp only)
            | (with_reducible (refine (mul_b (NatB.new (by assumption) (by first | exact New.refl _ | assumption | exact (New.refl _).alloc _ | exact New.trans (by assumption) (by assumption) | exact New.trans (by assumption) (New.trans (by assumption) (by assumption)) | exact New.trans (by assumption) (New.trans (by assumption) (New.trans (by assumption) (by assumption))) | exact New.trans (by assumption) (New.trans (by assumption) (New.trans (by assumption) (New.trans (by assumption) (by assumption)))))) (NatB.new (by assumption) (by first | exact New.refl _ | assumption | exact (New.refl _).alloc _ | exact New.trans (by assumption) (by assumption) | exact New.trans (by assumption) (New.trans (by assumption) (by assumption)) | exact New.trans (by assumption) (New.trans (by assumption) (New.trans (by assumption) (by assumption))) | exact New.trans (by assumption) (New.trans (by assumption) (New.trans (by assumption) (New.trans (by assumption) (by assumption)))))) (by omega) (by omega)).mono ?_); rintro e w' ⟨v', rfl, hv', hn⟩; dsimp only)))
      go_split_ands
      rename_i hN hd8 hd12 hd16
      have NB1 := Lib.hid (nb1.new hN)
      have NB2 := Lib.hid (nb2.new hN)
      have HNW := Lib.hid (HN4.out.trans hN)
      go_wp2_with fail
      clear nb1 nb2 nb3 HX8 HX12 HX16 G1 G2 G3 G4 G5 hx8 hx12 hx16 HN4
      obtain ⟨Wz, hWz⟩ : ∃ X : World, X = w' := ⟨_, rfl⟩
      rw [← hWz] at hN hd8 hd12 HNW NB1 NB2 ⊢
      clear hWz
      clear hd16 hN
      clear hn hv'
      have nb1 := NB1.out
      have nb2 := NB2.out
      have hdr : New Wz Wz.drew := (New.refl _).drew
      go_region_held3 (fun V => New Wz V ∧ V.cell? ⟨p8, 0, none⟩ = some (.slice A1 l1 c1) ∧ V.cell? ⟨p12, 0, none⟩ = some (.slice A2 l2 c2))
          (first
            | exact ⟨(New.refl _).drew, by simpa using hd8, by simpa using hd12⟩
            | (go_split_ands; exact ⟨New.alloc (by assumption) _, New.still (New.alloc (New.refl _) _) (by assumption), New.still (New.alloc (New.refl _) _) (by assumption)⟩)
            | (go_split_ands; exact ⟨New.trans (by assumption) (by assumption), New.still (by assumption) (by assumption), New.still (by assumption) (by assumption)⟩)
            | (go_split_ands; exact ⟨by assumption, by assumption, by assumption⟩)
            | (go_split_ands; exact ⟨New.alloc (New.trans hdr (New.trans (by assumption) (by assumption))) _, New.still (New.alloc (New.trans hdr (New.trans (by assumption) (by assumption))) _) hd8, New.still (New.alloc (New.trans hdr (New.trans (by assumption) (by assumption))) _) hd12⟩)
            | (go_split_ands; exact ⟨(New.setCell (by assumption) (show Wz.heap.size ≤ _ by first | exact Nat.le_refl _ | exact New.le (New.trans hdr (by assumption)) | exact New.le (by assumption)) _), New.still (New.setCell (by assumption) (show Wz.heap.size ≤ _ by first | exact Nat.le_refl _ | exact New.le (New.trans hdr (by assumption)) | exact New.le (by assumption)) _) hd8, New.still (New.setCell (by assumption) (show Wz.heap.size ≤ _ by first | exact Nat.le_refl _ | exact New.le (New.trans hdr (by assumption)) | exact New.le (by assumption)) _) hd12⟩))
          ((rw [if_pos (by rfl)]; go_big_op; go_split_ands; first
            | (with_reducible (refine (add_b (NatB.new (by assumption) (by first | exact New.refl _ | assumption | exact (New.refl _).alloc _ | exact New.trans (by assumption) (by assumption) | exact New.trans (by assumption) (New.trans (by assumption) (by assumption)) | exact New.trans (by assumption) (New.trans (by assumption) (New.trans (by assumption) (by assumption))) | exact New.trans (by assumption) (New.trans (by assumption) (New.trans (by assumption) (New.trans (by assumption) (by assumption)))))) (NatB.new (by assumption) (by first | exact New.refl _ | assumption | exact (New.refl _).alloc _ | exact New.trans (by assumption) (by assumption) | exact New.trans (by assumption) (New.trans (by assumption) (by assumption)) | exact New.trans (by assumption) (New.trans (by assumption) (New.trans (by assumption) (by assumption))) | exact New.trans (by assumption) (New.trans (by assumption) (New.trans (by assumption) (New.trans (by assumption) (by assumption)))))) (by omega) (by omega)).mono ?_); rintro e w' ⟨v', rfl, hv', hn⟩; (first | (have hbx := box_ahead hn; obtain ⟨hcx, hfx⟩ := box_ahead0 hn) | skip); dsimp only)
            | (with_reducible (refine (sub_b (NatB.new (by assumption) (by first | exact New.refl _ | assumption | exact (New.refl _).alloc _ | exact New.trans (by assumption) (by assumption) | exact New.trans (by assumption) (New.trans (by assumption) (by assumption)) | exact New.trans (by assumption) (New.trans (by assumption) (New.trans (by assumption) (by assumption))) | exact New.trans (by assumption) (New.trans (by assumption) (New.trans (by assumption) (New.trans (by assumption) (by assumption)))))) (NatB.new (by assumption) (by first | exact New.refl _ | assumption | exact (New.refl _).alloc _ | exact New.trans (by assumption) (by assumption) | exact New.trans (by assumption) (New.trans (by assumption) (by assumption)) | exact New.trans (by assumption) (New.trans (by assumption) (New.trans (by assumption) (by assumption))) | exact New.trans (by assumption) (New.trans (by assumption) (New.trans (by assumption) (New.trans (by assumption) (by assumption)))))) (by omega) (by omega) (Nat.le_add_left _ _)).mono ?_); rintro e w' ⟨v', rfl, hv', hn⟩; obtain ⟨A5, l5, c5, rfl⟩ := hv'.form; (first | (have hby := Box.new hn (Box.last _ #[.slice none 0 0] 26); have hcy := hby.cell 0; simp only [List.getElem?_toArray, List.getElem?_cons_zero] at hcy; have hfy := hby.frozen 0) | (have hby := Box.new hn hbx; obtain ⟨hcy, hfy⟩ := box_cell0 hby) | skip); dsimp only)))
      all_goals
        go_split_ands
        rename_i hNf hf8 hf12
        have HNF := Lib.hid (HNW.out.trans hNf)
        have HSD := Lib.hid (show Lib.decDigits (x + y - y) = a.data.toList by rw [Nat.add_sub_cancel]; exact HE1.out)
      · have HVZ := Lib.hid (hv'.new ((New.refl w').alloc (.cells #[.slice A5 l5 c5] 26)))
        clear hNf hf8 hf12 hd8 hd12 nb1 nb2 hdr hn
        go_wp2_with fail
        refine (text_b HVZ.out (by omega) (tabIs_new HNF.out HTAB.out) a HSD.out).mono ?_
        rintro e w9 ⟨rfl, hn9⟩
        have H9 := Lib.hid (HNF.out.trans hn9)
        clear hn9
        go_wp2_with fail
        go_ret
        first | exact ⟨rfl, H9.out⟩ | exact ⟨by simp, H9.out⟩
      · have HVZ := Lib.hid (show NatB _ _ (x + y - y) (1024 + 1024 + 1) from ⟨hv'.v.set hby (by decide) (i := 0) (.slice A5 l5 c5), hv'.k⟩)
        have hzc := (hby.set 0 (.slice A5 l5 c5)).cell 0
        simp only [List.setIfInBounds_toArray, List.set_cons_zero, List.getElem?_toArray, List.getElem?_cons_zero] at hzc
        clear hNf hf8 hf12 hd8 hd12 nb1 nb2 hdr hn
        go_wp2_with fail
        refine (text_b HVZ.out (by omega) (tabIs_new HNF.out HTAB.out) a HSD.out).mono ?_
        rintro e w9 ⟨rfl, hn9⟩
        have H9 := Lib.hid (HNF.out.trans hn9)
        clear hn9
        go_wp2_with fail
        go_ret
        first | exact ⟨rfl, H9.out⟩ | exact ⟨by simp, H9.out⟩
      · have HVZ := Lib.hid (show NatB _ _ (x + y - y) (1024 + 1024 + 1) from ⟨hv'.v.set hby (by decide) (i := 0) (.slice A5 l5 c5), hv'.k⟩)
        have hzc := (hby.set 0 (.slice A5 l5 c5)).cell 0
        simp only [List.setIfInBounds_toArray, List.set_cons_zero, List.getElem?_toArray, List.getElem?_cons_zero] at hzc
        clear hNf hf8 hf12 hd8 hd12 nb1 nb2 hdr hn
        go_wp2_with fail
        refine (text_b HVZ.out (by omega) (tabIs_new HNF.out HTAB.out) a HSD.out).mono ?_
        rintro e w9 ⟨rfl, hn9⟩
        have H9 := Lib.hid (HNF.out.trans hn9)
        clear hn9
        go_wp2_with fail
        go_ret
        first | exact ⟨rfl, H9.out⟩ | exact ⟨by simp, H9.out⟩
end Go.Proofs.YtjandmkopeapeaaDoor
