/- The laws of 01: NatOrder, walked. -/
import Derived.Test.YtjandmkopeapeaaDoorLaw1a
import Derived.Test.YtjandmkopeapeaaDoorNat6
import Derived.Deep.RegionHeld3
namespace Go.Proofs.YtjandmkopeapeaaDoor
set_option linter.unusedSimpArgs false
set_option linter.unusedVariables false
open Go.RowKit

/-- What 'number' leaves in its caller's two boxes. -/
structure Two (w : World) (b d : Nat) (A : Option Addr) (l c : Nat) (A' : Option Addr) (l' c' : Nat) (n : Nat) : Prop where
  bx : Box w b #[.slice A l c] 26
  dx : Box w d #[.slice A' l' c'] 29
  nx : NatV w (.agg #[.slice A l c]) n
  rx : RefV w (.agg #[.slice A' l' c']) n
theorem Two.new {w w' : World} {b d : Nat} {A : Option Addr} {l c : Nat} {A' : Option Addr} {l' c' n : Nat} (h : Two w b d A l c A' l' c' n) (hn : New w w') : Two w' b d A l c A' l' c' n :=
  ⟨h.bx.new hn, h.dx.new hn, h.nx.new hn, h.rx.new hn⟩
theorem Two.last {w : World} {A : Option Addr} {l c : Nat} {A' : Option Addr} {l' c' n : Nat} (h1 : NatV w (.agg #[.slice A l c]) n) (h2 : RefV w (.agg #[.slice A' l' c']) n) :
    Two ((w.alloc (.cells #[.slice A l c] 26)).alloc (.cells #[.slice A' l' c'] 29)) w.heap.size (w.heap.size + 1) A l c A' l' c' n :=
  ⟨(Box.last w _ _).alloc _, Box.last2 w _ _ _, h1.new (((New.refl w).alloc _).alloc _), h2.new (((New.refl w).alloc _).alloc _)⟩

theorem data_inj {a b : ByteArray} (h : a.data.toList = b.data.toList) : a = b := by
  obtain ⟨⟨l⟩⟩ := a; obtain ⟨⟨m⟩⟩ := b
  cases h; rfl
theorem num_facts {a : ByteArray} (h : a.size ≤ 256) (hi : isNum a.data.toList = true) : (dg B32 (pNum a.data.toList)).length ≤ 1024 ∧ Lib.decDigits (pNum a.data.toList) = a.data.toList := by
  have hp : pNum a.data.toList = numL a.data.toList := by unfold pNum; rw [if_pos hi]
  refine ⟨?_, by rw [hp]; exact dec_num hi⟩
  have hd : a.data.toList.all dig = true := by
    unfold isNum at hi
    simp only [Bool.and_eq_true] at hi
    exact hi.1.2
  rw [hp]
  have h1 := numL_lt hd
  have h2 : numL a.data.toList < B32 ^ a.data.toList.length := Nat.lt_of_lt_of_le h1 (Nat.pow_le_pow_left (by rw [B32_eq]; omega) _)
  have h3 := dg_len B32_2 h2
  rw [← Lib.size_eq] at h3
  omega
theorem cmp_facts (x y z : Nat) : cmpN y x = - cmpN x y ∧ cmpN (x + z) (y + z) = cmpN x y ∧ (-1 ≤ cmpN x y ∧ cmpN x y ≤ 1) ∧ (cmpN x y > 0 ∨ cmpN y z > 0 ∨ cmpN x z ≤ 0) ∧ (cmpN x y = 0 ↔ x = y) := by
  unfold cmpN
  refine ⟨?_, ?_, ?_, ?_, ?_⟩ <;> (repeat' split) <;> omega
set_option maxRecDepth 100000 in
set_option maxHeartbeats 4000000 in
theorem natOrder_walk (a b c : ByteArray) (w : World) :
    Calls Tryd.prog 3 #[.string a, .string b, .string c] w fun e w' => e = .returned (.bool true) ∧ Below w.heap.size w w' := by
  go_enter Tryd.func3, Tryd.ntmps3
  go_wp2_with fail
  have hbx := Box.last w #[.string a, .string b, .string c] 9
  refine (long_c [a, b, c] _ 3 3 _ rfl (fun i hi => by
    rw [hbx.cell]
    match i, hi with
    | 0, _ => rfl
    | 1, _ => rfl
    | 2, _ => rfl) hbx.lt (by decide) (by decide)).mono ?_
  rintro e w1 ⟨r, rfl, hr, hn1⟩
  have hn1' : New w w1 := ((New.refl w).alloc _).trans hn1
  clear hbx hn1
  cases r with
  | true =>
    go_wp2
    go_ret
    exact ⟨rfl, hn1'⟩
  | false =>
    have hz := hr rfl
    have ha : a.size ≤ 256 := hz a (by simp)
    have hb : b.size ≤ 256 := hz b (by simp)
    have hc : c.size ≤ 256 := hz c (by simp)
    have h1 := fun W => number_c a W (by omega)
    have h2 := fun W => number_c b W (by omega)
    have h3 := fun W => number_c c W (by omega)
    have H1 := Lib.hid h1
    have H2 := Lib.hid h2
    have H3 := Lib.hid h3
    have HN1 := Lib.hid hn1'
    clear hz hr h1 h2 h3 hn1'
    go_wp2_with fail
    refine (H1.out _).mono ?_
    rintro e w2 ⟨v1, u1, rfl, hv1, hu1, hn2⟩
    obtain ⟨A1, l1, c1, rfl⟩ := hv1.form
    obtain ⟨B1, m1, d1, rfl⟩ := hu1.form
    have T1 := Lib.hid (Two.last hv1 hu1)
    have HN2 := Lib.hid ((HN1.out.trans hn2).alloc (.cells #[.slice A1 l1 c1] 26) |>.alloc (.cells #[.slice B1 m1 d1] 29))
    clear hv1 hu1 hn2 HN1
    go_wp2_with fail
    refine (H2.out _).mono ?_
    rintro e w3 ⟨v2, u2, rfl, hv2, hu2, hn3⟩
    obtain ⟨A2, l2, c2, rfl⟩ := hv2.form
    obtain ⟨B2, m2, d2, rfl⟩ := hu2.form
    have T2 := Lib.hid (Two.last hv2 hu2)
    have T1' := Lib.hid (T1.out.new (hn3.alloc (.cells #[.slice A2 l2 c2] 26) |>.alloc (.cells #[.slice B2 m2 d2] 29)))
    have HN3 := Lib.hid ((HN2.out.trans hn3).alloc (.cells #[.slice A2 l2 c2] 26) |>.alloc (.cells #[.slice B2 m2 d2] 29))
    clear hv2 hu2 hn3 HN2 T1
    go_wp2_with fail
    refine (H3.out _).mono ?_
    rintro e w4 ⟨v3, u3, rfl, hv3, hu3, hn4⟩
    obtain ⟨A3, l3, c3, rfl⟩ := hv3.form
    obtain ⟨B3, m3, d3, rfl⟩ := hu3.form
    have T3 := Lib.hid (Two.last hv3 hu3)
    have T1 := Lib.hid (T1'.out.new (hn4.alloc (.cells #[.slice A3 l3 c3] 26) |>.alloc (.cells #[.slice B3 m3 d3] 29)))
    have T2' := Lib.hid (T2.out.new (hn4.alloc (.cells #[.slice A3 l3 c3] 26) |>.alloc (.cells #[.slice B3 m3 d3] 29)))
    have HN4 := Lib.hid ((HN3.out.trans hn4).alloc (.cells #[.slice A3 l3 c3] 26) |>.alloc (.cells #[.slice B3 m3 d3] 29))
    clear hv3 hu3 hn4 HN3 T1' T2 H1 H2 H3
    have hx8 := T1.out.bx.cell 0
    have hx12 := T2'.out.bx.cell 0
    have hx16 := T3.out.bx.cell 0
    cases i1 : isNum a.data.toList with
    | false => go_wp2_with fail; go_ret; exact ⟨rfl, HN4.out⟩
    | true =>
    cases i2 : isNum b.data.toList with
    | false => go_wp2_with fail; go_ret; exact ⟨rfl, HN4.out⟩
    | true =>
    cases i3 : isNum c.data.toList with
    | false => go_wp2_with fail; go_ret; exact ⟨rfl, HN4.out⟩
    | true =>
      obtain ⟨L1, E1⟩ := num_facts ha i1
      obtain ⟨L2, E2⟩ := num_facts hb i2
      obtain ⟨L3, E3⟩ := num_facts hc i3
      have hab : a = b ↔ pNum a.data.toList = pNum b.data.toList := ⟨fun h => by rw [h], fun h => data_inj (by rw [← E1, ← E2, h])⟩
      generalize pNum a.data.toList = x at *
      generalize pNum b.data.toList = y at *
      generalize pNum c.data.toList = z at *
      obtain ⟨hs1, hs2, hs3, hs4, hs5⟩ := cmp_facts x y z
      have HC1 := Lib.hid (fun W u v (hu : NatV W u x) (hv : NatV W v y) => cmp_c hu hv (by omega) (by omega))
      have HC2 := Lib.hid (fun W u v (hu : NatV W u y) (hv : NatV W v x) => cmp_c hu hv (by omega) (by omega))
      have HC3 := Lib.hid (fun W u v (hu : NatV W u (x + z)) (hv : NatV W v (y + z)) => cmp_c hu hv (by have := dg_len_add B32_2 x z; omega) (by have := dg_len_add B32_2 y z; omega))
      have HC4 := Lib.hid (fun W u v (hu : NatV W u y) (hv : NatV W v z) => cmp_c hu hv (by omega) (by omega))
      have HC5 := Lib.hid (fun W u v (hu : NatV W u x) (hv : NatV W v z) => cmp_c hu hv (by omega) (by omega))
      have HA1 := Lib.hid (fun W u v (hu : NatV W u x) (hv : NatV W v z) => add_c hu hv (by omega) (by omega))
      have HA2 := Lib.hid (fun W u v (hu : NatV W u y) (hv : NatV W v z) => add_c hu hv (by omega) (by omega))
      have hsab : a = b ↔ cmpN x y = 0 := hab.trans hs5.symm
      rw [hs1] at HC2
      rw [hs2] at HC3
      generalize cmpN x y = s at *
      generalize cmpN y z = s2 at *
      generalize cmpN x z = s3 at *
      have HS4 := Lib.hid hs4
      have HSAB := Lib.hid hsab
      clear hs1 hs2 hs4 hs5 hab hsab L1 L2 L3 E1 E2 i1 i2 i3
      go_wp2_with fail
      generalize hW : (w4.alloc (.cells #[.slice A3 l3 c3] 26)).alloc (.cells #[.slice B3 m3 d3] 29) = W at *
      generalize hp8 : w2.heap.size = p8 at *
      generalize hp12 : w3.heap.size = p12 at *
      generalize hp16 : w4.heap.size = p16 at *
      generalize hq8 : p8 + 1 = q8 at *
      generalize hq12 : p12 + 1 = q12 at *
      generalize hq16 : p16 + 1 = q16 at *
      clear hW hp8 hp12 hp16 hq8 hq12 hq16
      refine (HC1.out _ _ _ T1.out.nx T2'.out.nx).mono ?_
      rintro e W1 ⟨rfl, hn1⟩
      have hy8 := hn1.still hx8
      have hy12 := hn1.still hx12
      have hy16 := hn1.still hx16
      have U1 := Lib.hid (T1.out.new hn1).nx
      have U2 := Lib.hid (T2'.out.new hn1).nx
      have U3 := Lib.hid (T3.out.new hn1).nx
      have HN5 := Lib.hid (HN4.out.trans hn1)
      clear hx8 hx12 hx16 T1 T2' T3 HN4 hn1
      obtain ⟨hs3a, hs3b⟩ := hs3
      have hS4 := HS4.out
      by_cases hab : a = b
      · have hs0 := HSAB.out.1 hab
        subst hab
        subst hs0
        go_wp2
        go_region_held3 (fun V => New W1 V ∧ V.cell? ⟨p8, 0, none⟩ = some (.slice A1 l1 c1) ∧ V.cell? ⟨p12, 0, none⟩ = some (.slice A2 l2 c2) ∧ V.cell? ⟨p16, 0, none⟩ = some (.slice A3 l3 c3))
          (first
            | exact ⟨(New.refl _).drew, by simpa using hy8, by simpa using hy12, by simpa using hy16⟩
            | (go_split_ands; exact ⟨New.trans (by assumption) (by assumption), New.still (by assumption) (by assumption), New.still (by assumption) (by assumption), New.still (by assumption) (by assumption)⟩)
            | (go_split_ands; exact ⟨by assumption, by assumption, by assumption, by assumption⟩))
          ((rw [if_pos (by rfl)]; go_big_op; go_split_ands; first
            | (with_reducible (refine (HC2.out _ _ _ (U2.out.new (by assumption)) (U1.out.new (by assumption))).mono ?_); rintro e w' ⟨rfl, hn⟩; dsimp only)
            | (with_reducible (refine (HA1.out _ _ _ (U1.out.new (by assumption)) (U3.out.new (by assumption))).mono ?_); rintro e w' ⟨v', rfl, hv', hn⟩; dsimp only)
            | (with_reducible (refine (HA2.out _ _ _ (U2.out.new (by assumption)) (U3.out.new (by assumption))).mono ?_); rintro e w' ⟨v', rfl, hv', hn⟩; dsimp only)
            | (refine (HC3.out _ _ _ (NatV.new (by assumption) (by assumption)) (by assumption)).mono ?_; rintro e w' ⟨rfl, hn⟩; dsimp only)))
        go_split_ands
        rename_i hN hd8 hd12 hd16
        by_cases hp2 : 0 < s2
        · go_wp2_with fail
          refine (HC1.out _ _ _ (U1.out.new hN) (U2.out.new hN)).mono ?_
          rintro e W2 ⟨rfl, hn2⟩
          have he8 := hn2.still hd8
          have he12 := hn2.still hd12
          have he16 := hn2.still hd16
          have hN2 := hN.trans hn2
          clear hn2
          go_wp2_with fail
          refine (HC4.out _ _ _ (U2.out.new hN2) (U3.out.new hN2)).mono ?_
          rintro e W3 ⟨rfl, hn3⟩
          have HN6 := Lib.hid (HN5.out.trans (hN2.trans hn3))
          clear hn3 hN2 hN he8 he12 he16
          go_wp2_with fail
          go_ret
          exact ⟨rfl, HN6.out⟩
        · have hp3 : s3 ≤ 0 := by omega
          go_wp2_with fail
          refine (HC1.out _ _ _ (U1.out.new hN) (U2.out.new hN)).mono ?_
          rintro e W2 ⟨rfl, hn2⟩
          have he8 := hn2.still hd8
          have he12 := hn2.still hd12
          have he16 := hn2.still hd16
          have hN2 := hN.trans hn2
          clear hn2
          go_wp2_with fail
          refine (HC4.out _ _ _ (U2.out.new hN2) (U3.out.new hN2)).mono ?_
          rintro e W3 ⟨rfl, hn3⟩
          have hf8 := hn3.still he8
          have hf12 := hn3.still he12
          have hf16 := hn3.still he16
          have hN3 := hN2.trans hn3
          clear hn3 he8 he12 he16
          go_wp2_with fail
          refine (HC5.out _ _ _ (U1.out.new hN3) (U3.out.new hN3)).mono ?_
          rintro e W4 ⟨rfl, hn4⟩
          have HN6 := Lib.hid (HN5.out.trans (hN3.trans hn4))
          clear hn4 hN3 hN2 hN hf8 hf12 hf16
          go_wp2_with fail
          go_ret
          exact ⟨rfl, HN6.out⟩
      · have hs0 : ¬ s = 0 := fun h => hab (HSAB.out.2 h)
        have hne1 : ¬ a.toList = b.toList := fun h => hab (data_inj (by rw [← Lib.toList_data, ← Lib.toList_data]; exact h))
        have hne3 : (a.toList == b.toList) = false := by rw [beq_eq_false_iff_ne]; exact hne1
        rcases (show s = -1 ∨ s = 1 by omega) with h | h
        · subst h
          go_wp2
          go_region_held3 (fun V => New W1 V ∧ V.cell? ⟨p8, 0, none⟩ = some (.slice A1 l1 c1) ∧ V.cell? ⟨p12, 0, none⟩ = some (.slice A2 l2 c2) ∧ V.cell? ⟨p16, 0, none⟩ = some (.slice A3 l3 c3))
            (first
              | exact ⟨(New.refl _).drew, by simpa using hy8, by simpa using hy12, by simpa using hy16⟩
              | (go_split_ands; exact ⟨New.trans (by assumption) (by assumption), New.still (by assumption) (by assumption), New.still (by assumption) (by assumption), New.still (by assumption) (by assumption)⟩)
              | (go_split_ands; exact ⟨by assumption, by assumption, by assumption, by assumption⟩))
            ((rw [if_pos (by rfl)]; go_big_op; go_split_ands; first
              | (with_reducible (refine (HC2.out _ _ _ (U2.out.new (by assumption)) (U1.out.new (by assumption))).mono ?_); rintro e w' ⟨rfl, hn⟩; dsimp only)
              | (with_reducible (refine (HA1.out _ _ _ (U1.out.new (by assumption)) (U3.out.new (by assumption))).mono ?_); rintro e w' ⟨v', rfl, hv', hn⟩; dsimp only)
              | (with_reducible (refine (HA2.out _ _ _ (U2.out.new (by assumption)) (U3.out.new (by assumption))).mono ?_); rintro e w' ⟨v', rfl, hv', hn⟩; dsimp only)
              | (refine (HC3.out _ _ _ (NatV.new (by assumption) (by assumption)) (by assumption)).mono ?_; rintro e w' ⟨rfl, hn⟩; dsimp only)))
          go_split_ands
          rename_i hN hd8 hd12 hd16
          by_cases hp2 : 0 < s2
          · go_wp2_with fail
            refine (HC1.out _ _ _ (U1.out.new hN) (U2.out.new hN)).mono ?_
            rintro e W2 ⟨rfl, hn2⟩
            have he8 := hn2.still hd8
            have he12 := hn2.still hd12
            have he16 := hn2.still hd16
            have hN2 := hN.trans hn2
            clear hn2
            go_wp2_with fail
            refine (HC4.out _ _ _ (U2.out.new hN2) (U3.out.new hN2)).mono ?_
            rintro e W3 ⟨rfl, hn3⟩
            have HN6 := Lib.hid (HN5.out.trans (hN2.trans hn3))
            clear hn3 hN2 hN he8 he12 he16
            go_wp2_with fail
            go_ret
            exact ⟨rfl, HN6.out⟩
          · have hp3 : s3 ≤ 0 := by omega
            go_wp2_with fail
            refine (HC1.out _ _ _ (U1.out.new hN) (U2.out.new hN)).mono ?_
            rintro e W2 ⟨rfl, hn2⟩
            have he8 := hn2.still hd8
            have he12 := hn2.still hd12
            have he16 := hn2.still hd16
            have hN2 := hN.trans hn2
            clear hn2
            go_wp2_with fail
            refine (HC4.out _ _ _ (U2.out.new hN2) (U3.out.new hN2)).mono ?_
            rintro e W3 ⟨rfl, hn3⟩
            have hf8 := hn3.still he8
            have hf12 := hn3.still he12
            have hf16 := hn3.still he16
            have hN3 := hN2.trans hn3
            clear hn3 he8 he12 he16
            go_wp2_with fail
            refine (HC5.out _ _ _ (U1.out.new hN3) (U3.out.new hN3)).mono ?_
            rintro e W4 ⟨rfl, hn4⟩
            have HN6 := Lib.hid (HN5.out.trans (hN3.trans hn4))
            clear hn4 hN3 hN2 hN hf8 hf12 hf16
            go_wp2_with fail
            go_ret
            exact ⟨rfl, HN6.out⟩
        · subst h
          go_wp2
          go_region_held3 (fun V => New W1 V ∧ V.cell? ⟨p8, 0, none⟩ = some (.slice A1 l1 c1) ∧ V.cell? ⟨p12, 0, none⟩ = some (.slice A2 l2 c2) ∧ V.cell? ⟨p16, 0, none⟩ = some (.slice A3 l3 c3))
            (first
              | exact ⟨(New.refl _).drew, by simpa using hy8, by simpa using hy12, by simpa using hy16⟩
              | (go_split_ands; exact ⟨New.trans (by assumption) (by assumption), New.still (by assumption) (by assumption), New.still (by assumption) (by assumption), New.still (by assumption) (by assumption)⟩)
              | (go_split_ands; exact ⟨by assumption, by assumption, by assumption, by assumption⟩))
            ((rw [if_pos (by rfl)]; go_big_op; go_split_ands; first
              | (with_reducible (refine (HC2.out _ _ _ (U2.out.new (by assumption)) (U1.out.new (by assumption))).mono ?_); rintro e w' ⟨rfl, hn⟩; dsimp only)
              | (with_reducible (refine (HA1.out _ _ _ (U1.out.new (by assumption)) (U3.out.new (by assumption))).mono ?_); rintro e w' ⟨v', rfl, hv', hn⟩; dsimp only)
              | (with_reducible (refine (HA2.out _ _ _ (U2.out.new (by assumption)) (U3.out.new (by assumption))).mono ?_); rintro e w' ⟨v', rfl, hv', hn⟩; dsimp only)
              | (refine (HC3.out _ _ _ (NatV.new (by assumption) (by assumption)) (by assumption)).mono ?_; rintro e w' ⟨rfl, hn⟩; dsimp only)))
          go_split_ands
          rename_i hN hd8 hd12 hd16
          go_wp2_with fail
          refine (HC1.out _ _ _ (U1.out.new hN) (U2.out.new hN)).mono ?_
          rintro e W2 ⟨rfl, hn2⟩
          have HN6 := Lib.hid (HN5.out.trans (hN.trans hn2))
          clear hn2 hN
          go_wp2_with fail
          go_ret
          exact ⟨rfl, HN6.out⟩
end Go.Proofs.YtjandmkopeapeaaDoor
