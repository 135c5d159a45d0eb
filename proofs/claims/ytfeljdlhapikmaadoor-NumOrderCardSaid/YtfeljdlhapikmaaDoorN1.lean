/- The laws of 02: NumOrder, walked. (Printed by mkn1.py.) -/
import Derived.Test.YtfeljdlhapikmaaDoorZ4
import Derived.Test.YtfeljdlhapikmaaDoorZ7
import Derived.Test.YtfeljdlhapikmaaDoorZ8
import Derived.Deep.RegionHeld3
namespace Go.Proofs.YtfeljdlhapikmaaDoor
set_option linter.unusedSimpArgs false
set_option linter.unusedVariables false
open Go.RowKit
/-- A number's box. -/
structure NX (w : World) (p : Nat) (A : Option Addr) (l c : Nat) (b : Bool) (z : Int) : Prop where
  bx : Box w p #[.slice A l c, .bool b] NNum
  nx : NumB w (.agg #[.slice A l c, .bool b]) z 4096
theorem NX.new {w w' : World} {p : Nat} {A : Option Addr} {l c : Nat} {b : Bool} {z : Int} (h : NX w p A l c b z) (hn : New w w') : NX w' p A l c b z := ⟨h.bx.new hn, h.nx.new hn⟩
theorem NX.last {w : World} {A : Option Addr} {l c : Nat} {b : Bool} {z : Int} (C : Array Value) (h : NumB w (.agg #[.slice A l c, .bool b]) z 4096) : NX ((w.alloc (.cells #[.slice A l c, .bool b] NNum)).alloc (.cells C RNum)) w.heap.size A l c b z :=
  ⟨(Box.last w _ _).alloc _, h.new (((New.refl w).alloc _).alloc _)⟩
theorem data_injZ {a b : ByteArray} (h : a.data.toList = b.data.toList) : a = b := by
  obtain ⟨⟨l⟩⟩ := a; obtain ⟨⟨m⟩⟩ := b
  cases h; rfl
theorem cmpz_facts (x y z : Int) : cmpZ y x = - cmpZ x y ∧ cmpZ (-x) (-y) = - cmpZ x y ∧ cmpZ (x + z) (y + z) = cmpZ x y ∧ (-1 ≤ cmpZ x y ∧ cmpZ x y ≤ 1) ∧ (cmpZ x y > 0 ∨ cmpZ y z > 0 ∨ cmpZ x z ≤ 0) ∧ (cmpZ x y = 0 ↔ x = y) := by
  unfold cmpZ
  refine ⟨?_, ?_, ?_, ?_, ?_, ?_⟩ <;> (repeat' split) <;> omega
set_option maxRecDepth 1000000 in
set_option maxHeartbeats 8000000 in
theorem numOrder_walk (a b c : ByteArray) (w : World) :
    Calls Tryd.prog 3 #[.string a, .string b, .string c] w fun e w' => e = .returned (.bool true) ∧ Below w.heap.size w w' := by
  go_enter Tryd.func3, Tryd.ntmps3
  go_wp2_with fail
  have hbx := Box.last w #[.string a, .string b, .string c] 9
  refine (long_n [a, b, c] _ 3 3 _ rfl (fun i hi => by
    rw [hbx.cell]
    match i, hi with
    | 0, _ => rfl
    | 1, _ => rfl
    | 2, _ => rfl) hbx.lt (by decide) (by decide)).mono ?_
  rintro e w1 ⟨r, rfl, hr, hn1⟩
  have hn1' : New w w1 := ((New.refl w).alloc _).trans hn1
  clear hbx hn1
  cases r with
  | true =>
    go_wp2
    go_ret
    exact ⟨rfl, hn1'⟩
  | false =>
    have hz := hr rfl
    have ha : a.size ≤ 512 := hz a (by simp)
    have hb : b.size ≤ 512 := hz b (by simp)
    have hc : c.size ≤ 512 := hz c (by simp)
    have H1 := Lib.hid (fun W => number_n a W (by omega))
    have H2 := Lib.hid (fun W => number_n b W (by omega))
    have H3 := Lib.hid (fun W => number_n c W (by omega))
    have HN1 := Lib.hid hn1'
    clear hz hr hn1'
    go_wp2_with fail
    refine (H1.out _).mono ?_
    rintro e w2 ⟨v1, u1, rfl, hv1, hu1, hn⟩
    obtain ⟨A1, l1, c1, rfl, _⟩ := hv1.form
    obtain ⟨bb1, B1, m1, d1, rfl⟩ := hu1.form
    generalize decide (zNum a.data.toList < 0) = b1 at *
    have hnn := (hn.alloc (.cells #[.slice A1 l1 c1, .bool b1] NNum)).alloc (.cells #[.bool bb1, .slice B1 m1 d1] RNum)
    have T1 := Lib.hid (NX.last #[.bool bb1, .slice B1 m1 d1] hv1)
    have HN2 := Lib.hid (HN1.out.trans hnn)
    clear hv1 hu1 hn hnn HN1
    go_wp2_with fail
    refine (H2.out _).mono ?_
    rintro e w3 ⟨v2, u2, rfl, hv2, hu2, hn⟩
    obtain ⟨A2, l2, c2, rfl, _⟩ := hv2.form
    obtain ⟨bb2, B2, m2, d2, rfl⟩ := hu2.form
    generalize decide (zNum b.data.toList < 0) = b2 at *
    have hnn := (hn.alloc (.cells #[.slice A2 l2 c2, .bool b2] NNum)).alloc (.cells #[.bool bb2, .slice B2 m2 d2] RNum)
    have T2 := Lib.hid (NX.last #[.bool bb2, .slice B2 m2 d2] hv2)
    replace T1 := Lib.hid (T1.out.new hnn)
    have HN3 := Lib.hid (HN2.out.trans hnn)
    clear hv2 hu2 hn hnn HN2
    go_wp2_with fail
    refine (H3.out _).mono ?_
    rintro e w4 ⟨v3, u3, rfl, hv3, hu3, hn⟩
    obtain ⟨A3, l3, c3, rfl, _⟩ := hv3.form
    obtain ⟨bb3, B3, m3, d3, rfl⟩ := hu3.form
    generalize decide (zNum c.data.toList < 0) = b3 at *
    have hnn := (hn.alloc (.cells #[.slice A3 l3 c3, .bool b3] NNum)).alloc (.cells #[.bool bb3, .slice B3 m3 d3] RNum)
    have T3 := Lib.hid (NX.last #[.bool bb3, .slice B3 m3 d3] hv3)
    replace T1 := Lib.hid (T1.out.new hnn)
    replace T2 := Lib.hid (T2.out.new hnn)
    have HN4 := Lib.hid (HN3.out.trans hnn)
    clear hv3 hu3 hn hnn HN3
    clear H1 H2 H3
    obtain ⟨hx8, hx9, _, _⟩ := T1.out.bx.two
    obtain ⟨hx12, hx13, _, _⟩ := T2.out.bx.two
    obtain ⟨hx16, hx17, _, _⟩ := T3.out.bx.two
    cases i1 : isZ a.data.toList with
    | false => go_wp2_with fail; go_ret; exact ⟨rfl, HN4.out⟩
    | true =>
    cases i2 : isZ b.data.toList with
    | false => go_wp2_with fail; go_ret; exact ⟨rfl, HN4.out⟩
    | true =>
    cases i3 : isZ c.data.toList with
    | false => go_wp2_with fail; go_ret; exact ⟨rfl, HN4.out⟩
    | true =>
      have hab : a = b ↔ zNum a.data.toList = zNum b.data.toList := ⟨fun h => by rw [h], fun h => by rw [← zNum_text i1, ← zNum_text i2, h]⟩
      generalize zNum a.data.toList = x at *
      generalize zNum b.data.toList = y at *
      generalize zNum c.data.toList = z at *
      obtain ⟨hs1, hs0, hs2, hs3, hs4, hs5⟩ := cmpz_facts x y z
      have HC1 := Lib.hid (fun W u v (hu : NumB W u x 4096) (hv : NumB W v y 4096) => cmp_n hu hv (by omega) (by omega))
      have HC2 := Lib.hid (fun W u v (hu : NumB W u y 4096) (hv : NumB W v x 4096) => cmp_n hu hv (by omega) (by omega))
      have HC3 := Lib.hid (fun W u v (hu : NumB W u (x + z) 8193) (hv : NumB W v (y + z) 8193) => cmp_n hu hv (by omega) (by omega))
      have HC4 := Lib.hid (fun W u v (hu : NumB W u y 4096) (hv : NumB W v z 4096) => cmp_n hu hv (by omega) (by omega))
      have HC5 := Lib.hid (fun W u v (hu : NumB W u x 4096) (hv : NumB W v z 4096) => cmp_n hu hv (by omega) (by omega))
      have HC6 := Lib.hid (fun W u v (hu : NumB W u (-x) 4096) (hv : NumB W v (-y) 4096) => cmp_n hu hv (by omega) (by omega))
      have HA1 := Lib.hid (fun W u v (hu : NumB W u x 4096) (hv : NumB W v z 4096) => add_n hu hv (by omega) (by omega))
      have HA2 := Lib.hid (fun W u v (hu : NumB W u y 4096) (hv : NumB W v z 4096) => add_n hu hv (by omega) (by omega))
      have HG1 := Lib.hid (fun W u (hu : NumB W u x 4096) => neg_n hu (by omega))
      have HG2 := Lib.hid (fun W u (hu : NumB W u y 4096) => neg_n hu (by omega))
      have hsab : a = b ↔ cmpZ x y = 0 := hab.trans hs5.symm
      rw [hs1] at HC2
      rw [hs2] at HC3
      rw [hs0] at HC6
      generalize cmpZ x y = s at *
      generalize cmpZ y z = s2 at *
      generalize cmpZ x z = s3 at *
      have HS4 := Lib.hid hs4
      have HSAB := Lib.hid hsab
      clear hs1 hs0 hs2 hs4 hs5 hab hsab i1 i2 i3
      go_wp2_with fail
      generalize hW : (w4.alloc (.cells #[.slice A3 l3 c3, .bool b3] NNum)).alloc (.cells #[.bool bb3, .slice B3 m3 d3] RNum) = W at *
      generalize hp8 : w2.heap.size = p8 at *
      generalize hp12 : w3.heap.size = p12 at *
      generalize hp16 : w4.heap.size = p16 at *
      generalize hq8 : p8 + 1 = q8 at *
      generalize hq12 : p12 + 1 = q12 at *
      generalize hq16 : p16 + 1 = q16 at *
      clear hW hp8 hp12 hp16 hq8 hq12 hq16
      refine (HC1.out _ _ _ T1.out.nx T2.out.nx).mono ?_
      rintro e W1 ⟨rfl, hn1⟩
      have hy8 := hn1.still hx8
      have hy9 := hn1.still hx9
      have hy12 := hn1.still hx12
      have hy13 := hn1.still hx13
      have hy16 := hn1.still hx16
      have hy17 := hn1.still hx17
      have U1 := Lib.hid (T1.out.new hn1).nx
      have U2 := Lib.hid (T2.out.new hn1).nx
      have U3 := Lib.hid (T3.out.new hn1).nx
      have HN5 := Lib.hid (HN4.out.trans hn1)
      clear hx8 hx9 hx12 hx13 hx16 hx17 T1 T2 T3 HN4 hn1
      obtain ⟨hs3a, hs3b⟩ := hs3
      have hS4 := HS4.out
      by_cases hab : a = b
      · have hs0 := HSAB.out.1 hab
        subst hab
        subst hs0
        go_wp2
        go_region_held3 (fun V => New W1 V ∧ V.cell? ⟨p8, 0, none⟩ = some (.slice A1 l1 c1) ∧ V.cell? ⟨p8, 1, none⟩ = some (.bool b1) ∧ V.cell? ⟨p12, 0, none⟩ = some (.slice A2 l2 c2) ∧ V.cell? ⟨p12, 1, none⟩ = some (.bool b2) ∧ V.cell? ⟨p16, 0, none⟩ = some (.slice A3 l3 c3) ∧ V.cell? ⟨p16, 1, none⟩ = some (.bool b3))
          (first
            | exact ⟨(New.refl _).drew, by simpa using hy8, by simpa using hy9, by simpa using hy12, by simpa using hy13, by simpa using hy16, by simpa using hy17⟩
            | (go_split_ands; exact ⟨New.trans (by assumption) (by assumption), New.still (by assumption) (by assumption), New.still (by assumption) (by assumption), New.still (by assumption) (by assumption), New.still (by assumption) (by assumption), New.still (by assumption) (by assumption), New.still (by assumption) (by assumption)⟩)
            | (go_split_ands; exact ⟨by assumption, by assumption, by assumption, by assumption, by assumption, by assumption, by assumption⟩))
          ((rw [if_pos (by rfl)]; go_big_op; go_split_ands; first
            | (with_reducible (refine (HC3.out _ _ _ (by first | assumption | exact NumB.new (by assumption) (by first | assumption | exact New.trans (by assumption) (by assumption) | exact New.trans (by assumption) (New.trans (by assumption) (by assumption)) | exact New.trans (by assumption) (New.trans (by assumption) (New.trans (by assumption) (by assumption))))) (by first | assumption | exact NumB.new (by assumption) (by first | assumption | exact New.trans (by assumption) (by assumption) | exact New.trans (by assumption) (New.trans (by assumption) (by assumption)) | exact New.trans (by assumption) (New.trans (by assumption) (New.trans (by assumption) (by assumption)))))).mono ?_); rintro e w' ⟨rfl, hn⟩; dsimp only)
            | (with_reducible (refine (HA2.out _ _ _ (U2.out.new (by assumption)) (U3.out.new (by assumption))).mono ?_); rintro e w' ⟨v', rfl, hv', hn⟩; dsimp only)
            | (with_reducible (refine (HA1.out _ _ _ (U1.out.new (by assumption)) (U3.out.new (by assumption))).mono ?_); rintro e w' ⟨v', rfl, hv', hn⟩; dsimp only)
            | (with_reducible (refine (HC6.out _ _ _ (by first | assumption | exact NumB.new (by assumption) (by first | assumption | exact New.trans (by assumption) (by assumption) | exact New.trans (by assumption) (New.trans (by assumption) (by assumption)) | exact New.trans (by assumption) (New.trans (by assumption) (New.trans (by assumption) (by assumption))))) (by first | assumption | exact NumB.new (by assumption) (by first | assumption | exact New.trans (by assumption) (by assumption) | exact New.trans (by assumption) (New.trans (by assumption) (by assumption)) | exact New.trans (by assumption) (New.trans (by assumption) (New.trans (by assumption) (by assumption)))))).mono ?_); rintro e w' ⟨rfl, hn⟩; dsimp only)
            | (with_reducible (refine (HG2.out _ _ (U2.out.new (by assumption))).mono ?_); rintro e w' ⟨v', rfl, hv', hn⟩; dsimp only)
            | (with_reducible (refine (HG1.out _ _ (U1.out.new (by assumption))).mono ?_); rintro e w' ⟨v', rfl, hv', hn⟩; dsimp only)
            | (with_reducible (refine (HC2.out _ _ _ (U2.out.new (by assumption)) (U1.out.new (by assumption))).mono ?_); rintro e w' ⟨rfl, hn⟩; dsimp only)))
        go_split_ands
        rename_i hN hd8 hd9 hd12 hd13 hd16 hd17
        by_cases hp2 : 0 < s2
        · go_wp2_with fail
          refine (HC1.out _ _ _ (U1.out.new hN) (U2.out.new hN)).mono ?_
          rintro e W2 ⟨rfl, hnx⟩
          have he8 := hnx.still hd8
          have he9 := hnx.still hd9
          have he12 := hnx.still hd12
          have he13 := hnx.still hd13
          have he16 := hnx.still hd16
          have he17 := hnx.still hd17
          have hN2 := hN.trans hnx
          clear hnx
          go_wp2_with fail
          refine (HC4.out _ _ _ (U2.out.new hN2) (U3.out.new hN2)).mono ?_
          rintro e W3 ⟨rfl, hnx⟩
          have hf8 := hnx.still he8
          have hf9 := hnx.still he9
          have hf12 := hnx.still he12
          have hf13 := hnx.still he13
          have hf16 := hnx.still he16
          have hf17 := hnx.still he17
          have hN3 := hN2.trans hnx
          clear hnx
          have HN6 := Lib.hid (HN5.out.trans hN3)
          clear hN3 hN2 hN he8 he9 he12 he13 he16 he17 hf8 hf9 hf12 hf13 hf16 hf17
          go_wp2_with fail
          go_ret
          exact ⟨rfl, HN6.out⟩
        · have hp3 : s3 ≤ 0 := by omega
          go_wp2_with fail
          refine (HC1.out _ _ _ (U1.out.new hN) (U2.out.new hN)).mono ?_
          rintro e W2 ⟨rfl, hnx⟩
          have he8 := hnx.still hd8
          have he9 := hnx.still hd9
          have he12 := hnx.still hd12
          have he13 := hnx.still hd13
          have he16 := hnx.still hd16
          have he17 := hnx.still hd17
          have hN2 := hN.trans hnx
          clear hnx
          go_wp2_with fail
          refine (HC4.out _ _ _ (U2.out.new hN2) (U3.out.new hN2)).mono ?_
          rintro e W3 ⟨rfl, hnx⟩
          have hf8 := hnx.still he8
          have hf9 := hnx.still he9
          have hf12 := hnx.still he12
          have hf13 := hnx.still he13
          have hf16 := hnx.still he16
          have hf17 := hnx.still he17
          have hN3 := hN2.trans hnx
          clear hnx
          go_wp2_with fail
          refine (HC5.out _ _ _ (U1.out.new hN3) (U3.out.new hN3)).mono ?_
          rintro e W4 ⟨rfl, hnx⟩
          have hN4 := hN3.trans hnx
          clear hnx
          have HN6 := Lib.hid (HN5.out.trans hN4)
          clear hN4 hN3 hN2 hN he8 he9 he12 he13 he16 he17 hf8 hf9 hf12 hf13 hf16 hf17
          go_wp2_with fail
          go_ret
          exact ⟨rfl, HN6.out⟩
      · have hs0 : ¬ s = 0 := fun h => hab (HSAB.out.2 h)
        have hne1 : ¬ a.toList = b.toList := fun h => hab (data_injZ (by rw [← Lib.toList_data, ← Lib.toList_data]; exact h))
        have hne3 : (a.toList == b.toList) = false := by rw [beq_eq_false_iff_ne]; exact hne1
        rcases (show s = -1 ∨ s = 1 by omega) with h | h
        · subst h
          go_wp2
          go_region_held3 (fun V => New W1 V ∧ V.cell? ⟨p8, 0, none⟩ = some (.slice A1 l1 c1) ∧ V.cell? ⟨p8, 1, none⟩ = some (.bool b1) ∧ V.cell? ⟨p12, 0, none⟩ = some (.slice A2 l2 c2) ∧ V.cell? ⟨p12, 1, none⟩ = some (.bool b2) ∧ V.cell? ⟨p16, 0, none⟩ = some (.slice A3 l3 c3) ∧ V.cell? ⟨p16, 1, none⟩ = some (.bool b3))
            (first
              | exact ⟨(New.refl _).drew, by simpa using hy8, by simpa using hy9, by simpa using hy12, by simpa using hy13, by simpa using hy16, by simpa using hy17⟩
              | (go_split_ands; exact ⟨New.trans (by assumption) (by assumption), New.still (by assumption) (by assumption), New.still (by assumption) (by assumption), New.still (by assumption) (by assumption), New.still (by assumption) (by assumption), New.still (by assumption) (by assumption), New.still (by assumption) (by assumption)⟩)
              | (go_split_ands; exact ⟨by assumption, by assumption, by assumption, by assumption, by assumption, by assumption, by assumption⟩))
            ((rw [if_pos (by rfl)]; go_big_op; go_split_ands; first
              | (with_reducible (refine (HC3.out _ _ _ (by first | assumption | exact NumB.new (by assumption) (by first | assumption | exact New.trans (by assumption) (by assumption) | exact New.trans (by assumption) (New.trans (by assumption) (by assumption)) | exact New.trans (by assumption) (New.trans (by assumption) (New.trans (by assumption) (by assumption))))) (by first | assumption | exact NumB.new (by assumption) (by first | assumption | exact New.trans (by assumption) (by assumption) | exact New.trans (by assumption) (New.trans (by assumption) (by assumption)) | exact New.trans (by assumption) (New.trans (by assumption) (New.trans (by assumption) (by assumption)))))).mono ?_); rintro e w' ⟨rfl, hn⟩; dsimp only)
              | (with_reducible (refine (HA2.out _ _ _ (U2.out.new (by assumption)) (U3.out.new (by assumption))).mono ?_); rintro e w' ⟨v', rfl, hv', hn⟩; dsimp only)
              | (with_reducible (refine (HA1.out _ _ _ (U1.out.new (by assumption)) (U3.out.new (by assumption))).mono ?_); rintro e w' ⟨v', rfl, hv', hn⟩; dsimp only)
              | (with_reducible (refine (HC6.out _ _ _ (by first | assumption | exact NumB.new (by assumption) (by first | assumption | exact New.trans (by assumption) (by assumption) | exact New.trans (by assumption) (New.trans (by assumption) (by assumption)) | exact New.trans (by assumption) (New.trans (by assumption) (New.trans (by assumption) (by assumption))))) (by first | assumption | exact NumB.new (by assumption) (by first | assumption | exact New.trans (by assumption) (by assumption) | exact New.trans (by assumption) (New.trans (by assumption) (by assumption)) | exact New.trans (by assumption) (New.trans (by assumption) (New.trans (by assumption) (by assumption)))))).mono ?_); rintro e w' ⟨rfl, hn⟩; dsimp only)
              | (with_reducible (refine (HG2.out _ _ (U2.out.new (by assumption))).mono ?_); rintro e w' ⟨v', rfl, hv', hn⟩; dsimp only)
              | (with_reducible (refine (HG1.out _ _ (U1.out.new (by assumption))).mono ?_); rintro e w' ⟨v', rfl, hv', hn⟩; dsimp only)
              | (with_reducible (refine (HC2.out _ _ _ (U2.out.new (by assumption)) (U1.out.new (by assumption))).mono ?_); rintro e w' ⟨rfl, hn⟩; dsimp only)))
          go_split_ands
          rename_i hN hd8 hd9 hd12 hd13 hd16 hd17
          by_cases hp2 : 0 < s2
          · go_wp2_with fail
            refine (HC1.out _ _ _ (U1.out.new hN) (U2.out.new hN)).mono ?_
            rintro e W2 ⟨rfl, hnx⟩
            have he8 := hnx.still hd8
            have he9 := hnx.still hd9
            have he12 := hnx.still hd12
            have he13 := hnx.still hd13
            have he16 := hnx.still hd16
            have he17 := hnx.still hd17
            have hN2 := hN.trans hnx
            clear hnx
            go_wp2_with fail
            refine (HC4.out _ _ _ (U2.out.new hN2) (U3.out.new hN2)).mono ?_
            rintro e W3 ⟨rfl, hnx⟩
            have hf8 := hnx.still he8
            have hf9 := hnx.still he9
            have hf12 := hnx.still he12
            have hf13 := hnx.still he13
            have hf16 := hnx.still he16
            have hf17 := hnx.still he17
            have hN3 := hN2.trans hnx
            clear hnx
            have HN6 := Lib.hid (HN5.out.trans hN3)
            clear hN3 hN2 hN he8 he9 he12 he13 he16 he17 hf8 hf9 hf12 hf13 hf16 hf17
            go_wp2_with fail
            go_ret
            exact ⟨rfl, HN6.out⟩
          · have hp3 : s3 ≤ 0 := by omega
            go_wp2_with fail
            refine (HC1.out _ _ _ (U1.out.new hN) (U2.out.new hN)).mono ?_
            rintro e W2 ⟨rfl, hnx⟩
            have he8 := hnx.still hd8
            have he9 := hnx.still hd9
            have he12 := hnx.still hd12
            have he13 := hnx.still hd13
            have he16 := hnx.still hd16
            have he17 := hnx.still hd17
            have hN2 := hN.trans hnx
            clear hnx
            go_wp2_with fail
            refine (HC4.out _ _ _ (U2.out.new hN2) (U3.out.new hN2)).mono ?_
            rintro e W3 ⟨rfl, hnx⟩
            have hf8 := hnx.still he8
            have hf9 := hnx.still he9
            have hf12 := hnx.still he12
            have hf13 := hnx.still he13
            have hf16 := hnx.still he16
            have hf17 := hnx.still he17
            have hN3 := hN2.trans hnx
            clear hnx
            go_wp2_with fail
            refine (HC5.out _ _ _ (U1.out.new hN3) (U3.out.new hN3)).mono ?_
            rintro e W4 ⟨rfl, hnx⟩
            have hN4 := hN3.trans hnx
            clear hnx
            have HN6 := Lib.hid (HN5.out.trans hN4)
            clear hN4 hN3 hN2 hN he8 he9 he12 he13 he16 he17 hf8 hf9 hf12 hf13 hf16 hf17
            go_wp2_with fail
            go_ret
            exact ⟨rfl, HN6.out⟩
        · subst h
          go_wp2
          go_region_held3 (fun V => New W1 V ∧ V.cell? ⟨p8, 0, none⟩ = some (.slice A1 l1 c1) ∧ V.cell? ⟨p8, 1, none⟩ = some (.bool b1) ∧ V.cell? ⟨p12, 0, none⟩ = some (.slice A2 l2 c2) ∧ V.cell? ⟨p12, 1, none⟩ = some (.bool b2) ∧ V.cell? ⟨p16, 0, none⟩ = some (.slice A3 l3 c3) ∧ V.cell? ⟨p16, 1, none⟩ = some (.bool b3))
            (first
              | exact ⟨(New.refl _).drew, by simpa using hy8, by simpa using hy9, by simpa using hy12, by simpa using hy13, by simpa using hy16, by simpa using hy17⟩
              | (go_split_ands; exact ⟨New.trans (by assumption) (by assumption), New.still (by assumption) (by assumption), New.still (by assumption) (by assumption), New.still (by assumption) (by assumption), New.still (by assumption) (by assumption), New.still (by assumption) (by assumption), New.still (by assumption) (by assumption)⟩)
              | (go_split_ands; exact ⟨by assumption, by assumption, by assumption, by assumption, by assumption, by assumption, by assumption⟩))
            ((rw [if_pos (by rfl)]; go_big_op; go_split_ands; first
              | (with_reducible (refine (HC3.out _ _ _ (by first | assumption | exact NumB.new (by assumption) (by first | assumption | exact New.trans (by assumption) (by assumption) | exact New.trans (by assumption) (New.trans (by assumption) (by assumption)) | exact New.trans (by assumption) (New.trans (by assumption) (New.trans (by assumption) (by assumption))))) (by first | assumption | exact NumB.new (by assumption) (by first | assumption | exact New.trans (by assumption) (by assumption) | exact New.trans (by assumption) (New.trans (by assumption) (by assumption)) | exact New.trans (by assumption) (New.trans (by assumption) (New.trans (by assumption) (by assumption)))))).mono ?_); rintro e w' ⟨rfl, hn⟩; dsimp only)
              | (with_reducible (refine (HA2.out _ _ _ (U2.out.new (by assumption)) (U3.out.new (by assumption))).mono ?_); rintro e w' ⟨v', rfl, hv', hn⟩; dsimp only)
              | (with_reducible (refine (HA1.out _ _ _ (U1.out.new (by assumption)) (U3.out.new (by assumption))).mono ?_); rintro e w' ⟨v', rfl, hv', hn⟩; dsimp only)
              | (with_reducible (refine (HC6.out _ _ _ (by first | assumption | exact NumB.new (by assumption) (by first | assumption | exact New.trans (by assumption) (by assumption) | exact New.trans (by assumption) (New.trans (by assumption) (by assumption)) | exact New.trans (by assumption) (New.trans (by assumption) (New.trans (by assumption) (by assumption))))) (by first | assumption | exact NumB.new (by assumption) (by first | assumption | exact New.trans (by assumption) (by assumption) | exact New.trans (by assumption) (New.trans (by assumption) (by assumption)) | exact New.trans (by assumption) (New.trans (by assumption) (New.trans (by assumption) (by assumption)))))).mono ?_); rintro e w' ⟨rfl, hn⟩; dsimp only)
              | (with_reducible (refine (HG2.out _ _ (U2.out.new (by assumption))).mono ?_); rintro e w' ⟨v', rfl, hv', hn⟩; dsimp only)
              | (with_reducible (refine (HG1.out _ _ (U1.out.new (by assumption))).mono ?_); rintro e w' ⟨v', rfl, hv', hn⟩; dsimp only)
              | (with_reducible (refine (HC2.out _ _ _ (U2.out.new (by assumption)) (U1.out.new (by assumption))).mono ?_); rintro e w' ⟨rfl, hn⟩; dsimp only)))
          go_split_ands
          rename_i hN hd8 hd9 hd12 hd13 hd16 hd17
          go_wp2_with fail
          refine (HC1.out _ _ _ (U1.out.new hN) (U2.out.new hN)).mono ?_
          rintro e W2 ⟨rfl, hnx⟩
          have hN2 := hN.trans hnx
          clear hnx
          have HN6 := Lib.hid (HN5.out.trans hN2)
          clear hN2 hN
          go_wp2_with fail
          go_ret
          exact ⟨rfl, HN6.out⟩
end Go.Proofs.YtfeljdlhapikmaaDoor
