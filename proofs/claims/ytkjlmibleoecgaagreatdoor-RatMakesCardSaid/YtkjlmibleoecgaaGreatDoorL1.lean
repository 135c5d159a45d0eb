/- The laws of 03: RatMakes, walked. (Printed by mkl1.py.) -/
import Derived.Test.YtkjlmibleoecgaaGreatDoorM4
import Derived.Test.YtkjlmibleoecgaaGreatDoorQ5
import Derived.Test.YtkjlmibleoecgaaGreatDoorQ4
import Derived.Test.YtkjlmibleoecgaaGreatDoorRQ3
import Derived.Test.YtkjlmibleoecgaaGreatDoorL0
import Derived.Deep.RegionHeld3
namespace Go.Proofs.YtkjlmibleoecgaaGreatDoor
set_option linter.unusedSimpArgs false
set_option linter.unusedVariables false
open Go.RowKit
section
variable {w : World} {u v : Value} {n d : Int} {k : Nat}
theorem qtext_w (s : ByteArray) (hx : RatB w v n d k) (hk : k ≤ 15000) (hk2 : 2 ≤ k) (L : Lib.TabIs Tryz.prog w "internal/strconv.uint64pow10" .u64 Lib.pow10Tab) (hs : ratS n d = s) :
    Calls Tryz.prog 54 #[v] w fun e w' => e = .returned (.string s) ∧ New w w' := hs ▸ qtext_n hx hk hk2 L
theorem rqtext_w (s : ByteArray) (hx : RRatB w v n d k) (hk : k ≤ 15000) (hk2 : 3 ≤ k) (hs : ratS n d = s) :
    Calls Tryz.prog 55 #[v] w fun e w' => e = .returned (.string s) ∧ New w w' := hs ▸ rqtext_n hx hk hk2
end
theorem NYlast {w : World} {A : Option Addr} {l c : Nat} {b : Bool} {z : Int} {k : Nat} (h : NumB w (.agg #[.slice A l c, .bool b]) z k) : NY (w.alloc (.cells #[.slice A l c, .bool b] NNum)) w.heap.size A l c b z k :=
  ⟨Box.last w _ _, h.new ((New.refl w).alloc _)⟩
theorem RYlast {w : World} {A : Option Addr} {l c : Nat} {b : Bool} {z : Int} (h : RNumV w (.agg #[.bool b, .slice A l c]) z) : RY (w.alloc (.cells #[.bool b, .slice A l c] RNum)) w.heap.size b A l c z :=
  ⟨Box.last w _ _, h.new ((New.refl w).alloc _)⟩
theorem denZ_mk (x y : Int) : sgZ (denZ (mkD x y)) = 1 := by
  by_cases h : y = 0
  · have e : mkD x y = 0 := by unfold mkD; rw [if_pos h]
    rw [e]; rfl
  · have := (mk_spec (a := x) h).2.2.2.1
    unfold denZ sgZ
    rw [if_neg (by omega)]
    (repeat' split) <;> omega
set_option maxRecDepth 1000000 in
set_option maxHeartbeats 16000000 in
theorem ratMakes_walk (a b : ByteArray) (w : World) (L : Lib.TabIs Tryz.prog w "internal/strconv.uint64pow10" .u64 Lib.pow10Tab) :
    Calls Tryz.prog 9 #[.string a, .string b] w fun e w' => e = .returned (.bool true) ∧ Below w.heap.size w w' := by
  have HTAB := Lib.hid L
  clear L
  go_enter Tryz.func9, Tryz.ntmps9
  go_wp2_with fail
  have hbx := Box.last w #[.string a, .string b] 9
  refine (qlong_n [a, b] _ 2 2 _ rfl (fun i hi => by
    rw [hbx.cell]
    match i, hi with
    | 0, _ => rfl
    | 1, _ => rfl) hbx.lt (by decide) (by decide)).mono ?_
  rintro e w1 ⟨r, rfl, hr, hn1⟩
  have hn1' : New w w1 := ((New.refl w).alloc _).trans hn1
  clear hbx hn1
  cases r with
  | true =>
    go_wp2
    go_ret
    exact ⟨rfl, hn1'⟩
  | false =>
    have hz := hr rfl
    have ha : a.size ≤ 256 := hz a (by simp)
    have hb : b.size ≤ 256 := hz b (by simp)
    have HP1 := Lib.hid (fun W => parse_n a W (by omega))
    have HP2 := Lib.hid (fun W => parse_n b W (by omega))
    have HR1 := Lib.hid (fun W => rparse_n a W (by omega))
    have HR2 := Lib.hid (fun W => rparse_n b W (by omega))
    have hk1 : (dg B9 (zNum a.data.toList).natAbs).length ≤ 512 := Nat.le_trans (zNum_len (by decide)) (by rw [← Lib.size_eq]; omega)
    have hk2 : (dg B9 (zNum b.data.toList).natAbs).length ≤ 512 := Nat.le_trans (zNum_len (by decide)) (by rw [← Lib.size_eq]; omega)
    have he1 : errZ a.data.toList = 0 ∨ errZ a.data.toList = 10 := by unfold errZ; split <;> simp
    have he2 : errZ b.data.toList = 0 ∨ errZ b.data.toList = 10 := by unfold errZ; split <;> simp
    generalize errZ a.data.toList = ea at *
    generalize errZ b.data.toList = eb at *
    generalize zNum a.data.toList = x at *
    generalize zNum b.data.toList = y at *
    have HK1 := Lib.hid hk1
    have HK2 := Lib.hid hk2
    have HN1 := Lib.hid hn1'
    clear hz hr hn1' hk1 hk2 ha hb
    go_wp2_with fail
    refine (HP1.out _).mono ?_
    rintro e w2 ⟨v1, rfl, hv1, hn⟩
    obtain ⟨A1, l1, c1, rfl, -⟩ := hv1.form
    generalize hb1e : decide (x < 0) = b1 at *
    clear hb1e
    have hnn := hn.alloc (.cells #[.slice A1 l1 c1, .bool b1] NNum)
    have T1 := Lib.hid (NYlast hv1)
    have HN2 := Lib.hid (HN1.out.trans hnn)
    clear hv1 hn hnn HN1 HP1
    go_wp2_with fail
    refine (HP2.out _).mono ?_
    rintro e w3 ⟨v2, rfl, hv2, hn⟩
    obtain ⟨A2, l2, c2, rfl, -⟩ := hv2.form
    generalize hb2e : decide (y < 0) = b2 at *
    clear hb2e
    have hnn := hn.alloc (.cells #[.slice A2 l2 c2, .bool b2] NNum)
    have T2 := Lib.hid (NYlast hv2)
    replace T1 := Lib.hid (T1.out.new hnn)
    have HN3 := Lib.hid (HN2.out.trans hnn)
    clear hv2 hn hnn HN2 HP2
    go_wp2_with fail
    refine (HR1.out _).mono ?_
    rintro e w4 ⟨v3, rfl, hv3, hn⟩
    obtain ⟨bb3, A3, l3, c3, rfl⟩ := RNumV.form hv3
    have hnn := hn.alloc (.cells #[.bool bb3, .slice A3 l3 c3] RNum)
    have T3 := Lib.hid (RYlast hv3)
    replace T1 := Lib.hid (T1.out.new hnn)
    replace T2 := Lib.hid (T2.out.new hnn)
    have HN4 := Lib.hid (HN3.out.trans hnn)
    clear hv3 hn hnn HN3 HR1
    go_wp2_with fail
    refine (HR2.out _).mono ?_
    rintro e w5 ⟨v4, rfl, hv4, hn⟩
    obtain ⟨bb4, A4, l4, c4, rfl⟩ := RNumV.form hv4
    have hnn := hn.alloc (.cells #[.bool bb4, .slice A4 l4 c4] RNum)
    have T4 := Lib.hid (RYlast hv4)
    replace T1 := Lib.hid (T1.out.new hnn)
    replace T2 := Lib.hid (T2.out.new hnn)
    replace T3 := Lib.hid (T3.out.new hnn)
    have HN5 := Lib.hid (HN4.out.trans hnn)
    clear hv4 hn hnn HN4 HR2
    rcases he1 with rfl | rfl
    rotate_left
    · go_wp2_with fail
      go_ret
      exact ⟨rfl, HN5.out⟩
    rcases he2 with rfl | rfl
    rotate_left
    · go_wp2_with fail
      go_ret
      exact ⟨rfl, HN5.out⟩
    obtain ⟨hx1, hy1⟩ := T1.out.cells
    obtain ⟨hx2, hy2⟩ := T2.out.cells
    go_wp2_with fail
    refine (qmake_n T1.out.nx T2.out.nx (by omega)).mono ?_
    rintro e w6 ⟨v5, rfl, hv5, hn⟩
    obtain ⟨A5, l5, c5, B5, m5, d5, rfl, hp5, hq5⟩ := id hv5
    generalize hb5 : decide (mkN x y < 0) = b5 at *
    generalize hb6 : decide (mkD x y < 0) = b6 at *
    have hnn := hn.alloc (.cells #[.slice A5 l5 c5, .bool b5, .slice B5 m5 d5, .bool b6] NRat)
    have T5 := Lib.hid (show Box _ _ _ _ ∧ RatB _ _ _ _ _ from ⟨Box.last w6 #[.slice A5 l5 c5, .bool b5, .slice B5 m5 d5, .bool b6] NRat, hv5.new ((New.refl w6).alloc (.cells #[.slice A5 l5 c5, .bool b5, .slice B5 m5 d5, .bool b6] NRat))⟩)
    have D5 := Lib.hid (show NumB _ _ _ _ from hq5.new ((New.refl w6).alloc (.cells #[.slice A5 l5 c5, .bool b5, .slice B5 m5 d5, .bool b6] NRat)))
    have HRX := Lib.hid (show RNumB _ _ _ 512 from ⟨(T3.out.new hnn).nx, HK1.out⟩)
    have HRY := Lib.hid (show RNumB _ _ _ 512 from ⟨(T4.out.new hnn).nx, HK2.out⟩)
    replace T3 := Lib.hid (T3.out.new hnn)
    replace T4 := Lib.hid (T4.out.new hnn)
    have HN6 := Lib.hid (HN5.out.trans hnn)
    obtain ⟨hr3, hs3, -, -⟩ := T3.out.bx.two
    obtain ⟨hr4, hs4, -, -⟩ := T4.out.bx.two
    clear hn hnn T1 T2 HN5 hx1 hy1 hx2 hy2 hv5 hp5 hq5
    go_wp2_with fail
    refine (rqmake_n HRX.out HRY.out (by omega)).mono ?_
    rintro e w7 ⟨v6, rfl, hv6, hn⟩
    obtain ⟨A6, l6, c6, B6, m6, d6, rfl, hp6, hq6⟩ := id hv6
    rw [hb5, hb6] at *
    have hnn := hn.alloc (.cells #[.bool b5, .slice A6 l6 c6, .bool b6, .slice B6 m6 d6] RRat)
    have T6 := Lib.hid (show Box _ _ _ _ ∧ RRatB _ _ _ _ _ from ⟨Box.last w7 #[.bool b5, .slice A6 l6 c6, .bool b6, .slice B6 m6 d6] RRat, hv6.new ((New.refl w7).alloc (.cells #[.bool b5, .slice A6 l6 c6, .bool b6, .slice B6 m6 d6] RRat))⟩)
    replace T5 := Lib.hid (show Box _ _ _ _ ∧ RatB _ _ _ _ _ from ⟨T5.out.1.new hnn, T5.out.2.new hnn⟩)
    replace D5 := Lib.hid (D5.out.new hnn)
    have HN7 := Lib.hid (HN6.out.trans hnn)
    clear hn hnn T3 T4 HN6 HRX HRY hr3 hs3 hr4 hs4 hv6 hp6 hq6
    obtain ⟨s1, hs1⟩ : ∃ s, ratS (mkN x y) (mkD x y) = s := ⟨_, rfl⟩
    obtain ⟨s2, hs2⟩ : ∃ s, numS (denZ (mkD x y)) = s := ⟨_, rfl⟩
    have S1 := Lib.hid hs1
    have S2 := Lib.hid hs2
    have S3 := Lib.hid (denZ_mk x y)
    obtain ⟨k50, k51, k52, k53⟩ := T5.out.1.cells4
    obtain ⟨k60, k61, k62, k63⟩ := T6.out.1.cells4
    have r5 := T5.out.2
    have r6 := T6.out.2
    have hD := D5.out
    have htab := tabIs_new HN7.out HTAB.out
    have HTB := Lib.hid htab
    generalize mkN x y = n at *
    generalize mkD x y = d at *
    generalize divI y = de at *
    clear hs1 hs2 T5 T6 D5 htab hb5 hb6 HK1 HK2
    go_wp2_with fail
    generalize hW : w7.alloc (.cells #[.bool b5, .slice A6 l6 c6, .bool b6, .slice B6 m6 d6] RRat) = W at *
    generalize w6.heap.size = p5 at *
    generalize w7.heap.size = p6 at *
    clear hW
    try simp only [List.append_eq, List.cons_append, List.nil_append]
    go_region_held3 (fun V => New W V ∧ V.cell? ⟨p5, 0, none⟩ = some (.slice A5 l5 c5) ∧ V.cell? ⟨p5, 1, none⟩ = some (.bool b5) ∧ V.cell? ⟨p5, 2, none⟩ = some (.slice B5 m5 d5) ∧ V.cell? ⟨p5, 3, none⟩ = some (.bool b6) ∧ V.cell? ⟨p6, 0, none⟩ = some (.bool b5) ∧ V.cell? ⟨p6, 1, none⟩ = some (.slice A6 l6 c6) ∧ V.cell? ⟨p6, 2, none⟩ = some (.bool b6) ∧ V.cell? ⟨p6, 3, none⟩ = some (.slice B6 m6 d6))
      (first
        | exact ⟨(New.refl _).drew, by simpa using k50, by simpa using k51, by simpa using k52, by simpa using k53, by simpa using k60, by simpa using k61, by simpa using k62, by simpa using k63⟩
        | (go_split_ands; exact ⟨New.trans (by assumption) (by assumption), New.still (by assumption) (by assumption), New.still (by assumption) (by assumption), New.still (by assumption) (by assumption), New.still (by assumption) (by assumption), New.still (by assumption) (by assumption), New.still (by assumption) (by assumption), New.still (by assumption) (by assumption), New.still (by assumption) (by assumption)⟩)
        | (go_split_ands; exact ⟨by assumption, by assumption, by assumption, by assumption, by assumption, by assumption, by assumption, by assumption, by assumption⟩))
      ((rw [if_pos (by rfl)]; go_big_op; go_split_ands; first
        | (with_reducible (refine (rtext_nw s2 (by first | assumption | exact RNumB.new (by assumption) (by first | exact New.refl _ | assumption | exact New.trans (by assumption) (by assumption) | exact New.trans (by assumption) (New.trans (by assumption) (by assumption)) | exact New.trans (by assumption) (New.trans (by assumption) (New.trans (by assumption) (by assumption))) | exact New.trans (by assumption) (New.trans (by assumption) (New.trans (by assumption) (New.trans (by assumption) (by assumption)))))) (by omega) S2.out).mono ?_); rintro e w' ⟨rfl, hn⟩; dsimp only)
        | (with_reducible (refine (rden_n (by first | assumption | exact RRatB.new (by assumption) (by first | exact New.refl _ | assumption | exact New.trans (by assumption) (by assumption) | exact New.trans (by assumption) (New.trans (by assumption) (by assumption)) | exact New.trans (by assumption) (New.trans (by assumption) (New.trans (by assumption) (by assumption))) | exact New.trans (by assumption) (New.trans (by assumption) (New.trans (by assumption) (New.trans (by assumption) (by assumption)))))) (by omega) (by omega)).mono ?_); rintro e w' ⟨v', rfl, hv', hn⟩; dsimp only)
        | (with_reducible (refine (text_nw s2 (by first | assumption | exact NumB.new (by assumption) (by first | exact New.refl _ | assumption | exact New.trans (by assumption) (by assumption) | exact New.trans (by assumption) (New.trans (by assumption) (by assumption)) | exact New.trans (by assumption) (New.trans (by assumption) (New.trans (by assumption) (by assumption))) | exact New.trans (by assumption) (New.trans (by assumption) (New.trans (by assumption) (New.trans (by assumption) (by assumption)))))) (by omega) (tabIs_new (by first | exact New.refl _ | assumption | exact New.trans (by assumption) (by assumption) | exact New.trans (by assumption) (New.trans (by assumption) (by assumption)) | exact New.trans (by assumption) (New.trans (by assumption) (New.trans (by assumption) (by assumption))) | exact New.trans (by assumption) (New.trans (by assumption) (New.trans (by assumption) (New.trans (by assumption) (by assumption))))) HTB.out) S2.out).mono ?_); rintro e w' ⟨rfl, hn⟩; dsimp only)
        | (with_reducible (refine (sign_w 1 (by first | assumption | exact NumB.new (by assumption) (by first | exact New.refl _ | assumption | exact New.trans (by assumption) (by assumption) | exact New.trans (by assumption) (New.trans (by assumption) (by assumption)) | exact New.trans (by assumption) (New.trans (by assumption) (New.trans (by assumption) (by assumption))) | exact New.trans (by assumption) (New.trans (by assumption) (New.trans (by assumption) (New.trans (by assumption) (by assumption)))))) (by omega) S3.out).mono ?_); rintro e w' ⟨rfl, hn⟩; dsimp only)
        | (with_reducible (refine (den_n (by first | assumption | exact RatB.new (by assumption) (by first | exact New.refl _ | assumption | exact New.trans (by assumption) (by assumption) | exact New.trans (by assumption) (New.trans (by assumption) (by assumption)) | exact New.trans (by assumption) (New.trans (by assumption) (New.trans (by assumption) (by assumption))) | exact New.trans (by assumption) (New.trans (by assumption) (New.trans (by assumption) (New.trans (by assumption) (by assumption)))))) (by omega) (by omega)).mono ?_); rintro e w' ⟨v', rfl, hv', hn⟩; dsimp only)
        | (with_reducible (refine (rqtext_w s1 (by first | assumption | exact RRatB.new (by assumption) (by first | exact New.refl _ | assumption | exact New.trans (by assumption) (by assumption) | exact New.trans (by assumption) (New.trans (by assumption) (by assumption)) | exact New.trans (by assumption) (New.trans (by assumption) (New.trans (by assumption) (by assumption))) | exact New.trans (by assumption) (New.trans (by assumption) (New.trans (by assumption) (New.trans (by assumption) (by assumption)))))) (by omega) (by omega) S1.out).mono ?_); rintro e w' ⟨rfl, hn⟩; dsimp only)
        | (with_reducible (refine (qtext_w s1 (by first | assumption | exact RatB.new (by assumption) (by first | exact New.refl _ | assumption | exact New.trans (by assumption) (by assumption) | exact New.trans (by assumption) (New.trans (by assumption) (by assumption)) | exact New.trans (by assumption) (New.trans (by assumption) (New.trans (by assumption) (by assumption))) | exact New.trans (by assumption) (New.trans (by assumption) (New.trans (by assumption) (New.trans (by assumption) (by assumption)))))) (by omega) (by omega) (tabIs_new (by first | exact New.refl _ | assumption | exact New.trans (by assumption) (by assumption) | exact New.trans (by assumption) (New.trans (by assumption) (by assumption)) | exact New.trans (by assumption) (New.trans (by assumption) (New.trans (by assumption) (by assumption))) | exact New.trans (by assumption) (New.trans (by assumption) (New.trans (by assumption) (New.trans (by assumption) (by assumption))))) HTB.out) S1.out).mono ?_); rintro e w' ⟨rfl, hn⟩; dsimp only)))
    all_goals
      go_split_ands
      rename_i hN _ _ _ _ _ _ _ _
      have HNF := Lib.hid (HN7.out.trans hN)
      clear hN
      go_wp2_with fail
      go_ret
      first | exact ⟨rfl, HNF.out⟩ | exact ⟨by simp, HNF.out⟩
end Go.Proofs.YtkjlmibleoecgaaGreatDoor
