/- The law LexLetters, walked. -/
import Derived.Test.YteopdmifgdcghaaU3
namespace Go.Proofs.Yteopdmifgdcghaa
set_option linter.unusedSimpArgs false
set_option linter.unusedVariables false
open Go.RowKit
theorem drop_sl {α : Type} {enc : α → Value} {E : TypeId} {B : Nat} {w : World} {g n c : Nat} {xs : List α} (h : OwnE enc E B w (.slice (some ⟨g, 0, none⟩) n c) xs) (m : Nat) (hm : m ≤ xs.length) (hc : n ≤ c) : SlE enc w (.slice (some ⟨g, m, none⟩) (xs.length - m) (c - m)) (xs.drop m) := by
  obtain ⟨A', c', e, h1, h2, h3⟩ := h.sl
  injection e with e1 e2 e3
  subst e1 e2 e3
  refine ⟨_, _, by rw [List.length_drop], by rw [List.length_drop]; omega, by omega, fun i hi => ?_⟩
  rw [List.length_drop] at hi
  obtain ⟨b, o, e, hb, hc⟩ := h3 (m + i) (by omega)
  injection e with e
  injection e with e1 e2 _
  subst e1 e2
  exact ⟨g, m, rfl, hb, by rw [show m + i = 0 + (m + i) by omega, hc, List.getElem_drop]⟩
set_option maxRecDepth 1000000 in
set_option maxHeartbeats 8000000 in
theorem lexLetters_walk (l : List Int) (v0 : Value) (at' : Int) (odd : Int) (w : World) (h0 : SlE (Value.int .u8) w v0 l ∧ ∀ n ∈ l, 0 ≤ n ∧ n ≤ 255) (a0 : 0 ≤ at') (a1 : at' ≤ 255) (o0 : -2147483648 ≤ odd) (o1 : odd ≤ 2147483647) :
    Calls Try.prog 3 #[v0, .int .u8 at', .int .i32 odd] w fun e w' => e = .returned (.bool true) ∧ New w w' := by
  obtain ⟨A0, c0, rfl, b0, m0, g0⟩ := h0.1
  have HX := Lib.hid h0
  have G0 := Lib.hid g0
  have hl0 : (l.length : Int) ≤ 9223372036854775807 := by unfold maxLen at m0; omega
  clear h0 g0
  by_cases hlen : l.length ≤ 256
  · go_enter Try.func3, Try.ntmps3
    go_wp2_with fail
    have HO0 : Hid (OwnE rE 21 w.heap.size (w.alloc (.cells #[] 21)) (.slice (some ⟨w.heap.size, 0, none⟩) 0 0) []) := Lib.hid (OwnE.of_box (xs := ([] : List Int)) (Box.last w #[] 21) (Nat.le_refl _) (Nat.zero_le _))
    go_loopw [7, 8] (fun v7 v8 w' => ∃ (k g c : Nat), v8 = .int .i64 (k : Int) ∧ k ≤ l.length ∧ v7 = .slice (some ⟨g, 0, none⟩) k c ∧ Hid (OwnE rE 21 w.heap.size w' (.slice (some ⟨g, 0, none⟩) k c) (letRs (l.take k))) ∧ Hid (New w w')) (fun _ v8 _ => l.length - (intOf v8).toNat)
    case atStart => exact ⟨0, _, 0, rfl, Nat.zero_le _, rfl, HO0.out, (New.refl w).alloc _⟩
    case round =>
      obtain ⟨k, g, c, rfl, hk, rfl, HO, HN⟩ := hrel
      by_cases hkl : k < l.length
      · obtain ⟨b, o, rfl, hlt, hcell⟩ := G0.out k hkl
        have hb := HX.out.2 _ (List.getElem_mem hkl)
        obtain ⟨n, hn⟩ : ∃ n, n = l[k] := ⟨_, rfl⟩
        rw [← hn] at hcell hb
        have htk : letRs (l.take (k + 1)) = letRs (l.take k) ++ [letR n] := by
          unfold letRs
          rw [List.take_succ_eq_append_getElem hkl, List.map_append, ← hn]
          rfl
        have HT := Lib.hid htk
        have hcw := HN.out.still hcell
        have hlk : (letRs (l.take k)).length = k := by unfold letRs; rw [List.length_map, List.length_take]; omega
        have HLK := Lib.hid hlk
        obtain ⟨b1, b2⟩ := hb
        clear hcell hlt hn htk hlk
        by_cases h128 : 128 ≤ n
        · skip
          have hv : letR n = 945 + n % 25 := by unfold letR; rw [if_pos h128]
          rw [hv] at HT
          clear hv
          have HB5 := Lib.hid ((Box.last wr #[.int .i32 (945 + n % 25)] 21).cell 0)
          go_wp2_with (at_builtin; refine app_one rE w _ rfl _ _ 23 21 rfl (.int .i32 0) 4 rfl info21 rfl (by omega) _ (letRs (l.take k)) rfl (HN.out.alloc _) (HO.out.new ((New.refl wr).alloc _)) _ 0 _ (945 + n % 25) rfl HB5.out rE_one (by rw [HLK.out]; omega) ?_)
          intro A6 c6 w6 ho6 hn6 _
          obtain ⟨g6, c6', e6, _⟩ := ho6.at (by simp)
          rw [← HT.out] at ho6
          injection e6 with e1 e2 e3
          subst e1
          rw [HLK.out] at ho6
          have HO6 := Lib.hid ho6
          have HN6 := Lib.hid hn6
          clear ho6 hn6 e2 e3 hcw HB5 HO HN
          rw [HLK.out]
          go_wp2
          go_roundw
          case rel => exact ⟨k + 1, g6, c6, by go_num, by omega, rfl, HO6.out, HN6.out⟩
          case measure => simp [intOf]; omega
        · skip
          have hv : letR n = 97 + n % 26 := by unfold letR; rw [if_neg h128]
          rw [hv] at HT
          clear hv
          have HB5 := Lib.hid ((Box.last wr #[.int .i32 (97 + n % 26)] 21).cell 0)
          go_wp2_with (at_builtin; refine app_one rE w _ rfl _ _ 23 21 rfl (.int .i32 0) 4 rfl info21 rfl (by omega) _ (letRs (l.take k)) rfl (HN.out.alloc _) (HO.out.new ((New.refl wr).alloc _)) _ 0 _ (97 + n % 26) rfl HB5.out rE_one (by rw [HLK.out]; omega) ?_)
          intro A6 c6 w6 ho6 hn6 _
          obtain ⟨g6, c6', e6, _⟩ := ho6.at (by simp)
          rw [← HT.out] at ho6
          injection e6 with e1 e2 e3
          subst e1
          rw [HLK.out] at ho6
          have HO6 := Lib.hid ho6
          have HN6 := Lib.hid hn6
          clear ho6 hn6 e2 e3 hcw HB5 HO HN
          rw [HLK.out]
          go_wp2
          go_roundw
          case rel => exact ⟨k + 1, g6, c6, by go_num, by omega, rfl, HO6.out, HN6.out⟩
          case measure => simp [intOf]; omega
      · obtain rfl : k = l.length := by omega
        rw [List.take_length] at HO
        have hxl : (letRs l).length = l.length := by unfold letRs; rw [List.length_map]
        have hcv : (convert 23 9 (.slice (some ⟨g, 0, none⟩) l.length c)).run Try.prog wr = .ok (.string (encs (letRs l))) wr := run_runes rfl rfl rfl HO.out.sl
        have hnn : ∀ n ∈ l, 0 ≤ n := fun n hn => (HX.out.2 n hn).1
        have hsz := enc_size (letRs l)
        rw [hxl] at hsz
        have HC := Lib.hid (name_c (encs (letRs l)) wr (by omega))
        rw [name_letters l hnn] at HC
        have HNN := Lib.hid hnn
        clear hnn hsz
        generalize encs (letRs l) = S1 at *
        have hcases : ((l.length : Int) < 1 ∨ (1 ≤ (l.length : Int) ∧ (l.length : Int) ≤ 8) ∨ (1 ≤ (l.length : Int) ∧ 8 < (l.length : Int))) := by omega
        have HXL := Lib.hid hxl
        clear hxl
        rcases hcases with hl1 | ⟨hl1, hl2⟩ | ⟨hl1, hl2⟩
        all_goals
          first
            | rw [decide_eq_false (by omega)] at HC
            | rw [decide_eq_true (by omega)] at HC
          obtain ⟨e9, hc9, hm9⟩ := HO.out.cap
          clear e9
          rw [HXL.out] at hc9
          unfold maxLen at hm9
          obtain ⟨n, hn⟩ : ∃ n : Nat, at' % ((l.length : Int) + 1) = (n : Int) := ⟨(at' % ((l.length : Int) + 1)).toNat, by have := Int.emod_nonneg at' (show (l.length : Int) + 1 ≠ 0 by omega); omega⟩
          have hnl : n ≤ l.length := by have := Int.emod_lt_of_pos at' (show (0 : Int) < (l.length : Int) + 1 by omega); omega
          have hn' : at'.tmod ((l.length : Int) + 1) = (n : Int) := by rw [Int.tmod_eq_emod_of_nonneg a0]; exact hn
          go_wp2_with fail
          refine HC.out.mono ?_
          rintro e w2 ⟨rfl, hn2⟩
          have HN2 := Lib.hid (HN.out.trans hn2)
          have HO2 := Lib.hid (HO.out.new hn2)
          clear hn2 HC HN HO hcv
          have HNM := Lib.hid (name_odd l HNN.out n odd)
          obtain ⟨X1, hX1⟩ : ∃ X1, X1 = (letRs l).take n := ⟨_, rfl⟩
          obtain ⟨X2, hX2⟩ : ∃ X2, X2 = (letRs l).drop n := ⟨_, rfl⟩
          have HX1L : Hid (X1.length = n) := Lib.hid (by rw [hX1, List.length_take, HXL.out]; omega)
          have HX2L : Hid (X2.length = l.length - n) := Lib.hid (by rw [hX2, List.length_drop, HXL.out])
          have HE := Lib.hid (OwnE.of_box (enc := rE) (xs := ([] : List Int)) (Box.last w2 #[] 21) (Nat.le_refl _) (Nat.zero_le _))
          have HY := Lib.hid ((HO2.out.new ((New.refl w2).alloc (.cells #[] 21))).take n (by rw [HXL.out]; exact hnl))
          rw [← hX1] at HY HNM
          rw [← hX2] at HNM
          have HX2 := Lib.hid hX2
          clear hX1 hX2
          go_wp2_with (at_builtin; refine app_sl rE w2 _ rfl _ _ 23 21 rfl (.int .i32 0) 4 rfl info21 rfl (by omega) _ [] rfl ((New.refl w2).alloc _) HE.out _ X1 rfl HY.out rE_one (by rw [HX1L.out]; simp; omega) ?_)
          intro A3 c3 w3 ho3 hn3 _
          have HO3 : Hid (OwnE rE 21 w2.heap.size w3 (.slice A3 n c3) X1) := Lib.hid (by rw [HX1L.out] at ho3; exact ho3)
          have HN3 := Lib.hid hn3
          rw [HX1L.out]
          have HB3 := Lib.hid ((Box.last w3 #[.int .i32 odd] 21).cell 0)
          clear ho3 hn3 HE HY
          go_wp2_with (at_builtin; refine app_one rE w2 _ rfl _ _ 23 21 rfl (.int .i32 0) 4 rfl info21 rfl (by omega) _ X1 rfl (HN3.out.alloc _) (HO3.out.new ((New.refl w3).alloc _)) _ 0 _ odd rfl HB3.out rE_one (by rw [HX1L.out]; omega) ?_)
          intro A4 c4 w4 ho4 hn4 _
          have HO4 : Hid (OwnE rE 21 w2.heap.size w4 (.slice A4 (n + 1) c4) (X1 ++ [odd])) := Lib.hid (by rw [HX1L.out] at ho4; exact ho4)
          have HN4 := Lib.hid hn4
          rw [HX1L.out]
          have HYC : (c = n ∧ Hid (SlE rE w4 (.slice (some ⟨g, 0, none⟩) (l.length - n) (c - n)) X2)) ∨ (n < c ∧ Hid (SlE rE w4 (.slice (some ⟨g, n, none⟩) (l.length - n) (c - n)) X2)) := by
            by_cases hcn : c = n
            · refine .inl ⟨hcn, ?_⟩
              have h0 : l.length - n = 0 := by omega
              have h1 : X2 = [] := List.eq_nil_of_length_eq_zero (by rw [HX2L.out, h0])
              rw [h0, h1]
              exact Lib.hid (SlE.nil _ (by unfold maxLen; omega) _)
            · refine .inr ⟨by omega, ?_⟩
              have HY := drop_sl (HO2.out.new HN4.out) n (by rw [HXL.out]; exact hnl) hc9
              rw [HXL.out, ← HX2.out] at HY
              exact Lib.hid HY
          clear ho4 hn4 HO3 HN3 HB3
          have HLA : Hid ((X1 ++ [odd]).length = n + 1) := Lib.hid (by rw [List.length_append, HX1L.out]; rfl)
          obtain ⟨X3, hX3⟩ : ∃ X3, X3 = X1 ++ [odd] := ⟨_, rfl⟩
          rw [← hX3] at HLA HO4 HNM
          clear hX3
          rcases HYC with ⟨hcn, HY⟩ | ⟨hcn, HY⟩
          case' inl =>
            have hX20 : X2 = [] := List.eq_nil_of_length_eq_zero (by rw [HX2L.out]; omega)
            have HYa : Hid (SlE rE w4 (.slice (some ⟨g, 0, none⟩) 0 0) X2) := Lib.hid (by rw [hX20]; exact SlE.nil _ (Nat.zero_le _) _)
            have HYb : Hid (SlE rE w4 (.slice (some ⟨g, 0, none⟩) (l.length - c) 0) X2) := Lib.hid (by rw [hX20, show l.length - c = 0 by omega]; exact SlE.nil _ (Nat.zero_le _) _)
            clear hX20
            subst hcn
          all_goals
            go_wp2_with (at_builtin; refine app_sl rE w2 _ rfl _ _ 23 21 rfl (.int .i32 0) 4 rfl info21 rfl (by omega) _ X3 rfl HN4.out HO4.out _ X2 rfl (by first | exact HY.out | exact HYa.out | exact HYb.out) rE_one (by rw [HLA.out, HX2L.out]; omega) ?_)
            intro A5 c5 w5 ho5 hn5 _
            have HLL : Hid (X3.length + X2.length = l.length + 1) := Lib.hid (by rw [HLA.out, HX2L.out]; omega)
            have HO5 : Hid (OwnE rE 21 w2.heap.size w5 (.slice A5 (l.length + 1) c5) (X3 ++ X2)) := Lib.hid (by rw [HLL.out] at ho5; exact ho5)
            have HN5 := Lib.hid (HN2.out.trans hn5)
            rw [HLL.out]
            have hcv2 : (convert 23 9 (.slice A5 (l.length + 1) c5)).run Try.prog w5 = .ok (.string (encs (X3 ++ X2))) w5 := by
              obtain ⟨e9, _, _⟩ := HO5.out.cap
              have := run_runes (P := Try.prog) (src := 23) (dst := 9) (E := 21) rfl rfl rfl HO5.out.sl
              exact this
            have hsz := enc_size (X3 ++ X2)
            rw [List.length_append, HLL.out] at hsz
            have HC1 := Lib.hid (fun W => name_c (encs (X3 ++ X2)) W (by omega))
            have HC2 := Lib.hid (fun W => rname_c (encs (X3 ++ X2)) W (by omega))
            rw [HNM.out] at HC1 HC2
            clear ho5 hn5 HO4 HN4 HY HLA hsz HO2 HN2
            generalize encs (X3 ++ X2) = S2 at *
            have hc8 : ((l.length : Int) + 1 ≤ 8 ∧ l.length + 1 ≤ 8) ∨ (8 < (l.length : Int) + 1 ∧ ¬ l.length + 1 ≤ 8) := by omega
            have ho : (odd < 97 ∧ isL odd = false) ∨ (97 ≤ odd ∧ odd ≤ 122 ∧ isL odd = true) ∨ (97 ≤ odd ∧ 122 < odd ∧ odd < 945 ∧ isL odd = false) ∨ (97 ≤ odd ∧ 122 < odd ∧ 945 ≤ odd ∧ odd ≤ 969 ∧ isL odd = true) ∨ (97 ≤ odd ∧ 122 < odd ∧ 945 ≤ odd ∧ 969 < odd ∧ isL odd = false) := by
              have hc : odd < 97 ∨ (97 ≤ odd ∧ odd ≤ 122) ∨ (122 < odd ∧ odd < 945) ∨ (945 ≤ odd ∧ odd ≤ 969) ∨ 969 < odd := by omega
              rcases hc with h | ⟨h1, h2⟩ | ⟨h1, h2⟩ | ⟨h1, h2⟩ | h
              · exact .inl ⟨h, isL_no (by omega)⟩
              · exact .inr (.inl ⟨h1, h2, isL_yes (by omega)⟩)
              · exact .inr (.inr (.inl ⟨by omega, h1, h2, isL_no (by omega)⟩))
              · exact .inr (.inr (.inr (.inl ⟨by omega, by omega, h1, h2, isL_yes (by omega)⟩)))
              · exact .inr (.inr (.inr (.inr ⟨by omega, by omega, by omega, h, isL_no (by omega)⟩)))
            have hcd : (decide ((l.length : Int) + 1 ≤ 8) = true ∧ l.length + 1 ≤ 8) ∨ (decide ((l.length : Int) + 1 ≤ 8) = false ∧ ¬ l.length + 1 ≤ 8) := by
              by_cases h8 : l.length + 1 ≤ 8
              · exact .inl ⟨decide_eq_true (by omega), h8⟩
              · exact .inr ⟨decide_eq_false (by omega), h8⟩
            clear hc8
            rcases hcd with ⟨q1, q2⟩ | ⟨q1, q2⟩
            all_goals
              simp only [q2, decide_true, decide_false, Bool.and_true, Bool.and_false] at HC1 HC2
              rcases ho with ⟨p1, p2⟩ | ⟨p1, p3, p2⟩ | ⟨p1, p3, p4, p2⟩ | ⟨p1, p3, p4, p5, p2⟩ | ⟨p1, p3, p4, p5, p2⟩
              all_goals
                try simp only [p2, Bool.false_and, Bool.true_and] at HC1 HC2
                clear p2 q2
                go_wp2_with fail
                refine (HC1.out _).mono ?_
                rintro e w6 ⟨rfl, hn6⟩
                have HN6 := Lib.hid (HN5.out.trans hn6)
                clear hn6
                go_wp2_with fail
                refine (HC1.out _).mono ?_
                rintro e w7 ⟨rfl, hn7⟩
                have HN7 := Lib.hid (HN6.out.trans hn7)
                clear hn7
                go_wp2_with fail
                refine (HC2.out _).mono ?_
                rintro e w8 ⟨rfl, hn8⟩
                have HN8 := Lib.hid (HN7.out.trans hn8)
                clear hn8
                go_wp2
                go_ret
                exact ⟨rfl, HN8.out⟩
  · go_enter Try.func3, Try.ntmps3
    go_wp2
    go_ret
    exact ⟨rfl, New.refl _⟩
end Go.Proofs.Yteopdmifgdcghaa
