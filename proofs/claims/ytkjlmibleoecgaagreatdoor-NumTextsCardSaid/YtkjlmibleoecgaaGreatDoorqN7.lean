/- The laws of 02: NumTexts, walked. (Printed by mkn7.py.) -/
import Derived.Test.YtkjlmibleoecgaaGreatDoorM4
import Derived.Test.YtkjlmibleoecgaaGreatDoorqZ11
import Derived.Test.YtkjlmibleoecgaaGreatDoorqRZ7
namespace Go.Proofs.YtkjlmibleoecgaaGreatDoor
set_option linter.unusedSimpArgs false
set_option linter.unusedVariables false
open Go.RowKit
theorem fit_of {n : Int} (h1 : -9223372036854775808 ≤ n) (h2 : n ≤ 9223372036854775807) : fitZ n = true ∧ intZ n = n := by
  have e : fitZ n = true := by unfold fitZ; rw [decide_eq_true h1, decide_eq_true h2]; rfl
  exact ⟨e, by unfold intZ; rw [if_pos e]⟩
theorem rtext_s2 {w : World} {u : Value} {x k : Nat} {s : ByteArray} (hu : RefB w u x k) (hk : k ≤ 100000) (hs : decS x = s) :
    Calls Tryz.prog 17 #[u] w fun e w' => e = .returned (.string s) ∧ New w w' := hs ▸ rtext_v hu hk
set_option maxRecDepth 1000000 in
set_option maxHeartbeats 16000000 in
theorem numTexts_walk (a : ByteArray) (n : Int) (w : World) (h1 : -9223372036854775808 ≤ n) (h2 : n ≤ 9223372036854775807) (L : Lib.TabIs Tryz.prog w "internal/strconv.uint64pow10" .u64 Lib.pow10Tab) :
    Calls Tryz.prog 7 #[.string a, .int .i64 n] w fun e w' => e = .returned (.bool true) ∧ Below w.heap.size w w' := by
  have HTAB := Lib.hid L
  clear L
  by_cases hlen : 512 < a.size
  · have hl2 : (512 : Int) < (a.size : Int) := by omega
    clear h1 h2
    go_enter Tryz.func7, Tryz.ntmps7
    go_wp2
    go_ret
    exact ⟨rfl, New.refl w⟩
  · have hl2 : ¬ (512 : Int) < (a.size : Int) := by omega
    have H1 := Lib.hid (fun W => number_n a W (by omega))
    have HO := Lib.hid (fun W => of_n n h1 h2 W)
    have HRO := Lib.hid (fun W => rof_n n h1 h2 W)
    obtain ⟨hf1, hf2⟩ := fit_of h1 h2
    have HIN := Lib.hid (fun W v (h : NumB W v n 2) (L : Lib.TabIs Tryz.prog W "internal/strconv.uint64pow10" .u64 Lib.pow10Tab) => int_n h (by omega) L)
    rw [hf1, hf2] at HIN
    have hk1 : (dg B9 (zNum a.data.toList).natAbs).length ≤ 512 := Nat.le_trans (zNum_len (by decide)) (by rw [← Lib.size_eq]; omega)
    clear hf1 hf2 h1 h2 hlen
    obtain ⟨tn, htn⟩ : ∃ t, numS n = t := ⟨_, rfl⟩
    have HTN := Lib.hid htn
    clear htn
    go_enter Tryz.func7, Tryz.ntmps7
    go_wp2_with fail
    refine (H1.out _).mono ?_
    rintro e w2 ⟨v1, u1, rfl, hv1, hu1, hn⟩
    obtain ⟨A1, l1, c1, rfl, _⟩ := hv1.form
    obtain ⟨B1, m1, d1, rfl, _⟩ := hu1
    have hu1 : RNumV w2 (.agg #[.bool (decide (zNum a.data.toList < 0)), .slice B1 m1 d1]) (zNum a.data.toList) := ⟨B1, m1, d1, rfl, by assumption⟩
    have hnn := (hn.alloc (.cells #[.slice A1 l1 c1, .bool (decide (zNum a.data.toList < 0))] NNum)).alloc (.cells #[.bool (decide (zNum a.data.toList < 0)), .slice B1 m1 d1] RNum)
    have T1 := Lib.hid (NY.last (.cells #[.bool (decide (zNum a.data.toList < 0)), .slice B1 m1 d1] RNum) hv1)
    have R1 := Lib.hid (RY.last2 (.cells #[.slice A1 l1 c1, .bool (decide (zNum a.data.toList < 0))] NNum) hu1)
    have HN2 := Lib.hid hnn
    clear hv1 hu1 hn hnn H1
    generalize decide (zNum a.data.toList < 0) = b1 at *
    obtain ⟨hx1, hy1⟩ := T1.out.cells
    obtain ⟨hr1, hs1⟩ := R1.out.bx.cells2
    go_wp2_with fail
    refine (HO.out _).mono ?_
    rintro e w3 ⟨v2, rfl, hv2, hn⟩
    obtain ⟨A2, l2, c2, rfl, _⟩ := hv2.form
    generalize decide (n < 0) = b2 at *
    have hnn := hn.alloc (.cells #[.slice A2 l2 c2, .bool b2] NNum)
    have T2 := Lib.hid (show NY (w3.alloc (.cells #[.slice A2 l2 c2, .bool b2] NNum)) w3.heap.size A2 l2 c2 b2 n 2 from ⟨Box.last _ _ _, hv2.new ((New.refl w3).alloc _)⟩)
    replace T1 := Lib.hid (T1.out.new hnn)
    replace R1 := Lib.hid (R1.out.new hnn)
    replace hx1 := hnn.still hx1
    replace hy1 := hnn.still hy1
    replace hr1 := hnn.still hr1
    replace hs1 := hnn.still hs1
    obtain ⟨hx2, hy2⟩ := T2.out.cells
    have HN3 := Lib.hid (HN2.out.trans hnn)
    clear hv2 hn hnn HN2 HO
    go_wp2_with fail
    refine (HIN.out _ _ T2.out.nx (tabIs_new HN3.out HTAB.out)).mono ?_
    rintro e w4 ⟨rfl, hn⟩
    replace T1 := Lib.hid (T1.out.new hn)
    replace T2 := Lib.hid (T2.out.new hn)
    replace R1 := Lib.hid (R1.out.new hn)
    replace hx1 := hn.still hx1
    replace hy1 := hn.still hy1
    replace hr1 := hn.still hr1
    replace hs1 := hn.still hs1
    replace hx2 := hn.still hx2
    replace hy2 := hn.still hy2
    have HN4 := Lib.hid (HN3.out.trans hn)
    clear hn HN3
    go_wp2_with fail
    refine (text_nw _ T2.out.nx (by omega) (tabIs_new HN4.out HTAB.out) HTN.out).mono ?_
    rintro e w5 ⟨rfl, hn⟩
    replace T1 := Lib.hid (T1.out.new hn)
    replace R1 := Lib.hid (R1.out.new hn)
    replace hx1 := hn.still hx1
    replace hy1 := hn.still hy1
    replace hr1 := hn.still hr1
    replace hs1 := hn.still hs1
    have HN5 := Lib.hid (HN4.out.trans hn)
    clear hn HN4 T2 hx2 hy2
    go_wp2_with fail
    refine (HRO.out _).mono ?_
    rintro e w6 ⟨v6, rfl, hv6, hn⟩
    replace T1 := Lib.hid (T1.out.new hn)
    replace R1 := Lib.hid (R1.out.new hn)
    replace hx1 := hn.still hx1
    replace hy1 := hn.still hy1
    replace hr1 := hn.still hr1
    replace hs1 := hn.still hs1
    have HV6 := Lib.hid hv6
    have HN6 := Lib.hid (HN5.out.trans hn)
    clear hn HN5 hv6
    go_wp2_with fail
    refine (rtext_nw _ HV6.out (by omega) HTN.out).mono ?_
    rintro e w7 ⟨rfl, hn⟩
    replace T1 := Lib.hid (T1.out.new hn)
    replace R1 := Lib.hid (R1.out.new hn)
    replace hx1 := hn.still hx1
    replace hy1 := hn.still hy1
    replace hr1 := hn.still hr1
    replace hs1 := hn.still hs1
    have HN7 := Lib.hid (HN6.out.trans hn)
    clear hn HN6 HV6
    cases i1 : isZ a.data.toList with
    | false => go_wp2_with fail; go_ret; exact ⟨rfl, HN7.out⟩
    | true =>
      have E1 : numS (zNum a.data.toList) = a := zNum_text i1
      generalize zNum a.data.toList = x at *
      have HE1 := Lib.hid E1
      have HK1 := Lib.hid hk1
      clear E1 hk1 i1
      go_wp2_with fail
      generalize w2.heap.size = p1 at *
      generalize hq1e : p1 + 1 = q1 at *
      clear hq1e
      refine (int_n T1.out.nx (by omega) (tabIs_new HN7.out HTAB.out)).mono ?_
      rintro e w8 ⟨rfl, hn⟩
      replace T1 := Lib.hid (T1.out.new hn)
      replace R1 := Lib.hid (R1.out.new hn)
      replace hx1 := hn.still hx1
      replace hy1 := hn.still hy1
      replace hr1 := hn.still hr1
      replace hs1 := hn.still hs1
      have HN8 := Lib.hid (HN7.out.trans hn)
      clear hn HN7
      go_wp2_with fail
      refine (rint_n (k := 512) ⟨R1.out.nx, HK1.out⟩ (by omega)).mono ?_
      rintro e w9 ⟨rfl, hn⟩
      replace T1 := Lib.hid (T1.out.new hn)
      replace R1 := Lib.hid (R1.out.new hn)
      replace hx1 := hn.still hx1
      replace hy1 := hn.still hy1
      replace hr1 := hn.still hr1
      replace hs1 := hn.still hs1
      have HN9 := Lib.hid (HN8.out.trans hn)
      clear hn HN8
      generalize intZ x = iz at *
      generalize fitZ x = fz at *
      have nb1 := T1.out.nx
      have nr1 : RNumB w9 _ x 512 := ⟨R1.out.nx, HK1.out⟩
      obtain ⟨t1, ht1⟩ : ∃ t, numS (-x) = t := ⟨_, rfl⟩
      obtain ⟨t2, ht2⟩ : ∃ t, decS x.natAbs = t := ⟨_, rfl⟩
      obtain ⟨s1, hsg1⟩ : ∃ t, sgZ x = t := ⟨_, rfl⟩
      have N1 := Lib.hid ht1
      have N2 := Lib.hid ht2
      have S1 := Lib.hid hsg1
      obtain ⟨_, _, _, er, hra⟩ := R1.out.nx
      obtain ⟨rfl, rfl, rfl⟩ : B1 = _ ∧ m1 = _ ∧ d1 = _ := by
        simp only [Value.agg.injEq, Array.mk.injEq, List.cons.injEq, and_true] at er
        injection er.2 with e1 e2 e3
        exact ⟨e1, e2, e3⟩
      have rn1 : RefB w9 (.agg #[.slice B1 m1 d1]) x.natAbs 512 := ⟨hra, HK1.out⟩
      have htab := tabIs_new HN9.out HTAB.out
      have HTB := Lib.hid htab
      clear htab ht1 ht2 hsg1 er hra T1 R1
      go_wp2
      try simp only [List.append_eq, List.cons_append, List.nil_append]
      go_region_held3 (fun V => New w9 V ∧ V.cell? ⟨p1, 0, none⟩ = some (.slice A1 l1 c1) ∧ V.cell? ⟨p1, 1, none⟩ = some (.bool b1) ∧ V.cell? ⟨q1, 0, none⟩ = some (.bool b1) ∧ V.cell? ⟨q1, 1, none⟩ = some (.slice B1 m1 d1))
        (first
          | exact ⟨(New.refl _).drew, by simpa using hx1, by simpa using hy1, by simpa using hr1, by simpa using hs1⟩
          | (go_split_ands; exact ⟨New.trans (by assumption) (by assumption), New.still (by assumption) (by assumption), New.still (by assumption) (by assumption), New.still (by assumption) (by assumption), New.still (by assumption) (by assumption)⟩)
          | (go_split_ands; exact ⟨by assumption, by assumption, by assumption, by assumption, by assumption⟩))
        ((rw [if_pos (by rfl)]; go_big_op; go_split_ands; first
          | (with_reducible (refine (text_s (by first | assumption | exact NatB.new (by assumption) (by first | exact New.refl _ | assumption | exact New.trans (by assumption) (by assumption) | exact New.trans (by assumption) (New.trans (by assumption) (by assumption)) | exact New.trans (by assumption) (New.trans (by assumption) (New.trans (by assumption) (by assumption))) | exact New.trans (by assumption) (New.trans (by assumption) (New.trans (by assumption) (New.trans (by assumption) (by assumption)))))) (by omega) (tabIs_new (by first | exact New.refl _ | assumption | exact New.trans (by assumption) (by assumption) | exact New.trans (by assumption) (New.trans (by assumption) (by assumption)) | exact New.trans (by assumption) (New.trans (by assumption) (New.trans (by assumption) (by assumption))) | exact New.trans (by assumption) (New.trans (by assumption) (New.trans (by assumption) (New.trans (by assumption) (by assumption))))) HTB.out) (Hid.out (by assumption))).mono ?_); rintro e w' ⟨rfl, hn⟩; dsimp only)
          | (with_reducible (refine (text_nw _ (by first | assumption | exact NumB.new (by assumption) (by first | exact New.refl _ | assumption | exact New.trans (by assumption) (by assumption) | exact New.trans (by assumption) (New.trans (by assumption) (by assumption)) | exact New.trans (by assumption) (New.trans (by assumption) (New.trans (by assumption) (by assumption))) | exact New.trans (by assumption) (New.trans (by assumption) (New.trans (by assumption) (New.trans (by assumption) (by assumption)))))) (by omega) (tabIs_new (by first | exact New.refl _ | assumption | exact New.trans (by assumption) (by assumption) | exact New.trans (by assumption) (New.trans (by assumption) (by assumption)) | exact New.trans (by assumption) (New.trans (by assumption) (New.trans (by assumption) (by assumption))) | exact New.trans (by assumption) (New.trans (by assumption) (New.trans (by assumption) (New.trans (by assumption) (by assumption))))) HTB.out) (Hid.out (by assumption))).mono ?_); rintro e w' ⟨rfl, hn⟩; dsimp only)
          | (with_reducible (refine (rtext_nw _ (by first | assumption | exact RNumB.new (by assumption) (by first | exact New.refl _ | assumption | exact New.trans (by assumption) (by assumption) | exact New.trans (by assumption) (New.trans (by assumption) (by assumption)) | exact New.trans (by assumption) (New.trans (by assumption) (New.trans (by assumption) (by assumption))) | exact New.trans (by assumption) (New.trans (by assumption) (New.trans (by assumption) (New.trans (by assumption) (by assumption)))))) (by omega) (Hid.out (by assumption))).mono ?_); rintro e w' ⟨rfl, hn⟩; dsimp only)
          | (with_reducible (refine (rtext_s2 (by first | assumption | exact RefB.new (by assumption) (by first | exact New.refl _ | assumption | exact New.trans (by assumption) (by assumption) | exact New.trans (by assumption) (New.trans (by assumption) (by assumption)) | exact New.trans (by assumption) (New.trans (by assumption) (New.trans (by assumption) (by assumption))) | exact New.trans (by assumption) (New.trans (by assumption) (New.trans (by assumption) (New.trans (by assumption) (by assumption)))))) (by omega) N2.out).mono ?_); rintro e w' ⟨rfl, hn⟩; dsimp only)
          | (with_reducible (refine (sign_w _ (by first | assumption | exact NumB.new (by assumption) (by first | exact New.refl _ | assumption | exact New.trans (by assumption) (by assumption) | exact New.trans (by assumption) (New.trans (by assumption) (by assumption)) | exact New.trans (by assumption) (New.trans (by assumption) (New.trans (by assumption) (by assumption))) | exact New.trans (by assumption) (New.trans (by assumption) (New.trans (by assumption) (New.trans (by assumption) (by assumption)))))) (by omega) (Hid.out (by assumption))).mono ?_); rintro e w' ⟨rfl, hn⟩; dsimp only)
          | (with_reducible (refine (rsign_w _ (by first | assumption | exact RNumB.new (by assumption) (by first | exact New.refl _ | assumption | exact New.trans (by assumption) (by assumption) | exact New.trans (by assumption) (New.trans (by assumption) (by assumption)) | exact New.trans (by assumption) (New.trans (by assumption) (New.trans (by assumption) (by assumption))) | exact New.trans (by assumption) (New.trans (by assumption) (New.trans (by assumption) (New.trans (by assumption) (by assumption)))))) (Hid.out (by assumption))).mono ?_); rintro e w' ⟨rfl, hn⟩; dsimp only)
          | (with_reducible (refine (neg_n (by first | assumption | exact NumB.new (by assumption) (by first | exact New.refl _ | assumption | exact New.trans (by assumption) (by assumption) | exact New.trans (by assumption) (New.trans (by assumption) (by assumption)) | exact New.trans (by assumption) (New.trans (by assumption) (New.trans (by assumption) (by assumption))) | exact New.trans (by assumption) (New.trans (by assumption) (New.trans (by assumption) (New.trans (by assumption) (by assumption)))))) (by omega)).mono ?_); rintro e w' ⟨v', rfl, hv', hn⟩; dsimp only)
          | (with_reducible (refine (rneg_n (by first | assumption | exact RNumB.new (by assumption) (by first | exact New.refl _ | assumption | exact New.trans (by assumption) (by assumption) | exact New.trans (by assumption) (New.trans (by assumption) (by assumption)) | exact New.trans (by assumption) (New.trans (by assumption) (New.trans (by assumption) (by assumption))) | exact New.trans (by assumption) (New.trans (by assumption) (New.trans (by assumption) (New.trans (by assumption) (by assumption))))))).mono ?_); rintro e w' ⟨v', rfl, hv', hn⟩; dsimp only)
          | (with_reducible (refine (abs_n (by first | assumption | exact NumB.new (by assumption) (by first | exact New.refl _ | assumption | exact New.trans (by assumption) (by assumption) | exact New.trans (by assumption) (New.trans (by assumption) (by assumption)) | exact New.trans (by assumption) (New.trans (by assumption) (New.trans (by assumption) (by assumption))) | exact New.trans (by assumption) (New.trans (by assumption) (New.trans (by assumption) (New.trans (by assumption) (by assumption))))))).mono ?_); rintro e w' ⟨v', rfl, hv', hn⟩; dsimp only)))
      all_goals
        go_split_ands
        rename_i hN _ _ _ _
        have HNF := Lib.hid (HN9.out.trans hN)
        clear hN
        go_wp2_with fail
        go_ret
        first | exact ⟨rfl, HNF.out⟩ | exact ⟨by simp, HNF.out⟩
end Go.Proofs.YtkjlmibleoecgaaGreatDoor
