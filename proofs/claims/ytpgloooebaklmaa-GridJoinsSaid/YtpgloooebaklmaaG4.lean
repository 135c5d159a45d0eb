/- Which grids may be: the program's Check, walked whole. -/
import Derived.Test.YtpgloooebaklmaaG3
namespace Go.Proofs.Ytpgloooebaklmaa
set_option linter.unusedSimpArgs false
set_option linter.unusedVariables false
open Go.RowKit
section
variable {w w' : World} {g : Grd} {v : Value}
theorem grd_ways (g : Grd) : (fitI g.zones 1 3 = false ∧ grdOk g = false) ∨ (fitI g.zones 1 3 = true ∧ fitI g.hours 1 3 = false ∧ grdOk g = false) ∨
    (fitI g.zones 1 3 = true ∧ fitI g.hours 1 3 = true ∧ (3 : Int) < (g.lines.length : Int) ∧ grdOk g = false) ∨
    (fitI g.zones 1 3 = true ∧ fitI g.hours 1 3 = true ∧ (g.lines.length : Int) ≤ 3 ∧ (g.lines.all (linOk g.zones)) = false ∧ grdOk g = false) ∨
    (fitI g.zones 1 3 = true ∧ fitI g.hours 1 3 = true ∧ (g.lines.length : Int) ≤ 3 ∧ (g.lines.all (linOk g.zones)) = true ∧ fitI g.low (-100000) g.high = false ∧ grdOk g = false) ∨
    (fitI g.zones 1 3 = true ∧ fitI g.hours 1 3 = true ∧ (g.lines.length : Int) ≤ 3 ∧ (g.lines.all (linOk g.zones)) = true ∧ fitI g.low (-100000) g.high = true ∧ 100000 < g.high ∧ grdOk g = false) ∨
    (fitI g.zones 1 3 = true ∧ fitI g.hours 1 3 = true ∧ (g.lines.length : Int) ≤ 3 ∧ (g.lines.all (linOk g.zones)) = true ∧ fitI g.low (-100000) g.high = true ∧ g.high ≤ 100000 ∧ grdOk g = true) := by
  unfold grdOk
  cases z1 : fitI g.zones 1 3 with
  | false => exact .inl ⟨rfl, rfl⟩
  | true =>
    cases z2 : fitI g.hours 1 3 with
    | false => exact .inr (.inl ⟨rfl, rfl, rfl⟩)
    | true =>
      by_cases c1 : (3 : Int) < (g.lines.length : Int)
      · exact .inr (.inr (.inl ⟨rfl, rfl, c1, by rw [decide_eq_false (show ¬ g.lines.length ≤ 3 by omega)]; rfl⟩))
      have d1 : decide (g.lines.length ≤ 3) = true := decide_eq_true (by omega)
      rw [d1]
      cases z3 : g.lines.all (linOk g.zones) with
      | false => exact .inr (.inr (.inr (.inl ⟨rfl, rfl, by omega, rfl, rfl⟩)))
      | true =>
        have e : decide (-100000 ≤ g.low ∧ g.low ≤ g.high) = fitI g.low (-100000) g.high := rfl
        rw [e]
        cases z4 : fitI g.low (-100000) g.high with
        | false => exact .inr (.inr (.inr (.inr (.inl ⟨rfl, rfl, by omega, rfl, rfl, rfl⟩))))
        | true =>
          by_cases c4 : 100000 < g.high
          · exact .inr (.inr (.inr (.inr (.inr (.inl ⟨rfl, rfl, by omega, rfl, rfl, c4, by rw [decide_eq_false (show ¬ g.high ≤ 100000 by omega)]; rfl⟩)))))
          · exact .inr (.inr (.inr (.inr (.inr (.inr ⟨rfl, rfl, by omega, rfl, rfl, by omega, by rw [decide_eq_true (show g.high ≤ 100000 by omega)]; rfl⟩)))))
set_option maxRecDepth 1000000 in
set_option maxHeartbeats 4000000 in
theorem check_c (h : GrdIn w g v) : Calls Try.prog 6 #[.agg (gcells g v)] w fun e w' => e = .returned (.int .i64 (chkE g)) ∧ New w w' := by
  obtain ⟨A, c, rfl, h1, h2, h3⟩ := id h.ls
  have hl : (g.lines.length : Int) ≤ 9223372036854775807 := by unfold maxLen at h2; omega
  have HG := Lib.hid h.ls
  clear h3
  have HW1 := Lib.hid (fun W => fits_c g.zones 1 3 W)
  have HW2 := Lib.hid (fun W => fits_c g.hours 1 3 W)
  have HW3 := Lib.hid (fun W => fits_c g.low (-100000) g.high W)
  have HCF : Hid (fitI g.zones 1 3 = true → ∀ W bx, New w W → W.cell? ⟨bx, 0, none⟩ = some (.int .i64 g.zones) → Calls Try.prog 11 #[.slice A g.lines.length c, .func (.func 9) #[] #[.pointer (some ⟨bx, 0, none⟩)]] W fun e w' => e = .returned (.bool (!g.lines.all (linOk g.zones))) ∧ New W w') := Lib.hid (fun hz W bx hn hc => contains_c g.zones (fit_yes hz).1 (fit_yes hz).2 g.lines _ bx W (HG.out.new hn) hc)
  have HN1 : Hid (New w (w.alloc (.cells #[.int .i64 g.zones, .int .i64 g.hours, .slice A g.lines.length c, .int .i64 g.low, .int .i64 g.high] 24))) := Lib.hid ((New.refl w).alloc _)
  have HB1 := Lib.hid (Box.last w #[.int .i64 g.zones, .int .i64 g.hours, .slice A g.lines.length c, .int .i64 g.low, .int .i64 g.high] 24)
  have HWY := grd_ways g
  have HBAD := Lib.hid (fun h => chkE_bad (g := g) h)
  have HGOOD := Lib.hid (fun h => chkE_ok (g := g) h)
  obtain ⟨CE, hCE⟩ : ∃ x, x = chkE g := ⟨_, rfl⟩
  rw [← hCE] at HBAD HGOOD ⊢
  clear hCE h
  unfold gcells
  generalize grdOk g = OK at *
  generalize g.lines.all (linOk g.zones) = ALL at *
  rcases HWY with ⟨a1, rfl⟩ | ⟨a1, a2, rfl⟩ | ⟨a1, a2, a3, rfl⟩ | ⟨a1, a2, a3, rfl, rfl⟩ | ⟨a1, a2, a3, rfl, a4, rfl⟩ | ⟨a1, a2, a3, rfl, a4, a5, rfl⟩ | ⟨a1, a2, a3, rfl, a4, a5, rfl⟩
  · obtain rfl := HBAD.out rfl
    rw [a1] at HW1
    clear HCF HBAD HGOOD
    go_enter Try.func6, Try.ntmps6
    go_wp2_with fail
    refine (HW1.out _).mono ?_
    rintro e w4 ⟨rfl, rfl⟩
    go_wp2
    go_ret
    exact ⟨rfl, HN1.out⟩
  · obtain rfl := HBAD.out rfl
    rw [a1] at HW1
    rw [a2] at HW2
    clear HCF HBAD HGOOD
    go_enter Try.func6, Try.ntmps6
    go_wp2_with fail
    refine (HW1.out _).mono ?_
    rintro e w4 ⟨rfl, rfl⟩
    go_wp2_with fail
    refine (HW2.out _).mono ?_
    rintro e w4 ⟨rfl, rfl⟩
    go_wp2
    go_ret
    exact ⟨rfl, HN1.out⟩
  · obtain rfl := HBAD.out rfl
    rw [a1] at HW1
    rw [a2] at HW2
    clear HCF HBAD HGOOD
    go_enter Try.func6, Try.ntmps6
    go_wp2_with fail
    refine (HW1.out _).mono ?_
    rintro e w4 ⟨rfl, rfl⟩
    go_wp2_with fail
    refine (HW2.out _).mono ?_
    rintro e w4 ⟨rfl, rfl⟩
    go_wp2
    go_ret
    exact ⟨rfl, HN1.out⟩
  · obtain rfl := HBAD.out rfl
    have HCG := Lib.hid (HCF.out a1)
    rw [a1] at HW1
    rw [a2] at HW2
    clear HCF HBAD HGOOD
    go_enter Try.func6, Try.ntmps6
    go_wp2_with fail
    refine (HW1.out _).mono ?_
    rintro e w4 ⟨rfl, rfl⟩
    go_wp2_with fail
    refine (HW2.out _).mono ?_
    rintro e w4 ⟨rfl, rfl⟩
    go_wp2_with fail
    refine (HCG.out _ _ HN1.out (HB1.out.cell 0)).mono ?_
    rintro e w3 ⟨rfl, hn⟩
    have HN3 := Lib.hid (HN1.out.trans hn)
    have hb3 : w3.cell? ⟨w.heap.size, 3, none⟩ = some (.int .i64 g.low) := hn.still (HB1.out.cell 3)
    have hb4 : w3.cell? ⟨w.heap.size, 4, none⟩ = some (.int .i64 g.high) := hn.still (HB1.out.cell 4)
    clear hn
    go_wp2
    go_ret
    exact ⟨rfl, HN3.out⟩
  · obtain rfl := HBAD.out rfl
    have HCG := Lib.hid (HCF.out a1)
    rw [a1] at HW1
    rw [a2] at HW2
    rw [a4] at HW3
    clear HCF HBAD HGOOD
    go_enter Try.func6, Try.ntmps6
    go_wp2_with fail
    refine (HW1.out _).mono ?_
    rintro e w4 ⟨rfl, rfl⟩
    go_wp2_with fail
    refine (HW2.out _).mono ?_
    rintro e w4 ⟨rfl, rfl⟩
    go_wp2_with fail
    refine (HCG.out _ _ HN1.out (HB1.out.cell 0)).mono ?_
    rintro e w3 ⟨rfl, hn⟩
    have HN3 := Lib.hid (HN1.out.trans hn)
    have hb3 : w3.cell? ⟨w.heap.size, 3, none⟩ = some (.int .i64 g.low) := hn.still (HB1.out.cell 3)
    have hb4 : w3.cell? ⟨w.heap.size, 4, none⟩ = some (.int .i64 g.high) := hn.still (HB1.out.cell 4)
    clear hn
    go_wp2_with fail
    refine (HW3.out _).mono ?_
    rintro e w4 ⟨rfl, rfl⟩
    go_wp2
    go_ret
    exact ⟨rfl, HN3.out⟩
  · obtain rfl := HBAD.out rfl
    have HCG := Lib.hid (HCF.out a1)
    rw [a1] at HW1
    rw [a2] at HW2
    rw [a4] at HW3
    clear HCF HBAD HGOOD
    go_enter Try.func6, Try.ntmps6
    go_wp2_with fail
    refine (HW1.out _).mono ?_
    rintro e w4 ⟨rfl, rfl⟩
    go_wp2_with fail
    refine (HW2.out _).mono ?_
    rintro e w4 ⟨rfl, rfl⟩
    go_wp2_with fail
    refine (HCG.out _ _ HN1.out (HB1.out.cell 0)).mono ?_
    rintro e w3 ⟨rfl, hn⟩
    have HN3 := Lib.hid (HN1.out.trans hn)
    have hb3 : w3.cell? ⟨w.heap.size, 3, none⟩ = some (.int .i64 g.low) := hn.still (HB1.out.cell 3)
    have hb4 : w3.cell? ⟨w.heap.size, 4, none⟩ = some (.int .i64 g.high) := hn.still (HB1.out.cell 4)
    clear hn
    go_wp2_with fail
    refine (HW3.out _).mono ?_
    rintro e w4 ⟨rfl, rfl⟩
    go_wp2
    go_ret
    exact ⟨rfl, HN3.out⟩
  · obtain rfl := HGOOD.out rfl
    have HCG := Lib.hid (HCF.out a1)
    rw [a1] at HW1
    rw [a2] at HW2
    rw [a4] at HW3
    clear HCF HBAD HGOOD
    go_enter Try.func6, Try.ntmps6
    go_wp2_with fail
    refine (HW1.out _).mono ?_
    rintro e w4 ⟨rfl, rfl⟩
    go_wp2_with fail
    refine (HW2.out _).mono ?_
    rintro e w4 ⟨rfl, rfl⟩
    go_wp2_with fail
    refine (HCG.out _ _ HN1.out (HB1.out.cell 0)).mono ?_
    rintro e w3 ⟨rfl, hn⟩
    have HN3 := Lib.hid (HN1.out.trans hn)
    have hb3 : w3.cell? ⟨w.heap.size, 3, none⟩ = some (.int .i64 g.low) := hn.still (HB1.out.cell 3)
    have hb4 : w3.cell? ⟨w.heap.size, 4, none⟩ = some (.int .i64 g.high) := hn.still (HB1.out.cell 4)
    clear hn
    go_wp2_with fail
    refine (HW3.out _).mono ?_
    rintro e w4 ⟨rfl, rfl⟩
    go_wp2
    go_ret
    exact ⟨rfl, HN3.out⟩
end
end Go.Proofs.Ytpgloooebaklmaa
