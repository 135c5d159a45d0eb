/- Which grids may be: the reference's Check, walked. -/
import Derived.Test.YtpgloooebaklmaaG1
namespace Go.Proofs.Ytpgloooebaklmaa
set_option linter.unusedSimpArgs false
set_option linter.unusedVariables false
open Go.RowKit
def linOk (z : Int) (l : Lin) : Bool := fitI l.fr 0 (z - 1) && (fitI l.to' 0 (z - 1) && (decide (l.fr ≠ l.to') && fitI l.cap 0 1000))
def grdOk (g : Grd) : Bool := fitI g.zones 1 3 && (fitI g.hours 1 3 && (decide (g.lines.length ≤ 3) && (g.lines.all (linOk g.zones) && (decide (-100000 ≤ g.low ∧ g.low ≤ g.high) && decide (g.high ≤ 100000)))))
def chkE (g : Grd) : Int := if grdOk g then 0 else 140
theorem chkE_bad {g : Grd} (h : grdOk g = false) : chkE g = 140 := by unfold chkE; rw [h]; rfl
theorem chkE_ok {g : Grd} (h : grdOk g = true) : chkE g = 0 := by unfold chkE; rw [h]; rfl
theorem fit_yes {n lo hi : Int} (h : fitI n lo hi = true) : lo ≤ n ∧ n ≤ hi := by unfold fitI at h; exact of_decide_eq_true h
section
variable {w w' : World} {g : Grd} {v : Value}
/-- One line, looked at: may it be? -/
theorem lin_ways (z : Int) (l : Lin) : (fitI l.fr 0 (z - 1) = false ∧ linOk z l = false) ∨ (fitI l.fr 0 (z - 1) = true ∧ fitI l.to' 0 (z - 1) = false ∧ linOk z l = false) ∨ (fitI l.fr 0 (z - 1) = true ∧ fitI l.to' 0 (z - 1) = true ∧ (l.fr == l.to') = true ∧ linOk z l = false) ∨
    (fitI l.fr 0 (z - 1) = true ∧ fitI l.to' 0 (z - 1) = true ∧ (l.fr == l.to') = false ∧ fitI l.cap 0 1000 = false ∧ linOk z l = false) ∨ (fitI l.fr 0 (z - 1) = true ∧ fitI l.to' 0 (z - 1) = true ∧ (l.fr == l.to') = false ∧ fitI l.cap 0 1000 = true ∧ linOk z l = true) := by
  unfold linOk
  cases h1 : fitI l.fr 0 (z - 1) with
  | false => exact .inl ⟨rfl, rfl⟩
  | true =>
    cases h2 : fitI l.to' 0 (z - 1) with
    | false => exact .inr (.inl ⟨rfl, rfl, rfl⟩)
    | true =>
      by_cases h3 : l.fr = l.to'
      · exact .inr (.inr (.inl ⟨rfl, rfl, by rw [beq_iff_eq]; exact h3, by simp [h3]⟩))
      · have h3' : (l.fr == l.to') = false := by rw [beq_eq_false_iff_ne]; exact h3
        cases h4 : fitI l.cap 0 1000 with
        | false => exact .inr (.inr (.inr (.inl ⟨rfl, rfl, h3', rfl, by simp⟩)))
        | true => exact .inr (.inr (.inr (.inr ⟨rfl, rfl, h3', rfl, by simp [h3]⟩)))
theorem all_bad {z : Int} {ls : List Lin} {k : Nat} (hk : k < ls.length) (h : linOk z ls[k] = false) : ls.all (linOk z) = false := by
  cases hh : ls.all (linOk z) with
  | false => rfl
  | true =>
    have := List.all_eq_true.1 hh _ (List.getElem_mem hk)
    rw [h] at this
    cases this
def Upto (z : Int) (ls : List Lin) (k : Nat) : Prop := (ls.take k).all (linOk z) = true
theorem Upto.next {z : Int} {ls : List Lin} {k : Nat} (h : Upto z ls k) (hk : k < ls.length) (h2 : linOk z ls[k] = true) : Upto z ls (k + 1) := by
  unfold Upto at *
  rw [List.take_succ_eq_append_getElem hk, List.all_append, h]
  simp [h2]
set_option maxRecDepth 1000000 in
set_option maxHeartbeats 4000000 in
theorem rcheck_c (h : GrdIn w g v) : Calls Try.prog 5 #[.agg (gcells g v)] w fun e w' => e = .returned (.int .i64 (chkE g)) ∧ New w w' := by
  obtain ⟨A, c, rfl, h1, h2, h3⟩ := h.ls
  have hl : (g.lines.length : Int) ≤ 9223372036854775807 := by unfold maxLen at h2; omega
  have HL3 := Lib.hid h3
  have HW1 := Lib.hid (fun W => within_c g.zones 1 3 W)
  have HW2 := Lib.hid (fun W => within_c g.hours 1 3 W)
  have HBAD := Lib.hid (fun h => chkE_bad (g := g) h)
  unfold gcells
  cases z1 : fitI g.zones 1 3 with
  | false =>
    have HE := Lib.hid (HBAD.out (by unfold grdOk; rw [z1]; rfl))
    rw [z1] at HW1
    rw [HE.out]
    go_enter Try.func5, Try.ntmps5
    go_wp2_with fail
    refine (HW1.out _).mono ?_
    rintro e w1 ⟨rfl, rfl⟩
    go_wp2
    go_ret
    exact ⟨rfl, (New.refl w).alloc _⟩
  | true =>
    have zz := fit_yes z1
    cases z2 : fitI g.hours 1 3 with
    | false =>
      have HE := Lib.hid (HBAD.out (by unfold grdOk; rw [z1, z2]; rfl))
      rw [z1] at HW1
      rw [z2] at HW2
      rw [HE.out]
      go_enter Try.func5, Try.ntmps5
      go_wp2_with fail
      refine (HW1.out _).mono ?_
      rintro e w1 ⟨rfl, rfl⟩
      go_wp2_with fail
      refine (HW2.out _).mono ?_
      rintro e w1 ⟨rfl, rfl⟩
      go_wp2
      go_ret
      exact ⟨rfl, (New.refl w).alloc _⟩
    | true =>
      rw [z1] at HW1
      rw [z2] at HW2
      have hways : ((3 : Int) < (g.lines.length : Int) ∧ grdOk g = false) ∨ ((g.lines.length : Int) ≤ 3 ∧ g.low < -100000 ∧ grdOk g = false) ∨ ((g.lines.length : Int) ≤ 3 ∧ -100000 ≤ g.low ∧ g.high < g.low ∧ grdOk g = false) ∨ ((g.lines.length : Int) ≤ 3 ∧ -100000 ≤ g.low ∧ g.low ≤ g.high ∧ 100000 < g.high ∧ grdOk g = false) ∨ ((g.lines.length : Int) ≤ 3 ∧ -100000 ≤ g.low ∧ g.low ≤ g.high ∧ g.high ≤ 100000 ∧ grdOk g = g.lines.all (linOk g.zones)) := by
        unfold grdOk
        rw [z1, z2]
        by_cases c1 : (3 : Int) < (g.lines.length : Int)
        · exact .inl ⟨c1, by rw [decide_eq_false (show ¬ g.lines.length ≤ 3 by omega)]; rfl⟩
        have d1 : decide (g.lines.length ≤ 3) = true := decide_eq_true (by omega)
        by_cases c2 : g.low < -100000
        · exact .inr (.inl ⟨by omega, c2, by rw [decide_eq_false (show ¬ (-100000 ≤ g.low ∧ g.low ≤ g.high) by omega)]; simp⟩)
        by_cases c3 : g.high < g.low
        · exact .inr (.inr (.inl ⟨by omega, by omega, c3, by rw [decide_eq_false (show ¬ (-100000 ≤ g.low ∧ g.low ≤ g.high) by omega)]; simp⟩))
        by_cases c4 : 100000 < g.high
        · exact .inr (.inr (.inr (.inl ⟨by omega, by omega, by omega, c4, by rw [decide_eq_false (show ¬ g.high ≤ 100000 by omega)]; simp⟩)))
        · exact .inr (.inr (.inr (.inr ⟨by omega, by omega, by omega, by omega, by rw [d1, decide_eq_true (show (-100000 ≤ g.low ∧ g.low ≤ g.high) by omega), decide_eq_true (show g.high ≤ 100000 by omega)]; simp⟩)))
      rcases hways with ⟨c1, c2⟩ | ⟨c1, c2, c3⟩ | ⟨c1, c2, c3, c4⟩ | ⟨c1, c2, c3, c4, c5⟩ | ⟨c1, c2, c3, c4, c5⟩
      · have HE := Lib.hid (HBAD.out c2)
        rw [HE.out]
        clear c2
        go_enter Try.func5, Try.ntmps5
        go_wp2_with fail
        refine (HW1.out _).mono ?_
        rintro e w1 ⟨rfl, rfl⟩
        go_wp2_with fail
        refine (HW2.out _).mono ?_
        rintro e w1 ⟨rfl, rfl⟩
        go_wp2
        go_ret
        exact ⟨rfl, (New.refl w).alloc _⟩
      · have HE := Lib.hid (HBAD.out c3)
        rw [HE.out]
        clear c3
        go_enter Try.func5, Try.ntmps5
        go_wp2_with fail
        refine (HW1.out _).mono ?_
        rintro e w1 ⟨rfl, rfl⟩
        go_wp2_with fail
        refine (HW2.out _).mono ?_
        rintro e w1 ⟨rfl, rfl⟩
        go_wp2
        go_ret
        exact ⟨rfl, (New.refl w).alloc _⟩
      · have HE := Lib.hid (HBAD.out c4)
        rw [HE.out]
        clear c4
        go_enter Try.func5, Try.ntmps5
        go_wp2_with fail
        refine (HW1.out _).mono ?_
        rintro e w1 ⟨rfl, rfl⟩
        go_wp2_with fail
        refine (HW2.out _).mono ?_
        rintro e w1 ⟨rfl, rfl⟩
        go_wp2
        go_ret
        exact ⟨rfl, (New.refl w).alloc _⟩
      · have HE := Lib.hid (HBAD.out c5)
        rw [HE.out]
        clear c5
        go_enter Try.func5, Try.ntmps5
        go_wp2_with fail
        refine (HW1.out _).mono ?_
        rintro e w1 ⟨rfl, rfl⟩
        go_wp2_with fail
        refine (HW2.out _).mono ?_
        rintro e w1 ⟨rfl, rfl⟩
        go_wp2
        go_ret
        exact ⟨rfl, (New.refl w).alloc _⟩
      · have HGO := Lib.hid c5
        obtain ⟨CE, hCE⟩ : ∃ x, x = chkE g := ⟨_, rfl⟩
        have HCE := Lib.hid hCE
        rw [← hCE]
        clear c5 hCE
        go_enter Try.func5, Try.ntmps5
        go_wp2_with fail
        refine (HW1.out _).mono ?_
        rintro e w1 ⟨rfl, rfl⟩
        go_wp2_with fail
        refine (HW2.out _).mono ?_
        rintro e w1 ⟨rfl, rfl⟩
        have HN1 : Hid (New w (w.alloc (.cells #[.int .i64 g.zones, .int .i64 g.hours, .slice A g.lines.length c, .int .i64 g.low, .int .i64 g.high] 24))) := Lib.hid ((New.refl w).alloc _)
        have HB1 := Lib.hid (Box.last w #[.int .i64 g.zones, .int .i64 g.hours, .slice A g.lines.length c, .int .i64 g.low, .int .i64 g.high] 24)
        go_wp2
        generalize w.alloc (.cells #[.int .i64 g.zones, .int .i64 g.hours, .slice A g.lines.length c, .int .i64 g.low, .int .i64 g.high] 24) = w1 at *
        go_loopw [3] (fun v3 w' => ∃ (k : Nat), v3 = .int .i64 (k : Int) ∧ k ≤ g.lines.length ∧ Hid (Upto g.zones g.lines k) ∧ Hid (New w1 w')) (fun v3 _ => g.lines.length - (intOf v3).toNat)
        case atStart => exact ⟨0, rfl, Nat.zero_le _, rfl, New.refl _⟩
        case round =>
          obtain ⟨k, rfl, hk, HU, HN⟩ := hrel
          have b0 := HN.out.still (HB1.out.cell 0)
          have b2 := HN.out.still (HB1.out.cell 2)
          by_cases hkl : k < g.lines.length
          · skip
            have ca : ∀ x, (wr.alloc x).cell? ⟨w.heap.size, 0, none⟩ = some (.int .i64 g.zones) := fun x => ((New.refl wr).alloc x).still b0
            obtain ⟨b, o, rfl, hlt, e0, e1, e2, i0, i1, i2⟩ := HL3.out k hkl
            have t0 := (HN1.out.trans HN.out).still e0
            have t1 := (HN1.out.trans HN.out).still e1
            have t2 := (HN1.out.trans HN.out).still e2
            have hways := lin_ways g.zones g.lines[k]
            have HBK := Lib.hid (fun h => all_bad (z := g.zones) hkl h)
            have HNX := Lib.hid (fun h => HU.out.next hkl h)
            generalize g.lines[k] = ln at *
            obtain ⟨fr, to', cap⟩ := ln
            simp only at hways t0 t1 t2 i0 i1 i2
            obtain ⟨y0, y1⟩ := zz
            unfold i64ok at i0 i1 i2
            have HF := Lib.hid (fun W => within_c fr 0 (g.zones - 1) W)
            have HT := Lib.hid (fun W => within_c to' 0 (g.zones - 1) W)
            have HC := Lib.hid (fun W => within_c cap 0 1000 W)
            clear e0 e1 e2 hlt
            rcases hways with ⟨a1, a2⟩ | ⟨a1, a2, a3⟩ | ⟨a1, a2, a3, a4⟩ | ⟨a1, a2, a3, a4, a5⟩ | ⟨a1, a2, a3, a4, a5⟩
            · have HE : Hid (CE = 140) := Lib.hid (by rw [HCE.out]; exact chkE_bad (by rw [HGO.out]; exact HBK.out a2))
              rw [a1] at HF
              clear HBK HNX
              go_wp2_with fail
              refine (HF.out _).mono ?_
              rintro e w3 ⟨rfl, rfl⟩
              go_wp2
              go_ret
              exact ⟨by rw [HE.out]; rfl, (HN1.out.trans HN.out).trans ((New.refl _).alloc _)⟩
            · have HE : Hid (CE = 140) := Lib.hid (by rw [HCE.out]; exact chkE_bad (by rw [HGO.out]; exact HBK.out a3))
              rw [a1] at HF
              rw [a2] at HT
              clear HBK HNX
              go_wp2_with fail
              refine (HF.out _).mono ?_
              rintro e w3 ⟨rfl, rfl⟩
              go_wp2_with fail
              refine (HT.out _).mono ?_
              rintro e w3 ⟨rfl, rfl⟩
              go_wp2
              go_ret
              exact ⟨by rw [HE.out]; rfl, (HN1.out.trans HN.out).trans ((New.refl _).alloc _)⟩
            · have HE : Hid (CE = 140) := Lib.hid (by rw [HCE.out]; exact chkE_bad (by rw [HGO.out]; exact HBK.out a4))
              rw [a1] at HF
              rw [a2] at HT
              clear HBK HNX
              go_wp2_with fail
              refine (HF.out _).mono ?_
              rintro e w3 ⟨rfl, rfl⟩
              go_wp2_with fail
              refine (HT.out _).mono ?_
              rintro e w3 ⟨rfl, rfl⟩
              go_wp2
              go_ret
              exact ⟨by rw [HE.out]; rfl, (HN1.out.trans HN.out).trans ((New.refl _).alloc _)⟩
            · have HE : Hid (CE = 140) := Lib.hid (by rw [HCE.out]; exact chkE_bad (by rw [HGO.out]; exact HBK.out a5))
              rw [a1] at HF
              rw [a2] at HT
              rw [a4] at HC
              clear HBK HNX
              go_wp2_with fail
              refine (HF.out _).mono ?_
              rintro e w3 ⟨rfl, rfl⟩
              go_wp2_with fail
              refine (HT.out _).mono ?_
              rintro e w3 ⟨rfl, rfl⟩
              go_wp2_with fail
              refine (HC.out _).mono ?_
              rintro e w3 ⟨rfl, rfl⟩
              go_wp2
              go_ret
              exact ⟨by rw [HE.out]; rfl, (HN1.out.trans HN.out).trans ((New.refl _).alloc _)⟩
            · have HU2 := Lib.hid (HNX.out a5)
              rw [a1] at HF
              rw [a2] at HT
              rw [a4] at HC
              clear HBK HNX
              go_wp2_with fail
              refine (HF.out _).mono ?_
              rintro e w3 ⟨rfl, rfl⟩
              go_wp2_with fail
              refine (HT.out _).mono ?_
              rintro e w3 ⟨rfl, rfl⟩
              go_wp2_with fail
              refine (HC.out _).mono ?_
              rintro e w3 ⟨rfl, rfl⟩
              go_wp2
              go_roundw
              case rel => exact ⟨k + 1, by go_num, by omega, HU2.out, HN.out.alloc _⟩
              case measure => simp [intOf]; omega
          · obtain rfl : k = g.lines.length := by omega
            have HE : Hid (CE = 0) := Lib.hid (by
              rw [HCE.out]
              refine chkE_ok ?_
              rw [HGO.out]
              have := HU.out
              unfold Upto at this
              rwa [List.take_length] at this)
            go_wp2
            go_ret
            exact ⟨by rw [HE.out]; rfl, HN1.out.trans HN.out⟩
end
end Go.Proofs.Ytpgloooebaklmaa
