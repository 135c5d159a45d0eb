/- The program's Islands, walked. -/
import Derived.Test.YtpgloooebaklmaaP4
import Derived.Scope
import Derived.WalkMore
import Derived.Deep.RegionHeld3
import Derived.RegionTactic
import Derived.Deep.QuietTactic
import Derived.BigQuiet
namespace Go.Proofs.Ytpgloooebaklmaa
set_option linter.unusedSimpArgs false
set_option linter.unusedVariables false
open Go.RowKit
def intOf : Value → Int | .int _ q => q | _ => 0
theorem fits_q (n lo hi : Int) (h : lo ≤ n ∧ n ≤ hi) (W : World) : Calls Try.prog 10 #[.int .i64 n, .int .i64 lo, .int .i64 hi] W fun e w' => e = .returned (.bool true) ∧ w' = W := by
  refine (fits_c n lo hi W).mono ?_
  rintro e w' ⟨rfl, rfl⟩
  exact ⟨ret_bool (decide_eq_true h), rfl⟩
section
variable {w w' : World} {g : Grd} {v : Value}
set_option maxRecDepth 1000000 in
set_option maxHeartbeats 4000000 in
theorem islands_c (h : GrdIn w g v) (hok : grdOk g = true) : Calls Try.prog 7 #[.agg (gcells g v)] w fun e w' => ∃ u L, e = .returned u ∧ OwnE nE 3 w.heap.size w' u L ∧ Steps (lnsOf g.lines) (List.range g.zones.toNat) L ∧ step L (lnsOf g.lines) = none ∧ New w w' := by
  obtain ⟨A, c, rfl, h1, h2, h3⟩ := id h.ls
  have hl : (g.lines.length : Int) ≤ 9223372036854775807 := by unfold maxLen at h2; omega
  have HL3 := Lib.hid h3
  obtain ⟨n, hz, hn1, hn3⟩ : ∃ n : Nat, g.zones = (n : Int) ∧ 1 ≤ n ∧ n ≤ 3 := by
    have hok' := hok
    unfold grdOk at hok'
    rw [Bool.and_eq_true] at hok'
    have := fit_yes hok'.1
    exact ⟨g.zones.toNat, by omega, by omega, by omega⟩
  have HF : Hid (∀ l ∈ g.lines, 0 ≤ l.fr ∧ l.fr < n ∧ 0 ≤ l.to' ∧ l.to' < n) := Lib.hid (by
    intro l hm
    have hok' := hok
    unfold grdOk at hok'
    simp only [Bool.and_eq_true] at hok'
    have := List.all_eq_true.1 hok'.2.2.2.1 l hm
    unfold linOk at this
    simp only [Bool.and_eq_true] at this
    have a1 := fit_yes this.1
    have a2 := fit_yes this.2.1
    omega)
  clear h3 h
  obtain ⟨zones, hours, lines, low, high⟩ := g
  simp only at *
  subst hz
  unfold gcells
  simp only
  have e0 : ((n : Int)).toNat = n := Int.toNat_natCast n
  rw [e0]
  have hmax : max (n : Int) 0 = (n : Int) := by omega
  have hmin : min (n : Int) 1024 = (n : Int) := by omega
  have hmk := made_row (n := n) (by omega)
  clear hok
  go_enter Try.func7, Try.ntmps7
  go_wp2
  refine wp_scope_again 0 (fun a' W => ∃ (xs : List Nat), a' = { tmps := #[.agg #[.int .i64 (n : Int), .int .i64 hours, .slice A lines.length c, .int .i64 low, .int .i64 high], .pointer (some ⟨w.heap.size, 0, none⟩), .slice none 0 0, .slice (some ⟨w.heap.size + 1, 0, none⟩) n n, a'.tmps.getD 4 undef, a'.tmps.getD 5 undef, a'.tmps.getD 6 undef, a'.tmps.getD 7 undef, a'.tmps.getD 8 undef, a'.tmps.getD 9 undef, a'.tmps.getD 10 undef, a'.tmps.getD 11 undef, a'.tmps.getD 12 undef, a'.tmps.getD 13 undef, a'.tmps.getD 14 undef, a'.tmps.getD 15 undef, a'.tmps.getD 16 undef, a'.tmps.getD 17 undef, a'.tmps.getD 18 undef, a'.tmps.getD 19 undef, a'.tmps.getD 20 undef, a'.tmps.getD 21 undef, a'.tmps.getD 22 undef, a'.tmps.getD 23 undef, a'.tmps.getD 24 undef, a'.tmps.getD 25 undef, a'.tmps.getD 26 undef, a'.tmps.getD 27 undef, a'.tmps.getD 28 undef, a'.tmps.getD 29 undef, a'.tmps.getD 30 undef, a'.tmps.getD 31 undef, a'.tmps.getD 32 undef, a'.tmps.getD 33 undef, a'.tmps.getD 34 undef, a'.tmps.getD 35 undef, a'.tmps.getD 36 undef, a'.tmps.getD 37 undef, a'.tmps.getD 38 undef, a'.tmps.getD 39 undef, a'.tmps.getD 40 undef, a'.tmps.getD 41 undef, a'.tmps.getD 42 undef, a'.tmps.getD 43 undef, a'.tmps.getD 44 undef, a'.tmps.getD 45 undef, a'.tmps.getD 46 undef, a'.tmps.getD 47 undef, a'.tmps.getD 48 undef, a'.tmps.getD 49 undef, a'.tmps.getD 50 undef, a'.tmps.getD 51 undef, a'.tmps.getD 52 undef, a'.tmps.getD 53 undef, a'.tmps.getD 54 undef, a'.tmps.getD 55 undef, a'.tmps.getD 56 undef, a'.tmps.getD 57 undef, a'.tmps.getD 58 undef, a'.tmps.getD 59 undef, a'.tmps.getD 60 undef, a'.tmps.getD 61 undef, a'.tmps.getD 62 undef, a'.tmps.getD 63 undef, a'.tmps.getD 64 undef, a'.tmps.getD 65 undef, a'.tmps.getD 66 undef, a'.tmps.getD 67 undef, a'.tmps.getD 68 undef, a'.tmps.getD 69 undef, a'.tmps.getD 70 undef, a'.tmps.getD 71 undef, a'.tmps.getD 72 undef, a'.tmps.getD 73 undef, a'.tmps.getD 74 undef, a'.tmps.getD 75 undef, a'.tmps.getD 76 undef, a'.tmps.getD 77 undef, a'.tmps.getD 78 undef, a'.tmps.getD 79 undef, a'.tmps.getD 80 undef, a'.tmps.getD 81 undef, a'.tmps.getD 82 undef, a'.tmps.getD 83 undef, a'.tmps.getD 84 undef, a'.tmps.getD 85 undef, a'.tmps.getD 86 undef], defers := [] } ∧ Hid (RowB W (w.heap.size + 1) xs) ∧ Hid (xs.length = n) ∧ Hid (Box W w.heap.size #[.int .i64 (n : Int), .int .i64 hours, .slice A lines.length c, .int .i64 low, .int .i64 high] 24) ∧ Hid (Steps (lnsOf lines) (List.range n) xs) ∧ Hid (New w W)) (fun _ W => rsum W (w.heap.size + 1) n) rfl ?_ (fun PASS0 => ?_)
  · intro a0 W0 hJ
    obtain ⟨xs, ha0, HR0, HL0, HB0, HS0, HN0⟩ := hJ
    obtain ⟨f, rfl⟩ : ∃ f : Nat → Value, a0 = { tmps := #[.agg #[.int .i64 (n : Int), .int .i64 hours, .slice A lines.length c, .int .i64 low, .int .i64 high], .pointer (some ⟨w.heap.size, 0, none⟩), .slice none 0 0, .slice (some ⟨w.heap.size + 1, 0, none⟩) n n, f 4, f 5, f 6, f 7, f 8, f 9, f 10, f 11, f 12, f 13, f 14, f 15, f 16, f 17, f 18, f 19, f 20, f 21, f 22, f 23, f 24, f 25, f 26, f 27, f 28, f 29, f 30, f 31, f 32, f 33, f 34, f 35, f 36, f 37, f 38, f 39, f 40, f 41, f 42, f 43, f 44, f 45, f 46, f 47, f 48, f 49, f 50, f 51, f 52, f 53, f 54, f 55, f 56, f 57, f 58, f 59, f 60, f 61, f 62, f 63, f 64, f 65, f 66, f 67, f 68, f 69, f 70, f 71, f 72, f 73, f 74, f 75, f 76, f 77, f 78, f 79, f 80, f 81, f 82, f 83, f 84, f 85, f 86], defers := [] } := ⟨fun i => a0.tmps.getD i undef, ha0⟩
    clear ha0
    have hb2 := HB0.out.cell 2
    simp only [List.getElem?_toArray, List.getElem?_cons_succ, List.getElem?_cons_zero] at hb2
    go_wp2
    have hln : ((lines.length : Nat) : Int) ≤ 9223372036854775807 := hl
    go_loopw [26] (fun v26 W => ∃ k : Nat, v26 = .int .i64 (k : Int) ∧ k ≤ lines.length ∧ Hid (step xs (lnsOf (lines.take k)) = none) ∧ Hid (RowB W (w.heap.size + 1) xs) ∧ Hid (Box W w.heap.size #[.int .i64 (n : Int), .int .i64 hours, .slice A lines.length c, .int .i64 low, .int .i64 high] 24) ∧ Hid (New w W)) (fun v26 _ => lines.length - (intOf v26).toNat)
    case atStart => exact ⟨0, rfl, Nat.zero_le _, rfl, HR0, HB0, HN0⟩
    case round =>
      obtain ⟨k, rfl, hk, HS, HR, HB, HN⟩ := hrel
      by_cases hkl : k < lines.length
      · obtain ⟨b, o, rfl, hlt, q0, q1, q2, i0, i1, i2⟩ := HL3.out k hkl
        have t0 := HN.out.still q0
        have t1 := HN.out.still q1
        have t2 := HN.out.still q2
        have HFL := Lib.hid (HF.out lines[k] (List.getElem_mem hkl))
        have HTK := Lib.hid (lns_take hkl)
        have HSP := Lib.hid (lns_split hkl)
        generalize lines[k] = ln at *
        obtain ⟨fr, to', cap⟩ := ln
        simp only at t0 t1 t2 HFL
        clear q0 q1 q2 hlt i0 i1 i2
        obtain ⟨f0, f1, g0, g1⟩ := HFL.out
        obtain ⟨x, rfl⟩ : ∃ x : Nat, fr = (x : Int) := ⟨fr.toNat, by omega⟩
        obtain ⟨y, rfl⟩ : ∃ y : Nat, to' = (y : Int) := ⟨to'.toNat, by omega⟩
        have HXX := Lib.hid (fun W => fits_q (x : Int) 0 ((n : Int) - 1) (by omega) W)
        have HYY := Lib.hid (fun W => fits_q (y : Int) 0 ((n : Int) - 1) (by omega) W)
        have hwr : IntKind.i64.wrap ((n : Int) - 1) = (n : Int) - 1 := by rw [IntKind.wrap_i64]; omega
        clear HF HL3
        go_wp2
        obtain ⟨W2, hW2⟩ : ∃ X, X = wr.alloc (.cells #[.int .i64 (x : Int), .int .i64 (y : Int), .int .i64 cap] 31) := ⟨_, rfl⟩
        rw [← hW2]
        have HK : Hid (Box W2 wr.heap.size #[.int .i64 (x : Int), .int .i64 (y : Int), .int .i64 cap] 31) := Lib.hid (by rw [hW2]; exact Box.last _ _ _)
        have HNW : Hid (New wr W2) := Lib.hid (by rw [hW2]; exact (New.refl wr).alloc _)
        obtain ⟨p, hp⟩ : ∃ p, p = wr.heap.size := ⟨_, rfl⟩
        have hpl : w.heap.size + 1 < p := by rw [hp]; exact HR.out.lt
        rw [← hp] at HK ⊢
        clear hW2 hp t0 t1 t2
        have HN2 := Lib.hid (HN.out.trans HNW.out)
        have HR2 := Lib.hid (HR.out.new HNW.out)
        have HB2 := Lib.hid (HB.out.new HNW.out)
        have k0 : W2.cell? ⟨p, 0, none⟩ = some (.int .i64 (x : Int)) := HK.out.cell 0
        have k1 : W2.cell? ⟨p, 1, none⟩ = some (.int .i64 (y : Int)) := HK.out.cell 1
        have k2 : W2.cell? ⟨p, 2, none⟩ = some (.int .i64 cap) := HK.out.cell 2
        have r0 := HR2.out.cell x (by rw [HL0.out]; omega)
        have r1 := HR2.out.cell y (by rw [HL0.out]; omega)
        obtain ⟨px, hpx⟩ : ∃ q, q = xs.getD x 0 := ⟨_, rfl⟩
        obtain ⟨py, hpy⟩ : ∃ q, q = xs.getD y 0 := ⟨_, rfl⟩
        rw [← hpx] at r0
        rw [← hpy] at r1
        have HPX := Lib.hid hpx
        have HPY := Lib.hid hpy
        clear hpx hpy
        by_cases hcap : cap ≤ 0
        · have HSN : Hid (step xs (lnsOf (lines.take (k + 1))) = none) := Lib.hid (by
            rw [HTK.out, step_append _ _ _ HS.out, lnOf_eq, decide_eq_false (by omega), step_skip _ _ _ _ _ rfl]
            rfl)
          have HZ := Lib.hid (fun nq => And.intro (HR2.out.new ((New.refl W2).drewN nq)) (And.intro (HB2.out.new ((New.refl W2).drewN nq)) (HN2.out.trans ((New.refl W2).drewN nq))))
          go_quiet (fail)
          obtain ⟨z1, z2, z3⟩ := HZ.out nq
          have HRq := Lib.hid z1
          have HBq := Lib.hid z2
          have HNq := Lib.hid z3
          clear z1 z2 z3
          go_wp2
          go_roundw
          case rel => exact ⟨k + 1, by go_num, by omega, HSN, HRq, HBq, HNq⟩
          case measure => simp [intOf]; omega
        · have hd : decide (cap ≤ 0) = false := by simpa using hcap
          by_cases hpq : px = py
          · have HSN : Hid (step xs (lnsOf (lines.take (k + 1))) = none) := Lib.hid (by
              rw [HTK.out, step_append _ _ _ HS.out, lnOf_eq, decide_eq_true (by omega), step_skip _ _ _ _ _ (by rw [← HPX.out, ← HPY.out, hpq]; simp)]
              rfl)
            have HZ := Lib.hid (fun nq => And.intro (HR2.out.new ((New.refl W2).drewN nq)) (And.intro (HB2.out.new ((New.refl W2).drewN nq)) (HN2.out.trans ((New.refl W2).drewN nq))))
            subst hpq
            go_quiet ((go_at_call 10; (first | with_reducible exact Calls.quiet_of_same (HXX.out _) | with_reducible exact Calls.quiet_of_same (HYY.out _))))
            obtain ⟨z1, z2, z3⟩ := HZ.out nq
            have HRq := Lib.hid z1
            have HBq := Lib.hid z2
            have HNq := Lib.hid z3
            clear z1 z2 z3
            go_wp2
            go_roundw
            case rel => exact ⟨k + 1, by go_num, by omega, HSN, HRq, HBq, HNq⟩
            case measure => simp [intOf]; omega
          · have hne : ((px : Int) == (py : Int)) = false := by rw [beq_eq_false_iff_ne]; omega
            go_quiet ((go_at_call 10; (first | with_reducible exact Calls.quiet_of_same (HXX.out _) | with_reducible exact Calls.quiet_of_same (HYY.out _))))
            have ka2 := k0
            have kb2 := k1
            have ra2 := r0
            have rb2 := r1
            have HK2 := HK
            clear k0 k1 k2 r0 r1 HK HNW
            go_wp2
            have HZW3 := Lib.hid (And.intro (HR2.out.new ((New.refl W2).drewN nq)) (And.intro (HB2.out.new ((New.refl W2).drewN nq)) (And.intro (HN2.out.trans ((New.refl W2).drewN nq)) (HK2.out.new ((New.refl W2).drewN nq)))))
            have ka3 : (W2.drewN nq).cell? ⟨p, 0, none⟩ = some (.int .i64 (x : Int)) := ka2
            have kb3 : (W2.drewN nq).cell? ⟨p, 1, none⟩ = some (.int .i64 (y : Int)) := kb2
            have ra3 : (W2.drewN nq).cell? ⟨w.heap.size + 1, x, none⟩ = some (.int .i64 (px : Int)) := ra2
            have rb3 : (W2.drewN nq).cell? ⟨w.heap.size + 1, y, none⟩ = some (.int .i64 (py : Int)) := rb2
            clear ka2 kb2 ra2 rb2 HR2 HB2 HN2 HK2
            generalize W2.drewN nq = W3 at *
            have HR3 := Lib.hid HZW3.out.1
            have HB3 := Lib.hid HZW3.out.2.1
            have HN3 := Lib.hid HZW3.out.2.2.1
            have HK3 := Lib.hid HZW3.out.2.2.2
            clear HZW3
            have HPQ := Lib.hid hpq
            have hpq3 : px < py ∨ py < px := by omega
            clear hpq hne
            rcases hpq3 with hlt | hge
            · have hcmp : (px : Int) < (py : Int) := by omega
              have HM : Hid (min px py = px) := Lib.hid (by omega)
              go_quiet (fail)
              go_wp2
              have HZW4 := Lib.hid (And.intro (HR3.out.new ((New.refl W3).drewN nq)) (And.intro (HB3.out.new ((New.refl W3).drewN nq)) (And.intro (HN3.out.trans ((New.refl W3).drewN nq)) (HK3.out.new ((New.refl W3).drewN nq)))))
              have ka4 : (W3.drewN nq).cell? ⟨p, 0, none⟩ = some (.int .i64 (x : Int)) := ka3
              have kb4 : (W3.drewN nq).cell? ⟨p, 1, none⟩ = some (.int .i64 (y : Int)) := kb3
              have ra4 : (W3.drewN nq).cell? ⟨w.heap.size + 1, x, none⟩ = some (.int .i64 (px : Int)) := ra3
              have rb4 : (W3.drewN nq).cell? ⟨w.heap.size + 1, y, none⟩ = some (.int .i64 (py : Int)) := rb3
              clear ka3 kb3 ra3 rb3 HR3 HB3 HN3 HK3
              generalize W3.drewN nq = W4 at *
              have HR4 := Lib.hid HZW4.out.1
              have HB4 := Lib.hid HZW4.out.2.1
              have HN4 := Lib.hid HZW4.out.2.2.1
              have HK4 := Lib.hid HZW4.out.2.2.2
              clear HZW4
              have fa4 := HR4.out.frozen x
              have fb4 := HR4.out.frozen y
              have HRe : Hid (∀ n1, RowB (((W4.drewN n1).setCell ⟨w.heap.size + 1, x, none⟩ (.int .i64 (px : Int))).setCell ⟨w.heap.size + 1, y, none⟩ (.int .i64 (px : Int))) (w.heap.size + 1) ((xs.set x px).set y px)) := Lib.hid (fun n1 => ((HR4.out.new ((New.refl _).drewN n1)).put x px _ rfl).put y px _ rfl)
              have HXY : Hid (x ≠ y) := Lib.hid (fun e => HPQ.out (by rw [HPX.out, HPY.out, e]))
              have e0 : (W4.setCell ⟨w.heap.size + 1, x, none⟩ (.int .i64 (px : Int))).cell? ⟨p, 0, none⟩ = some (.int .i64 (x : Int)) := (HK4.out.far (by omega) _).cell 0
              have e1 : (W4.setCell ⟨w.heap.size + 1, x, none⟩ (.int .i64 (px : Int))).cell? ⟨p, 1, none⟩ = some (.int .i64 (y : Int)) := (HK4.out.far (by omega) _).cell 1
              have e2 : (W4.setCell ⟨w.heap.size + 1, x, none⟩ (.int .i64 (px : Int))).cell? ⟨w.heap.size + 1, y, none⟩ = some (.int .i64 (py : Int)) := by
                have := (HR4.out.put x px _ rfl).cell y (by rw [List.length_set, HL0.out]; omega)
                rwa [getD_set_other HXY.out, ← HPY.out] at this
              have e3 : (W4.setCell ⟨w.heap.size + 1, x, none⟩ (.int .i64 (px : Int))).frozen? ⟨w.heap.size + 1, y, none⟩ = false := (HR4.out.put x px _ rfl).frozen y
              have e4 : ((W4.setCell ⟨w.heap.size + 1, x, none⟩ (.int .i64 (px : Int))).setCell ⟨w.heap.size + 1, y, none⟩ (.int .i64 (px : Int))).cell? ⟨p, 0, none⟩ = some (.int .i64 (x : Int)) := ((HK4.out.far (by omega) _).far (by omega) _).cell 0
              have e5 : ((W4.setCell ⟨w.heap.size + 1, x, none⟩ (.int .i64 (px : Int))).setCell ⟨w.heap.size + 1, y, none⟩ (.int .i64 (px : Int))).cell? ⟨p, 1, none⟩ = some (.int .i64 (y : Int)) := ((HK4.out.far (by omega) _).far (by omega) _).cell 1
              go_region_held3 (fun V => V.cell? ⟨p, 0, none⟩ = some (.int .i64 (x : Int)) ∧ V.cell? ⟨p, 1, none⟩ = some (.int .i64 (y : Int))) (first | exact ⟨e4, e5⟩ | exact ⟨e0, e1⟩ | exact ⟨ka4, kb4⟩) (fail)
              clear e0 e1 e2 e3 e4 e5 ka4 kb4 ra4 rb4 fa4 fb4
              go_wp2
              go_step3
              have hst : step xs (lnsOf lines) = some ((xs.set x px).set y px) := by
                rw [HSP.out, step_append _ _ _ HS.out, lnOf_eq, decide_eq_true (by omega), step_head _ _ _ _ _ (by rw [← HPX.out, ← HPY.out]; simpa using HPQ.out), ← HPX.out, ← HPY.out, HM.out]
              have hlen5 : ((xs.set x px).set y px).length = n := by rw [List.length_set, List.length_set]; exact HL0.out
              have hr5 : RowB ((W4.setCell ⟨w.heap.size + 1, x, none⟩ (.int .i64 (px : Int))).setCell ⟨w.heap.size + 1, y, none⟩ (.int .i64 (px : Int))).drew (w.heap.size + 1) ((xs.set x px).set y px) := (HR4.out.put x px _ rfl).put y px _ rfl
              refine ⟨rfl, ⟨_, rfl, Lib.hid hr5, Lib.hid hlen5, Lib.hid ((HB4.out.far (by omega) _).far (by omega) _), Lib.hid (.tail HS0.out hst), Lib.hid (((HN4.out.setCell (p := ⟨w.heap.size + 1, x, none⟩) (Nat.le_succ _) _).setCell (p := ⟨w.heap.size + 1, y, none⟩) (Nat.le_succ _) _).drew)⟩, ?_⟩
              show rsum _ _ _ < rsum _ _ _
              rw [rsum_row hr5 hlen5, rsum_row HR0.out HL0.out]
              have hsl := set_less (xs := xs) (f := x) (t := y) (by rw [HL0.out]; omega) (by rw [HL0.out]; omega) (by rw [← HPX.out, ← HPY.out]; exact HPQ.out)
              rwa [← HPX.out, ← HPY.out, HM.out] at hsl
            · have hcmp : (py : Int) < (px : Int) := by omega
              have HM : Hid (min px py = py) := Lib.hid (by omega)
              go_quiet (fail)
              go_wp2
              have HZW4 := Lib.hid (And.intro (HR3.out.new ((New.refl W3).drewN nq)) (And.intro (HB3.out.new ((New.refl W3).drewN nq)) (And.intro (HN3.out.trans ((New.refl W3).drewN nq)) (HK3.out.new ((New.refl W3).drewN nq)))))
              have ka4 : (W3.drewN nq).cell? ⟨p, 0, none⟩ = some (.int .i64 (x : Int)) := ka3
              have kb4 : (W3.drewN nq).cell? ⟨p, 1, none⟩ = some (.int .i64 (y : Int)) := kb3
              have ra4 : (W3.drewN nq).cell? ⟨w.heap.size + 1, x, none⟩ = some (.int .i64 (px : Int)) := ra3
              have rb4 : (W3.drewN nq).cell? ⟨w.heap.size + 1, y, none⟩ = some (.int .i64 (py : Int)) := rb3
              clear ka3 kb3 ra3 rb3 HR3 HB3 HN3 HK3
              generalize W3.drewN nq = W4 at *
              have HR4 := Lib.hid HZW4.out.1
              have HB4 := Lib.hid HZW4.out.2.1
              have HN4 := Lib.hid HZW4.out.2.2.1
              have HK4 := Lib.hid HZW4.out.2.2.2
              clear HZW4
              have fa4 := HR4.out.frozen x
              have fb4 := HR4.out.frozen y
              have HRe : Hid (∀ n1, RowB (((W4.drewN n1).setCell ⟨w.heap.size + 1, x, none⟩ (.int .i64 (py : Int))).setCell ⟨w.heap.size + 1, y, none⟩ (.int .i64 (py : Int))) (w.heap.size + 1) ((xs.set x py).set y py)) := Lib.hid (fun n1 => ((HR4.out.new ((New.refl _).drewN n1)).put x py _ rfl).put y py _ rfl)
              have HXY : Hid (x ≠ y) := Lib.hid (fun e => HPQ.out (by rw [HPX.out, HPY.out, e]))
              have e0 : (W4.setCell ⟨w.heap.size + 1, x, none⟩ (.int .i64 (py : Int))).cell? ⟨p, 0, none⟩ = some (.int .i64 (x : Int)) := (HK4.out.far (by omega) _).cell 0
              have e1 : (W4.setCell ⟨w.heap.size + 1, x, none⟩ (.int .i64 (py : Int))).cell? ⟨p, 1, none⟩ = some (.int .i64 (y : Int)) := (HK4.out.far (by omega) _).cell 1
              have e2 : (W4.setCell ⟨w.heap.size + 1, x, none⟩ (.int .i64 (py : Int))).cell? ⟨w.heap.size + 1, y, none⟩ = some (.int .i64 (py : Int)) := by
                have := (HR4.out.put x py _ rfl).cell y (by rw [List.length_set, HL0.out]; omega)
                rwa [getD_set_other HXY.out, ← HPY.out] at this
              have e3 : (W4.setCell ⟨w.heap.size + 1, x, none⟩ (.int .i64 (py : Int))).frozen? ⟨w.heap.size + 1, y, none⟩ = false := (HR4.out.put x py _ rfl).frozen y
              have e4 : ((W4.setCell ⟨w.heap.size + 1, x, none⟩ (.int .i64 (py : Int))).setCell ⟨w.heap.size + 1, y, none⟩ (.int .i64 (py : Int))).cell? ⟨p, 0, none⟩ = some (.int .i64 (x : Int)) := ((HK4.out.far (by omega) _).far (by omega) _).cell 0
              have e5 : ((W4.setCell ⟨w.heap.size + 1, x, none⟩ (.int .i64 (py : Int))).setCell ⟨w.heap.size + 1, y, none⟩ (.int .i64 (py : Int))).cell? ⟨p, 1, none⟩ = some (.int .i64 (y : Int)) := ((HK4.out.far (by omega) _).far (by omega) _).cell 1
              go_region_held3 (fun V => V.cell? ⟨p, 0, none⟩ = some (.int .i64 (x : Int)) ∧ V.cell? ⟨p, 1, none⟩ = some (.int .i64 (y : Int))) (first | exact ⟨e4, e5⟩ | exact ⟨e0, e1⟩ | exact ⟨ka4, kb4⟩) (fail)
              clear e0 e1 e2 e3 e4 e5 ka4 kb4 ra4 rb4 fa4 fb4
              go_wp2
              go_step3
              have hst : step xs (lnsOf lines) = some ((xs.set x py).set y py) := by
                rw [HSP.out, step_append _ _ _ HS.out, lnOf_eq, decide_eq_true (by omega), step_head _ _ _ _ _ (by rw [← HPX.out, ← HPY.out]; simpa using HPQ.out), ← HPX.out, ← HPY.out, HM.out]
              have hlen5 : ((xs.set x py).set y py).length = n := by rw [List.length_set, List.length_set]; exact HL0.out
              have hr5 : RowB ((W4.setCell ⟨w.heap.size + 1, x, none⟩ (.int .i64 (py : Int))).setCell ⟨w.heap.size + 1, y, none⟩ (.int .i64 (py : Int))).drew (w.heap.size + 1) ((xs.set x py).set y py) := (HR4.out.put x py _ rfl).put y py _ rfl
              refine ⟨rfl, ⟨_, rfl, Lib.hid hr5, Lib.hid hlen5, Lib.hid ((HB4.out.far (by omega) _).far (by omega) _), Lib.hid (.tail HS0.out hst), Lib.hid (((HN4.out.setCell (p := ⟨w.heap.size + 1, x, none⟩) (Nat.le_succ _) _).setCell (p := ⟨w.heap.size + 1, y, none⟩) (Nat.le_succ _) _).drew)⟩, ?_⟩
              show rsum _ _ _ < rsum _ _ _
              rw [rsum_row hr5 hlen5, rsum_row HR0.out HL0.out]
              have hsl := set_less (xs := xs) (f := x) (t := y) (by rw [HL0.out]; omega) (by rw [HL0.out]; omega) (by rw [← HPX.out, ← HPY.out]; exact HPQ.out)
              rwa [← HPX.out, ← HPY.out, HM.out] at hsl
      · obtain rfl : lines.length = k := by omega
        rw [List.take_length] at HS
        have HO := Lib.hid (HR.out.own (B := w.heap.size) (Nat.le_succ _) (by rw [HL0.out]; unfold maxLen; omega))
        rw [HL0.out] at HO
        go_wp2
        simp only [Exit.jump]
        go_ret
        exact ⟨_, _, rfl, HO.out, HS0.out, HS.out, HN.out⟩
  · have PASS := Lib.hid PASS0
    clear PASS0
    go_wp2
    obtain ⟨W1, hW1⟩ : ∃ x, x = (w.alloc (.cells #[.int .i64 (n : Int), .int .i64 hours, .slice A lines.length c, .int .i64 low, .int .i64 high] 24)).alloc (.cells (rowA (List.replicate n 0)) 3) := ⟨_, rfl⟩
    rw [← hW1]
    have HR1 : Hid (RowB W1 (w.heap.size + 1) (List.replicate n 0)) := Lib.hid (by rw [hW1]; unfold RowB; exact Box.last2 w _ _ _)
    have HB1 : Hid (Box W1 w.heap.size #[.int .i64 (n : Int), .int .i64 hours, .slice A lines.length c, .int .i64 low, .int .i64 high] 24) := Lib.hid (by rw [hW1]; exact (Box.last w _ _).alloc _)
    have HN1 : Hid (New w W1) := Lib.hid (by rw [hW1]; exact ((New.refl w).alloc _).alloc _)
    clear hW1
    go_loopw [15] (fun v15 W => ∃ k : Nat, v15 = .int .i64 (k : Int) ∧ k ≤ n ∧ Hid (RowB W (w.heap.size + 1) (List.range k ++ List.replicate (n - k) 0)) ∧ Hid (Box W w.heap.size #[.int .i64 (n : Int), .int .i64 hours, .slice A lines.length c, .int .i64 low, .int .i64 high] 24) ∧ Hid (New w W)) (fun v15 _ => n - (intOf v15).toNat)
    case atStart => exact ⟨0, rfl, Nat.zero_le _, HR1, HB1, HN1⟩
    case round =>
      obtain ⟨k, rfl, hk, HR, HB, HN⟩ := hrel
      by_cases hkn : k < n
      · have hlen : (List.range k ++ List.replicate (n - k) 0).length = n := by simp; omega
        have hc := HR.out.cell k (by rw [hlen]; exact hkn)
        have hf := HR.out.frozen k
        have HNe : Hid (New w (wr.setCell ⟨w.heap.size + 1, k, none⟩ (.int .i64 (k : Int)))) := Lib.hid (HN.out.setCell (p := ⟨w.heap.size + 1, k, none⟩) (Nat.le_succ _) _)
        have HBe : Hid (Box (wr.setCell ⟨w.heap.size + 1, k, none⟩ (.int .i64 (k : Int))) w.heap.size #[.int .i64 (n : Int), .int .i64 hours, .slice A lines.length c, .int .i64 low, .int .i64 high] 24) := Lib.hid (HB.out.far (Nat.ne_of_lt (Nat.lt_succ_self _)) _)
        have HRe : Hid (RowB (wr.setCell ⟨w.heap.size + 1, k, none⟩ (.int .i64 (k : Int))) (w.heap.size + 1) (List.range (k + 1) ++ List.replicate (n - (k + 1)) 0)) := Lib.hid (by
          have := HR.out.put k k (.int .i64 (k : Int)) rfl
          rwa [range_put hkn] at this)
        go_wp2
        go_roundw
        case rel => exact ⟨k + 1, by go_num, by omega, HRe, HBe, HNe⟩
        case measure => simp [intOf]; omega
      · obtain rfl : n = k := by omega
        rw [Nat.sub_self, List.replicate_zero, List.append_nil] at HR
        go_wp2
        refine wp_label ?_
        rename_i KK hKK
        refine hKK _ _ ?_
        exact PASS.out _ _ ⟨_, rfl, HR, Lib.hid (by simp), HB, Lib.hid (.refl _), HN⟩
end
end Go.Proofs.Ytpgloooebaklmaa
