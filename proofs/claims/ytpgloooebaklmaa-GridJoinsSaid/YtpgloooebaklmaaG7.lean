/- The law on grids: where a grid may be. -/
import Derived.Test.YtpgloooebaklmaaG6
namespace Go.Proofs.Ytpgloooebaklmaa
set_option linter.unusedSimpArgs false
set_option linter.unusedVariables false
open Go.RowKit
section
variable {w w' : World} {g : Grd} {v : Value}
set_option maxRecDepth 1000000 in
set_option maxHeartbeats 8000000 in
theorem joins_ok (h : GrdIn w g v) (hok : grdOk g = true) : Calls Try.prog 3 #[.agg (gcells g v)] w fun e w' => e = .returned (.bool true) ∧ New w w' := by
  have H := Lib.hid h
  obtain ⟨A, c, rfl, h1, h2, h3⟩ := id h.ls
  have hl : (g.lines.length : Int) ≤ 9223372036854775807 := by unfold maxLen at h2; omega
  have hok' := hok
  unfold grdOk at hok'
  simp only [Bool.and_eq_true, decide_eq_true_eq] at hok'
  obtain ⟨z1, -, z3, z4, -⟩ := hok'
  obtain ⟨n, hz, hn1, hn3⟩ : ∃ n : Nat, g.zones = (n : Int) ∧ 1 ≤ n ∧ n ≤ 3 := by
    have := fit_yes z1
    exact ⟨g.zones.toNat, by omega, by omega, by omega⟩
  have HF : Hid (∀ l ∈ g.lines, 0 ≤ l.fr ∧ l.fr < n ∧ 0 ≤ l.to' ∧ l.to' < n) := Lib.hid (by
    intro l hm
    have := List.all_eq_true.1 z4 l hm
    unfold linOk at this
    simp only [Bool.and_eq_true] at this
    have a1 := fit_yes this.1
    have a2 := fit_yes this.2.1
    omega)
  have hhv : heavyB g = false := decide_eq_false (by omega)
  have HHV := Lib.hid (fun W (hn : New w W) => heavy_c g _ W (H.out.new hn))
  have HRC := Lib.hid (fun W (hn : New w W) => rcheck_c (H.out.new hn))
  have HIC := Lib.hid (fun W (hn : New w W) => islands_c (H.out.new hn) hok)
  rw [hhv] at HHV
  rw [chkE_ok hok] at HRC
  have HBX := Lib.hid (Box.last w (gcells g (.slice A g.lines.length c)) 24)
  have HN1 : Hid (New w (w.alloc (.cells (gcells g (.slice A g.lines.length c)) 24))) := Lib.hid ((New.refl w).alloc _)
  have HL3 := Lib.hid h3
  clear h h3 hhv hok z1 z4 H
  obtain ⟨zones, hours, lines, low, high⟩ := g
  simp only at *
  subst hz
  unfold gcells at *
  simp only at *
  have hmk := made_bools (n := n) (by omega)
  go_enter Try.func3, Try.ntmps3
  go_wp2_with fail
  refine (HHV.out _ HN1.out).mono ?_
  rintro e w4 ⟨rfl, hn4⟩
  have HN4 := Lib.hid (HN1.out.trans hn4)
  have HB4 := Lib.hid (HBX.out.new hn4)
  have p0 : w4.cell? ⟨w.heap.size, 0, none⟩ = some (.int .i64 (n : Int)) := HB4.out.cell 0; have p1 : w4.cell? ⟨w.heap.size, 1, none⟩ = some (.int .i64 hours) := HB4.out.cell 1; have p2 : w4.cell? ⟨w.heap.size, 2, none⟩ = some (.slice A lines.length c) := HB4.out.cell 2; have p3 : w4.cell? ⟨w.heap.size, 3, none⟩ = some (.int .i64 low) := HB4.out.cell 3; have p4 : w4.cell? ⟨w.heap.size, 4, none⟩ = some (.int .i64 high) := HB4.out.cell 4; clear hn4 HHV HBX HN1
  go_wp2_with fail
  refine (HRC.out _ HN4.out).mono ?_
  rintro e w5 ⟨rfl, hn5⟩
  have HN5 := Lib.hid (HN4.out.trans hn5)
  have HB5 := Lib.hid (HB4.out.new hn5)
  have q0 : w5.cell? ⟨w.heap.size, 0, none⟩ = some (.int .i64 (n : Int)) := HB5.out.cell 0; have q1 : w5.cell? ⟨w.heap.size, 1, none⟩ = some (.int .i64 hours) := HB5.out.cell 1; have q2 : w5.cell? ⟨w.heap.size, 2, none⟩ = some (.slice A lines.length c) := HB5.out.cell 2; have q3 : w5.cell? ⟨w.heap.size, 3, none⟩ = some (.int .i64 low) := HB5.out.cell 3; have q4 : w5.cell? ⟨w.heap.size, 4, none⟩ = some (.int .i64 high) := HB5.out.cell 4; clear hn5 p0 p1 p2 p3 p4 HRC HN4 HB4
  go_wp2_with fail
  refine (HIC.out _ HN5.out).mono ?_
  rintro e w6 ⟨u, L, rfl, hown, hsteps, hstep, hn6⟩
  rw [Int.toNat_natCast] at hsteps
  have HI := Lib.hid (isl_of (by omega) (by unfold lnsOf; rw [List.length_map]; exact z3) (fun l hm => by
    unfold lnsOf at hm
    obtain ⟨l', hm', rfl⟩ := List.mem_map.1 hm
    have := HF.out l' hm'
    unfold lnOf
    simp only
    omega) hsteps hstep)
  obtain ⟨bl, cl, rfl, -, -, -, -, hcells⟩ := hown.at (by intro e; have := HI.out.len; rw [e] at this; simp at this; omega)
  have hLn := HI.out.len
  rw [hLn]
  have HC6 : Hid (∀ W, New w6 W → ∀ i, i < n → W.cell? ⟨bl, i, none⟩ = some (.int .i64 ((L.getD i 0 : Nat) : Int))) := Lib.hid (fun W hW i hi => by
    refine hW.still ?_
    rw [hcells i (by omega)]
    simp [nE, List.getD, List.getElem?_eq_getElem (show i < L.length by omega)])
  have HN6 := Lib.hid (HN5.out.trans hn6)
  have HB6 := Lib.hid (HB5.out.new hn6)
  have r0 : w6.cell? ⟨w.heap.size, 0, none⟩ = some (.int .i64 (n : Int)) := HB6.out.cell 0; have r1 : w6.cell? ⟨w.heap.size, 1, none⟩ = some (.int .i64 hours) := HB6.out.cell 1; have r2 : w6.cell? ⟨w.heap.size, 2, none⟩ = some (.slice A lines.length c) := HB6.out.cell 2; have r3 : w6.cell? ⟨w.heap.size, 3, none⟩ = some (.int .i64 low) := HB6.out.cell 3; have r4 : w6.cell? ⟨w.heap.size, 4, none⟩ = some (.int .i64 high) := HB6.out.cell 4; clear hn6 q0 q1 q2 q3 q4 HIC HN5 HB5 hown hsteps hstep hcells hLn
  go_wp2
  go_loopw [4] (fun v4 W => ∃ k : Nat, v4 = .int .i64 (k : Int) ∧ k ≤ n ∧ Hid (New w6 W)) (fun v4 _ => n - (intOf v4).toNat)
  case atStart => exact ⟨0, rfl, Nat.zero_le _, New.refl _⟩
  case round =>
    obtain ⟨k, rfl, hk, HN⟩ := hrel
    have HBr := Lib.hid (HB6.out.new HN.out)
    have p0 : wr.cell? ⟨w.heap.size, 0, none⟩ = some (.int .i64 (n : Int)) := HBr.out.cell 0; have p2 : wr.cell? ⟨w.heap.size, 2, none⟩ = some (.slice A lines.length c) := HBr.out.cell 2; skip
    by_cases hkn : k < n
    · have ca := HC6.out wr HN.out k hkn
      obtain ⟨l1, l2⟩ := HI.out.least k hkn
      obtain ⟨a, ha⟩ : ∃ a, a = L.getD k 0 := ⟨_, rfl⟩
      rw [← ha] at ca l1 l2
      have cb := HC6.out wr HN.out a (by omega)
      rw [l2] at cb
      have hai : (a : Int) < (n : Int) := by omega
      have hgt : decide ((k : Int) < (a : Int)) = false := decide_eq_false (by omega)
      have HNq := Lib.hid (fun nq => HN.out.trans ((New.refl wr).drewN nq))
      clear ha l2
      go_wp2
      go_quiet (fail)
      have HNd := Lib.hid (HNq.out nq)
      clear hgt
      go_wp2
      go_roundw
      case rel => exact ⟨k + 1, by go_num, by omega, HNd⟩
      case measure => simp [intOf]; omega
    · obtain rfl : n = k := by omega
      go_wp2
      go_loopw [5] (fun v5 W => ∃ k : Nat, v5 = .int .i64 (k : Int) ∧ k ≤ lines.length ∧ Hid (New w6 W)) (fun v5 _ => lines.length - (intOf v5).toNat)
      case atStart => exact ⟨0, rfl, Nat.zero_le _, HN⟩
      case round =>
        clear HN HBr p0 p2
        obtain ⟨k, rfl, hk, HN⟩ := hrel
        have HBr := Lib.hid (HB6.out.new HN.out)
        have p0 : wr.cell? ⟨w.heap.size, 0, none⟩ = some (.int .i64 (n : Int)) := HBr.out.cell 0; have p2 : wr.cell? ⟨w.heap.size, 2, none⟩ = some (.slice A lines.length c) := HBr.out.cell 2; skip
        by_cases hkl : k < lines.length
        · obtain ⟨b, o, rfl, hlt, s0, s1, s2, i0, i1, i2⟩ := HL3.out k hkl
          have t0 := (HN6.out.trans HN.out).still s0
          have t1 := (HN6.out.trans HN.out).still s1
          have t2 := (HN6.out.trans HN.out).still s2
          have HFL := Lib.hid (HF.out lines[k] (List.getElem_mem hkl))
          have HSM := Lib.hid (HI.out.same (lnOf lines[k]) (List.mem_map_of_mem (List.getElem_mem hkl)))
          generalize lines[k] = ln at *
          obtain ⟨fr, to', cap⟩ := ln
          simp only at t0 t1 t2 HFL
          clear s0 s1 s2 hlt i0 i1 i2
          obtain ⟨f0, f1, g0, g1⟩ := HFL.out
          obtain ⟨x, rfl⟩ : ∃ x : Nat, fr = (x : Int) := ⟨fr.toNat, by omega⟩
          obtain ⟨y, rfl⟩ : ∃ y : Nat, to' = (y : Int) := ⟨to'.toNat, by omega⟩
          have HNq := Lib.hid (fun nq => HN.out.trans ((New.refl wr).drewN nq))
          have hkn : (k : Int) < (lines.length : Int) := by omega
          by_cases hcap : 0 < cap
          · have hd : decide (0 < cap) = true := decide_eq_true hcap
            have hxy := HSM.out (by simp [lnOf, hcap])
            have ca := HC6.out wr HN.out x (by omega)
            have cb := HC6.out wr HN.out y (by omega)
            simp only [lnOf, Int.toNat_natCast] at hxy
            rw [← hxy] at cb
            clear hxy
            generalize L.getD x 0 = a at ca cb
            go_wp2
            go_quiet (fail)
            have HNd := Lib.hid (HNq.out nq)
            clear hd
            go_wp2
            go_roundw
            case rel => exact ⟨k + 1, by go_num, by omega, HNd⟩
            case measure => simp [intOf]; omega
          · have hd : decide (0 < cap) = false := decide_eq_false hcap
            go_wp2
            go_quiet (fail)
            have HNd := Lib.hid (HNq.out nq)
            clear hd
            go_wp2
            go_roundw
            case rel => exact ⟨k + 1, by go_num, by omega, HNd⟩
            case measure => simp [intOf]; omega
        · obtain rfl : lines.length = k := by omega
          go_wp2
          go_loopw [6] (fun v6 W => ∃ i : Nat, v6 = .int .i64 (i : Int) ∧ i ≤ n ∧ Hid (New w6 W)) (fun v6 _ => n - (intOf v6).toNat)
          case atStart => exact ⟨0, rfl, Nat.zero_le _, HN⟩
          case round =>
            clear HN HBr p0 p2
            obtain ⟨i, rfl, hi, HN⟩ := hrel
            have HBr := Lib.hid (HB6.out.new HN.out)
            have p0 : wr.cell? ⟨w.heap.size, 0, none⟩ = some (.int .i64 (n : Int)) := HBr.out.cell 0; have p2 : wr.cell? ⟨w.heap.size, 2, none⟩ = some (.slice A lines.length c) := HBr.out.cell 2; skip
            by_cases hin : i < n
            · have ca := HC6.out wr HN.out i hin
              obtain ⟨l1, -⟩ := HI.out.least i hin
              have HJ := Lib.hid (HI.out.joined i hin)
              obtain ⟨a, ha⟩ : ∃ a, a = L.getD i 0 := ⟨_, rfl⟩
              rw [← ha] at ca l1 HJ
              clear ha
              have ca' : ∀ X, (wr.alloc X).cell? ⟨bl, i, none⟩ = some (.int .i64 (a : Int)) := fun X => ((New.refl wr).alloc X).still ca
              obtain ⟨R0, hR0⟩ : ∃ R, R = (List.replicate n false).set a true := ⟨_, rfl⟩
              have hR0l : R0.length = n := by rw [hR0]; simp
              rw [← hR0] at HJ
              have HR0 := Lib.hid hR0
              clear hR0
              have HRA : Hid (RowT (wr.alloc (.cells (rowT (List.replicate n false)) 4)) wr.heap.size (List.replicate n false)) := Lib.hid (Box.last _ _ _)
              have rz : (wr.alloc (.cells (rowT (List.replicate n false)) 4)).cell? ⟨wr.heap.size, a, none⟩ = some (.bool ((List.replicate n false).getD a false)) := HRA.out.cell a (by simp; omega)
              have rf := HRA.out.frozen a
              have hai : (a : Int) < (n : Int) := by omega
              go_wp2
              clear rz rf ca' ca
              obtain ⟨W2, hW2⟩ : ∃ X, X = wr.alloc (.cells ((rowT (List.replicate n false)).setIfInBounds a (.bool true)) 4) := ⟨_, rfl⟩
              rw [← hW2]
              obtain ⟨p, hp⟩ : ∃ p, p = wr.heap.size := ⟨_, rfl⟩
              rw [← hp]
              have HT2 : Hid (RowT W2 p R0) := Lib.hid (by rw [hW2, hp, HR0.out, rowT_set]; exact Box.last _ _ _)
              have HN2 : Hid (New w6 W2) := Lib.hid (by rw [hW2]; exact HN.out.alloc _)
              have hpw : w6.heap.size ≤ p := by rw [hp]; exact HN.out.le
              clear hW2 hp HRA
              go_loopw [8] (fun v8 W => ∃ m : Nat, v8 = .int .i64 (m : Int) ∧ m ≤ n ∧ Hid (RowT W p (passes (lnsOf lines) m R0)) ∧ Hid (New w6 W)) (fun v8 _ => n - (intOf v8).toNat)
              case atStart => exact ⟨0, rfl, Nat.zero_le _, HT2, HN2⟩
              case round =>
                clear HN HBr p0 p2 HT2 HN2
                obtain ⟨m, rfl, hm, HT, HN⟩ := hrel
                have HBr := Lib.hid (HB6.out.new HN.out)
                have p0 : wr.cell? ⟨w.heap.size, 0, none⟩ = some (.int .i64 (n : Int)) := HBr.out.cell 0; have p2 : wr.cell? ⟨w.heap.size, 2, none⟩ = some (.slice A lines.length c) := HBr.out.cell 2; skip
                by_cases hmn : m < n
                · obtain ⟨RM, hRM⟩ : ∃ R, R = passes (lnsOf lines) m R0 := ⟨_, rfl⟩
                  have hRMl : RM.length = n := by rw [hRM, passes_len]; exact hR0l
                  rw [← hRM] at HT
                  have HRM := Lib.hid hRM
                  clear hRM
                  go_wp2
                  go_loopw [9] (fun v9 W => ∃ k : Nat, v9 = .int .i64 (k : Int) ∧ k ≤ lines.length ∧ Hid (RowT W p (pass RM (lnsOf (lines.take k)))) ∧ Hid (New w6 W)) (fun v9 _ => lines.length - (intOf v9).toNat)
                  case atStart => exact ⟨0, rfl, Nat.zero_le _, HT, HN⟩
                  case round =>
                    clear HN HBr p0 p2 HT
                    obtain ⟨k, rfl, hk, HT, HN⟩ := hrel
                    have HBr := Lib.hid (HB6.out.new HN.out)
                    have p0 : wr.cell? ⟨w.heap.size, 0, none⟩ = some (.int .i64 (n : Int)) := HBr.out.cell 0; have p2 : wr.cell? ⟨w.heap.size, 2, none⟩ = some (.slice A lines.length c) := HBr.out.cell 2; skip
                    by_cases hkl : k < lines.length
                    · obtain ⟨b, o, rfl, hlt, s0, s1, s2, i0, i1, i2⟩ := HL3.out k hkl
                      have t0 := (HN6.out.trans HN.out).still s0
                      have t1 := (HN6.out.trans HN.out).still s1
                      have t2 := (HN6.out.trans HN.out).still s2
                      have HFL := Lib.hid (HF.out lines[k] (List.getElem_mem hkl))
                      have HTK := Lib.hid (lns_take hkl)
                      generalize lines[k] = ln at *
                      obtain ⟨fr, to', cap⟩ := ln
                      simp only at t0 t1 t2 HFL
                      clear s0 s1 s2 hlt i0 i1 i2
                      obtain ⟨f0, f1, g0, g1⟩ := HFL.out
                      obtain ⟨x, rfl⟩ : ∃ x : Nat, fr = (x : Int) := ⟨fr.toNat, by omega⟩
                      obtain ⟨y, rfl⟩ : ∃ y : Nat, to' = (y : Int) := ⟨to'.toNat, by omega⟩
                      have hkn : (k : Int) < (lines.length : Int) := by omega
                      have HNX : Hid (pass RM (lnsOf (lines.take (k + 1))) = _) := Lib.hid (by rw [HTK.out, lnOf_eq, pass_one])
                      obtain ⟨RK, hRK⟩ : ∃ R, R = pass RM (lnsOf (lines.take k)) := ⟨_, rfl⟩
                      have hRKl : RK.length = n := by rw [hRK, pass_len]; exact hRMl
                      rw [← hRK] at HT HNX
                      clear hRK HTK
                      have HA : Hid (RowT (wr.alloc (.cells #[.int .i64 (x : Int), .int .i64 (y : Int), .int .i64 cap] 31)) p RK) := Lib.hid (HT.out.new ((New.refl wr).alloc _))
                      have HLB : Hid (Box (wr.alloc (.cells #[.int .i64 (x : Int), .int .i64 (y : Int), .int .i64 cap] 31)) wr.heap.size #[.int .i64 (x : Int), .int .i64 (y : Int), .int .i64 cap] 31) := Lib.hid (Box.last _ _ _)
                      have hpl := HT.out.lt
                      have ra := HA.out.cell x (by omega)
                      have rb := HA.out.cell y (by omega)
                      have fx := HA.out.frozen x
                      by_cases hcap : 0 < cap
                      · have hd : decide (0 < cap) = true := decide_eq_true hcap
                        obtain ⟨bx, hbx⟩ : ∃ q, q = RK.getD x false := ⟨_, rfl⟩
                        obtain ⟨by', hby⟩ : ∃ q, q = RK.getD y false := ⟨_, rfl⟩
                        rw [← hbx, ← hby, hd] at HNX
                        rw [← hbx] at ra
                        rw [← hby] at rb
                        clear hbx hby
                        cases bx
                        · cases by'
                          · have HTE : Hid (RowT (wr.alloc (.cells #[.int .i64 (x : Int), .int .i64 (y : Int), .int .i64 cap] 31)) p (pass RM (lnsOf (lines.take (k + 1))))) := Lib.hid (by rw [HNX.out, if_neg (by simp [*])]; exact HA.out)
                            have HNE : Hid (New w6 (wr.alloc (.cells #[.int .i64 (x : Int), .int .i64 (y : Int), .int .i64 cap] 31))) := Lib.hid (HN.out.alloc _)
                            clear HNX
                            go_wp2
                            go_roundw
                            case rel => exact ⟨k + 1, by go_num, by omega, HTE, HNE⟩
                            case measure => simp [intOf]; omega
                          · have HTE : Hid (RowT (((wr.setCell ⟨p, x, none⟩ (.bool true)).setCell ⟨p, y, none⟩ (.bool true)).alloc (.cells #[.int .i64 (x : Int), .int .i64 (y : Int), .int .i64 cap] 31)) p (pass RM (lnsOf (lines.take (k + 1))))) := Lib.hid (by rw [HNX.out, if_pos (by simp [*])]; exact ((HT.out.put x true).put y true).new ((New.refl _).alloc _))
                            have HNE : Hid (New w6 (((wr.setCell ⟨p, x, none⟩ (.bool true)).setCell ⟨p, y, none⟩ (.bool true)).alloc (.cells #[.int .i64 (x : Int), .int .i64 (y : Int), .int .i64 cap] 31))) := Lib.hid (((HN.out.setCell (p := ⟨p, x, none⟩) hpw _).setCell (p := ⟨p, y, none⟩) hpw _).alloc _)
                            have HRB : Hid (RowT ((wr.setCell ⟨p, x, none⟩ (.bool true)).alloc (.cells #[.int .i64 (x : Int), .int .i64 (y : Int), .int .i64 cap] 31)) p (RK.set x true)) := Lib.hid ((HT.out.put x true).new ((New.refl _).alloc _))
                            have hsz : (wr.setCell ⟨p, x, none⟩ (.bool true)).heap.size = wr.heap.size := by simp
                            have HLC : Hid (Box ((wr.setCell ⟨p, x, none⟩ (.bool true)).alloc (.cells #[.int .i64 (x : Int), .int .i64 (y : Int), .int .i64 cap] 31)) wr.heap.size #[.int .i64 (x : Int), .int .i64 (y : Int), .int .i64 cap] 31) := Lib.hid (by have := Box.last (wr.setCell ⟨p, x, none⟩ (.bool true)) #[.int .i64 (x : Int), .int .i64 (y : Int), .int .i64 cap] 31; rwa [hsz] at this)
                            have e0 : ((wr.setCell ⟨p, x, none⟩ (.bool true)).alloc (.cells #[.int .i64 (x : Int), .int .i64 (y : Int), .int .i64 cap] 31)).cell? ⟨wr.heap.size, 1, none⟩ = some (.int .i64 (y : Int)) := HLC.out.cell 1
                            have e1 : ((wr.setCell ⟨p, x, none⟩ (.bool true)).alloc (.cells #[.int .i64 (x : Int), .int .i64 (y : Int), .int .i64 cap] 31)).cell? ⟨p, y, none⟩ = some (.bool ((RK.set x true).getD y false)) := HRB.out.cell y (by rw [List.length_set, hRKl]; omega)
                            have e2 := HRB.out.frozen y
                            clear HNX hsz
                            go_wp2
                            go_roundw
                            case rel => exact ⟨k + 1, by go_num, by omega, HTE, HNE⟩
                            case measure => simp [intOf]; omega
                        · have HTE : Hid (RowT (((wr.setCell ⟨p, x, none⟩ (.bool true)).setCell ⟨p, y, none⟩ (.bool true)).alloc (.cells #[.int .i64 (x : Int), .int .i64 (y : Int), .int .i64 cap] 31)) p (pass RM (lnsOf (lines.take (k + 1))))) := Lib.hid (by rw [HNX.out, if_pos (by simp [*])]; exact ((HT.out.put x true).put y true).new ((New.refl _).alloc _))
                          have HNE : Hid (New w6 (((wr.setCell ⟨p, x, none⟩ (.bool true)).setCell ⟨p, y, none⟩ (.bool true)).alloc (.cells #[.int .i64 (x : Int), .int .i64 (y : Int), .int .i64 cap] 31))) := Lib.hid (((HN.out.setCell (p := ⟨p, x, none⟩) hpw _).setCell (p := ⟨p, y, none⟩) hpw _).alloc _)
                          have HRB : Hid (RowT ((wr.setCell ⟨p, x, none⟩ (.bool true)).alloc (.cells #[.int .i64 (x : Int), .int .i64 (y : Int), .int .i64 cap] 31)) p (RK.set x true)) := Lib.hid ((HT.out.put x true).new ((New.refl _).alloc _))
                          have hsz : (wr.setCell ⟨p, x, none⟩ (.bool true)).heap.size = wr.heap.size := by simp
                          have HLC : Hid (Box ((wr.setCell ⟨p, x, none⟩ (.bool true)).alloc (.cells #[.int .i64 (x : Int), .int .i64 (y : Int), .int .i64 cap] 31)) wr.heap.size #[.int .i64 (x : Int), .int .i64 (y : Int), .int .i64 cap] 31) := Lib.hid (by have := Box.last (wr.setCell ⟨p, x, none⟩ (.bool true)) #[.int .i64 (x : Int), .int .i64 (y : Int), .int .i64 cap] 31; rwa [hsz] at this)
                          have e0 : ((wr.setCell ⟨p, x, none⟩ (.bool true)).alloc (.cells #[.int .i64 (x : Int), .int .i64 (y : Int), .int .i64 cap] 31)).cell? ⟨wr.heap.size, 1, none⟩ = some (.int .i64 (y : Int)) := HLC.out.cell 1
                          have e1 : ((wr.setCell ⟨p, x, none⟩ (.bool true)).alloc (.cells #[.int .i64 (x : Int), .int .i64 (y : Int), .int .i64 cap] 31)).cell? ⟨p, y, none⟩ = some (.bool ((RK.set x true).getD y false)) := HRB.out.cell y (by rw [List.length_set, hRKl]; omega)
                          have e2 := HRB.out.frozen y
                          clear HNX hsz
                          go_wp2
                          go_roundw
                          case rel => exact ⟨k + 1, by go_num, by omega, HTE, HNE⟩
                          case measure => simp [intOf]; omega
                      · have hd : decide (0 < cap) = false := decide_eq_false hcap
                        rw [hd] at HNX
                        have HTE : Hid (RowT (wr.alloc (.cells #[.int .i64 (x : Int), .int .i64 (y : Int), .int .i64 cap] 31)) p (pass RM (lnsOf (lines.take (k + 1))))) := Lib.hid (by rw [HNX.out, if_neg (by simp [*])]; exact HA.out)
                        have HNE : Hid (New w6 (wr.alloc (.cells #[.int .i64 (x : Int), .int .i64 (y : Int), .int .i64 cap] 31))) := Lib.hid (HN.out.alloc _)
                        clear HNX
                        go_wp2
                        go_roundw
                        case rel => exact ⟨k + 1, by go_num, by omega, HTE, HNE⟩
                        case measure => simp [intOf]; omega
                    · obtain rfl : lines.length = k := by omega
                      rw [List.take_length] at HT
                      go_wp2
                      go_roundw
                      case rel => exact ⟨m + 1, by go_num, by omega, Lib.hid (by have := HT.out; rw [HRM.out] at this; exact this), HN⟩
                      case measure => simp [intOf]; omega

                · obtain rfl : n = m := by omega
                  have ci := HT.out.cell i (by rw [passes_len, hR0l]; exact hin)
                  rw [HJ.out] at ci
                  go_wp2
                  go_roundw
                  case rel => exact ⟨i + 1, by go_num, by omega, HN⟩
                  case measure => simp [intOf]; omega

            · obtain rfl : n = i := by omega
              go_wp2
              go_ret
              exact ⟨rfl, HN6.out.trans HN.out⟩



end
end Go.Proofs.Ytpgloooebaklmaa
