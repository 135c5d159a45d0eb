/- The law DiskOrders, walked. -/
import Derived.Test.YtjeaejeikgkcaaaP1
import Derived.Test.YtjeaejeikgkcaaaO1
namespace Go.Proofs.Ytjeaejeikgkcaaa
set_option linter.unusedSimpArgs false
set_option linter.unusedVariables false
open Go.RowKit
theorem ordRel_max {x : Int} (h : i8ok x) : ordRel (max 0 x) (max x 0) 0 := by unfold i8ok ordRel at *; omega
set_option maxRecDepth 100000 in
set_option maxHeartbeats 4000000 in
theorem diskOrders_walk (cs : List Int) (v0 : Value) (fs : List Int) (v1 : Value) (n : Int) (w : World) (h0 : SlE (Value.int .i8) w v0 cs ∧ ∀ x ∈ cs, i8ok x) (h1 : SlE (Value.int .i8) w v1 fs ∧ ∀ x ∈ fs, i8ok x) (n0 : 0 ≤ n) (n1 : n ≤ 255) :
    Calls Try.prog 3 #[v0, v1, .int .u8 n] w fun e w' => e = .returned (.bool true) ∧ New w w' := by
  obtain ⟨A0, c0, rfl, b0, m0, g0⟩ := h0.1
  obtain ⟨A1, c1, rfl, b1, m1, g1⟩ := h1.1
  by_cases hl0 : cs.length ≤ 64
  · by_cases hl1 : fs.length ≤ 64
    · have HX0 := Lib.hid h0
      have HX1 := Lib.hid h1
      have G0 := Lib.hid g0
      have G1 := Lib.hid g1
      clear h0 h1 g0 g1
      go_enter Try.func3, Try.ntmps3
      go_wp2_with fail
      refine (dnew_c w).mono ?_
      rintro e w1 ⟨rfl, hd, hn⟩
      have HL := Lib.hid (LD.fresh (New.refl w) hd hn)
      have hp : w.heap.size = w.heap.size := rfl
      generalize hF : (fun k => k = w.heap.size) = F at HL
      clear hF hd hn hp
      generalize w.heap.size = p at *
      go_wp2
      go_loopw [8, 10] (fun v8 v10 w' => ∃ (k : Nat) (C : Int) (d : DS), v8 = .int .i64 C ∧ v10 = .int .i64 (k : Int) ∧ k ≤ cs.length ∧ Hid (LD w w' p F d []) ∧ Hid (d.dead = false ∧ d.failing = false ∧ d.ops = 0 ∧ ordRel C d.cut 0 ∧ d.fail = -1)) (fun _ v10 _ => cs.length - (intOf v10).toNat)
      case atStart => exact ⟨0, 1048576, dsNew, rfl, rfl, Nat.zero_le _, HL.out, rfl, rfl, rfl, .inl ⟨rfl, rfl⟩, rfl⟩
      case round =>
        obtain ⟨k, C, d, rfl, rfl, hk, HD, HI⟩ := hrel
        by_cases hkl : k < cs.length
        · obtain ⟨b, o, rfl, hlt, hcell⟩ := G0.out k hkl
          have hx := HX0.out.2 _ (List.getElem_mem hkl)
          generalize cs[k] = x at *
          unfold i8ok at hx
          obtain ⟨hx0, hx1⟩ := hx
          have hcw := HD.out.nw.still hcell
          have HC := Lib.hid (dcut_c HD.out.dsk x 0 (by omega) (by omega) (by omega))
          clear hlt
          go_wp2_with fail
          refine (HC.out).mono ?_
          rintro e w2 ⟨rfl, hd2, hb2⟩
          have HD2 := Lib.hid (HD.out.same hd2 hb2)
          have hcw2 := HD2.out.nw.still hcell
          clear hd2 hb2 HC
          obtain ⟨i1, i2, i3, i4, i5⟩ := HI.out
          have HI2 : Hid (d.dead = false ∧ d.failing = false ∧ d.ops = 0 ∧ ordRel (max 0 x) (max x 0) 0 ∧ d.fail = -1) := Lib.hid ⟨i1, i2, i3, ordRel_max ⟨hx0, hx1⟩, i5⟩
          clear i1 i2 i3 i4 i5 HI
          go_wp2
          go_roundw
          case rel => exact ⟨k + 1, max 0 x, _, rfl, by go_num, by omega, HD2.out, HI2.out⟩
          case measure => simp [intOf]; omega
        · obtain rfl : k = cs.length := by omega
          clear hk hkl
          go_wp2
          go_loopw [9, 11] (fun v9 v11 w' => ∃ (k : Nat) (X : Int) (d : DS), v9 = .int .i64 X ∧ v11 = .int .i64 (k : Int) ∧ k ≤ fs.length ∧ Hid (LD w w' p F d []) ∧ Hid (d.dead = false ∧ d.failing = false ∧ d.ops = 0 ∧ ordRel C d.cut 0 ∧ ordRel X d.fail 0)) (fun _ v11 _ => fs.length - (intOf v11).toNat)
          case atStart =>
            obtain ⟨i1, i2, i3, i4, i5⟩ := HI.out
            exact ⟨0, 1048576, d, rfl, rfl, Nat.zero_le _, HD.out, i1, i2, i3, i4, .inl ⟨rfl, i5⟩⟩
          case round =>
            clear HD HI
            clear d
            obtain ⟨k, X, d, rfl, rfl, hk, HD, HI⟩ := hrel
            by_cases hkl : k < fs.length
            · obtain ⟨b, o, rfl, hlt, hcell⟩ := G1.out k hkl
              have hx := HX1.out.2 _ (List.getElem_mem hkl)
              generalize fs[k] = x at *
              unfold i8ok at hx
              obtain ⟨hx0, hx1⟩ := hx
              have hcw := HD.out.nw.still hcell
              have HC := Lib.hid (dfail_c HD.out.dsk x (by omega))
              clear hlt
              go_wp2_with fail
              refine (HC.out).mono ?_
              rintro e w2 ⟨rfl, hd2, hb2⟩
              have HD2 := Lib.hid (HD.out.same hd2 hb2)
              have hcw2 := HD2.out.nw.still hcell
              clear hd2 hb2 HC
              obtain ⟨i1, i2, i3, i4, i5⟩ := HI.out
              have HI2 : Hid (d.dead = false ∧ d.failing = false ∧ d.ops = 0 ∧ ordRel C d.cut 0 ∧ ordRel (max 0 x) (max x 0) 0) := Lib.hid ⟨i1, i2, i3, i4, ordRel_max ⟨hx0, hx1⟩⟩
              clear i1 i2 i3 i4 i5 HI
              go_wp2
              go_roundw
              case rel => exact ⟨k + 1, max 0 x, _, rfl, by go_num, by omega, HD2.out, HI2.out⟩
              case measure => simp [intOf]; omega
            · obtain rfl : k = fs.length := by omega
              clear hk hkl
              have HC : Hid ((C = 1048576 ∨ 0 ≤ C ∧ C ≤ 127) ∧ (X = 1048576 ∨ 0 ≤ X ∧ X ≤ 127)) := by
                obtain ⟨i1, i2, i3, i4, i5⟩ := HI.out
                unfold ordRel at i4 i5
                exact Lib.hid ⟨by omega, by omega⟩
              have HI3 : Hid (ordInv d C X 0) := by
                obtain ⟨i1, i2, i3, i4, i5⟩ := HI.out
                exact Lib.hid (.inl ⟨by have := HC.out; omega, by have := HC.out; omega, i1, i2, i3, i4, i5⟩)
              clear HI
              obtain ⟨m, hm⟩ : ∃ m : Int, m = n % 40 := ⟨_, rfl⟩
              have hm0 : 0 ≤ m := by omega
              have hm1 : m < 40 := by omega
              have HM := Lib.hid hm
              have hconv : n.tmod 40 = m := by rw [hm]; exact Int.tmod_eq_emod_of_nonneg n0
              have HCV := Lib.hid hconv
              clear hm hconv
              go_wp2
              go_loopw [12] (fun v12 w' => ∃ (k : Nat) (d : DS) (l : List Nat) (F : Nat → Prop), v12 = .int .i64 (k : Int) ∧ (k : Int) ≤ m ∧ Hid (LD w w' p F d l) ∧ Hid (ordInv d C X k)) (fun v12 _ => 40 - (intOf v12).toNat)
              case atStart => exact ⟨0, d, [], F, rfl, by omega, HD.out, HI3.out⟩
              case round =>
                clear HD HI3
                clear d
                obtain ⟨k, d, l, F, rfl, hk, HD, HI⟩ := hrel
                have hcv := HCV.out
                by_cases hkl : (k : Int) < m
                · have HS := Lib.hid (ord_step l ⟨#[120]⟩ (by decide) (by omega : (0 : Int) ≤ k) (by omega) HI.out)
                  have HW := Lib.hid (write_c HD.out.dsk (ord_ops (by omega) HI.out) k ⟨#[120]⟩ (by decide))
                  rw [HS.out.1] at HW
                  have HS2 := Lib.hid HS.out.2
                  clear HS
                  by_cases p1 : X ≤ k <;> by_cases p2 : C ≤ k <;> by_cases p3 : C ≤ X
                  all_goals
                    have hW := HW.out
                    simp only [ordWant, p1, p2, p3, and_self, and_true, true_and, and_false, false_and, if_true, if_false] at hW
                    have HW2 := Lib.hid hW
                    clear hW HW
                    go_wp2_with fail
                    refine (HW2.out).mono ?_
                    rintro e w2 ⟨rfl, F2, hd2, hb2, hs2⟩
                    have HD2 := Lib.hid (HD.out.step hd2 hb2 hs2)
                    clear hd2 hb2 hs2 HW2
                    go_wp2
                    go_roundw
                    case rel => exact ⟨k + 1, _, _, F2, by go_num, by omega, HD2.out, HS2.out⟩
                    case measure => simp [intOf]; omega
                · have hkm : m = (k : Int) := by omega
                  subst hkm
                  have HE := Lib.hid (ord_end HI.out)
                  have HDD := Lib.hid (ddead_c HD.out.dsk)
                  have HDO := Lib.hid (dops_c HD.out.dsk)
                  rw [HE.out.1] at HDD
                  rw [HE.out.2] at HDO
                  have hm2 : (min (min C X) (k : Int)) = min (min C X) k := rfl
                  obtain ⟨mi, hmi⟩ : ∃ mi, mi = min (min C X) (k : Int) := ⟨_, rfl⟩
                  have HMI := Lib.hid hmi
                  rw [← hmi] at HDO
                  clear hmi hm2 HE HI
                  by_cases p1 : C < (k : Int) <;> by_cases p2 : C ≤ X
                  all_goals
                    simp only [p1, p2, decide_true, decide_false, Bool.and_true, Bool.and_false, Bool.and_self, Bool.false_and, Bool.true_and] at HDD
                    go_wp2_with fail
                    refine (HDD.out).mono ?_
                    rintro e w2 ⟨rfl, rfl⟩
                    go_wp2_with fail
                    refine (HDO.out).mono ?_
                    rintro e w2 ⟨rfl, rfl⟩
                    go_wp2
                    all_goals
                      go_ret
                      have hmi := HMI.out
                      refine ⟨?_, HD.out.nw⟩
                      first
                        | (refine (congrArg (fun b => Ending.returned (.bool b)) (beq_iff_eq.2 (?_ : mi = _))).trans rfl; omega)
                        | (refine (congrArg (fun b => Ending.returned (.bool b)) (?_ : (!decide (C ≤ X) && mi == _) = true)).trans rfl; rw [decide_eq_false (by omega), Bool.not_false, Bool.true_and, beq_iff_eq]; omega)
    · go_enter Try.func3, Try.ntmps3
      go_wp2
      go_ret
      exact ⟨rfl, New.refl _⟩
  · go_enter Try.func3, Try.ntmps3
    go_wp2
    go_ret
    exact ⟨rfl, New.refl _⟩
end Go.Proofs.Ytjeaejeikgkcaaa
