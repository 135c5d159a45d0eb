/- The law DiskFails, walked. -/
import Derived.Test.YtjeaejeikgkcaaaP2
import Derived.Test.YtjeaejeikgkcaaaO1
namespace Go.Proofs.Ytjeaejeikgkcaaa
set_option linter.unusedSimpArgs false
set_option linter.unusedVariables false
open Go.RowKit
set_option maxRecDepth 100000 in
set_option maxHeartbeats 4000000 in
theorem diskFails_walk (n : Int) (ss : List ByteArray) (v1 : Value) (w : World) (n0 : -9223372036854775808 ≤ n) (n1 : n ≤ 9223372036854775807) (h1 : SlE Value.string w v1 ss ∧ ∀ s ∈ ss, s.size ≤ maxLen) :
    Calls Try.prog 7 #[.int .i64 n, v1] w fun e w' => e = .returned (.bool true) ∧ New w w' := by
  obtain ⟨A1, c1, rfl, b1, m1, g1⟩ := h1.1
  by_cases hl1 : ss.length ≤ 256
  · have HX1 := Lib.hid h1
    have G1 := Lib.hid g1
    clear h1 g1
    go_enter Try.func7, Try.ntmps7
    go_wp2_with fail
    refine (dnew_c w).mono ?_
    rintro e w1 ⟨rfl, hd, hn⟩
    have HL := Lib.hid (LD.fresh (New.refl w) hd hn)
    generalize hF : (fun k => k = w.heap.size) = F at HL
    clear hF hd hn
    generalize w.heap.size = p at *
    have HC := Lib.hid (dfail_c HL.out.dsk n n1)
    go_wp2_with fail
    refine (HC.out).mono ?_
    rintro e w2 ⟨rfl, hd2, hb2⟩
    have HD0 := Lib.hid (HL.out.same hd2 hb2)
    have HI0 : Hid (failInv { dsNew with fail := max n 0 } n 0) := Lib.hid (.inl ⟨rfl, rfl, rfl, rfl, by show max n 0 = _; omega, by omega, by omega⟩)
    generalize hd0 : ({ dsNew with fail := max n 0 } : DS) = d0 at *
    clear hd0 hd2 hb2 HC HL
    go_wp2
    go_loopw [6, 7] (fun v6 v7 w' => ∃ (k : Nat) (D : Int) (d : DS) (l : List Nat) (F : Nat → Prop), v6 = .int .i64 D ∧ v7 = .int .i64 (k : Int) ∧ k ≤ ss.length ∧ D ≤ k ∧ 0 ≤ D ∧ Hid (LD w w' p F d l) ∧ Hid (failInv d n D)) (fun _ v7 _ => ss.length - (intOf v7).toNat)
    case atStart => exact ⟨0, 0, d0, [], F, rfl, rfl, Nat.zero_le _, by omega, by omega, HD0.out, HI0.out⟩
    case round =>
      clear HD0 HI0
      obtain ⟨k, D, d, l, F, rfl, rfl, hk, hD, hD0, HD, HI⟩ := hrel
      have HO := Lib.hid (fl_ops HI.out)
      by_cases hkl : k < ss.length
      · obtain ⟨b, o, rfl, hlt, hcell⟩ := G1.out k hkl
        have hx := HX1.out.2 _ (List.getElem_mem hkl)
        generalize ss[k] = s at *
        unfold maxLen at hx
        have hcw := HD.out.nw.still hcell
        have hf : fitB (k : Int) = true := fitB_yes (by omega) (by omega)
        have hmod : (k : Int).tmod 256 = (k : Int) := by
          rw [Int.tmod_eq_emod_of_nonneg (by omega)]; omega
        have HW := Lib.hid (write_c HD.out.dsk (by have := HO.out; omega) k s hx)
        have HF := Lib.hid hf
        clear hlt hf
        by_cases hbig : 256 < s.size
        · obtain ⟨e1, e2⟩ := fl_big (d := d) HF.out hbig l
          rw [e1, e2] at HW
          clear e1 e2
          go_wp2_with fail
          refine (HW.out).mono ?_
          rintro e w2 ⟨rfl, F2, hd2, hb2, hs2⟩
          have HD2 := Lib.hid (HD.out.step hd2 hb2 hs2)
          have hcw2 := HD2.out.nw.still hcell
          clear hd2 hb2 hs2 HW
          go_wp2
          go_roundw
          case rel => exact ⟨k + 1, D, d, _, F2, rfl, by go_num, by omega, by omega, by omega, HD2.out, HI.out⟩
          case measure => simp [intOf]; omega
        · by_cases hDn : D < n
          · obtain ⟨e1, e2, e3⟩ := fl_ok HI.out HF.out (by omega : s.size ≤ 256) hDn l HD.out.dsk.l1
            rw [e1] at HW
            have E2 := Lib.hid e2
            have E3 := Lib.hid e3
            clear e1 e2 e3
            go_wp2_with fail
            refine (HW.out).mono ?_
            rintro e w2 ⟨rfl, F2, hd2, hb2, hs2⟩
            have HD2 := Lib.hid (HD.out.step hd2 hb2 hs2)
            have hcw2 := HD2.out.nw.still hcell
            have HR := Lib.hid (dread_c hd2 (k : Int))
            simp only [HF.out, if_true, E3.out] at HR
            clear hd2 hb2 hs2 HW
            go_wp2_with fail
            refine (HR.out).mono ?_
            rintro e w3 ⟨rfl, rfl⟩
            go_wp2
            go_roundw
            case rel => exact ⟨k + 1, D + 1, _, _, F2, rfl, by go_num, by omega, by omega, by omega, HD2.out, E2.out⟩
            case measure => simp [intOf]; omega
          · obtain ⟨e1, e2, e3, e4⟩ := fl_bad HI.out HF.out (by omega : s.size ≤ 256) hDn l
            rw [e1] at HW
            have E2 := Lib.hid e2
            have E3 := Lib.hid e3
            have E4 := Lib.hid e4
            have O2 := Lib.hid (fl_ops e2)
            clear e1 e2 e3 e4
            go_wp2_with fail
            refine (HW.out).mono ?_
            rintro e w2 ⟨rfl, F2, hd2, hb2, hs2⟩
            have HD2 := Lib.hid (HD.out.step hd2 hb2 hs2)
            have hcw2 := HD2.out.nw.still hcell
            have HR := Lib.hid (sync_c hd2 (by have := O2.out; omega))
            rw [E3.out, E4.out] at HR
            clear hd2 hb2 hs2 HW
            go_wp2_with fail
            refine (HR.out).mono ?_
            rintro e w3 ⟨rfl, hd3, hb3⟩
            have HD3 := Lib.hid (HD2.out.same hd3 hb3)
            clear hd3 hb3 HR
            go_wp2
            go_roundw
            case rel => exact ⟨k + 1, D, _, _, F2, rfl, by go_num, by omega, by omega, by omega, HD3.out, E2.out⟩
            case measure => simp [intOf]; omega
      · have HP := Lib.hid (dpower_c HD.out.dsk)
        go_wp2_with fail
        refine (HP.out).mono ?_
        rintro e w2 ⟨rfl, hd2, hb2⟩
        have HD2 := Lib.hid (HD.out.same hd2 hb2)
        have HQ := Lib.hid (dops_c hd2)
        have HS := Lib.hid (sync_c hd2 (by show d.ops ≤ _; have := HO.out; omega))
        rw [fl_end HI.out] at HS
        simp only [HO.out.1] at HQ
        clear hd2 hb2 HP
        go_wp2_with fail
        refine (HQ.out).mono ?_
        rintro e w3 ⟨rfl, rfl⟩
        go_wp2_with fail
        refine (HS.out).mono ?_
        rintro e w4 ⟨rfl, hd4, hb4⟩
        have HD4 := Lib.hid (HD2.out.same hd4 hb4)
        have HE := Lib.hid (ddead_c hd4)
        have he : (syD { d with dead := false, failing := false, cut := -1, fail := -1 } l).dead = false := by
          simp [syD, rawE, rawD]
        rw [he] at HE
        clear hd4 hb4 he HS HQ
        go_wp2_with fail
        refine (HE.out).mono ?_
        rintro e w5 ⟨rfl, rfl⟩
        go_wp2
        go_ret
        exact ⟨rfl, HD4.out.nw⟩
  · go_enter Try.func7, Try.ntmps7
    go_wp2
    go_ret
    exact ⟨rfl, New.refl _⟩
end Go.Proofs.Ytjeaejeikgkcaaa
