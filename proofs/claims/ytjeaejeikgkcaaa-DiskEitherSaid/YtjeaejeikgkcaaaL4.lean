/- The law DiskEither, walked. -/
import Derived.Test.YtjeaejeikgkcaaaP3
import Derived.Test.YtjeaejeikgkcaaaO1
import Derived.RegionTactic
import Derived.Deep.RegionHeld3
import Derived.BigRegion
namespace Go.Proofs.Ytjeaejeikgkcaaa
set_option linter.unusedSimpArgs false
set_option linter.unusedVariables false
open Go.RowKit
theorem Dsk.drew {w : World} {p : Nat} {F : Nat → Prop} {d : DS} {l : List Nat} (h : Dsk w p F d l) : Dsk w.drew p F d l := by
  obtain ⟨c, k1, k2, k3⟩ := h.own
  exact ⟨⟨c, k1.drew, k2.new (New.refl _).drew, k3⟩, h.fp, h.lt, h.wf, h.hl, h.len⟩
theorem LD.drew {w0 w : World} {p : Nat} {F : Nat → Prop} {d : DS} {l : List Nat} (h : LD w0 w p F d l) : LD w0 w.drew p F d l := h.same h.dsk.drew (But.refl _ _).drew
set_option maxRecDepth 1000000 in
set_option maxHeartbeats 8000000 in
theorem diskEither_walk (aa : List ByteArray) (v0 : Value) (bs : List ByteArray) (v1 : Value) (keep : Int) (w : World) (h0 : SlE Value.string w v0 aa ∧ ∀ s ∈ aa, s.size ≤ maxLen) (h1 : SlE Value.string w v1 bs ∧ ∀ s ∈ bs, s.size ≤ maxLen) (n0 : 0 ≤ keep) (n1 : keep ≤ 18446744073709551615) :
    Calls Try.prog 4 #[v0, v1, .int .u64 keep] w fun e w' => e = .returned (.bool true) ∧ New w w' := by
  obtain ⟨A0, c0, rfl, b0, m0, g0⟩ := h0.1
  obtain ⟨A1, c1, rfl, b1, m1, g1⟩ := h1.1
  by_cases hl0 : aa.length ≤ 256
  · by_cases hl1 : bs.length ≤ 256
    · have HX0 := Lib.hid h0
      have HX1 := Lib.hid h1
      have G0 := Lib.hid g0
      have G1 := Lib.hid g1
      have HK := Lib.hid (⟨n0, n1⟩ : 0 ≤ keep ∧ keep ≤ 18446744073709551615)
      clear h0 h1 g0 g1 n0 n1
      go_enter Try.func4, Try.ntmps4
      go_wp2_with fail
      refine (dnew_c w).mono ?_
      rintro e w1 ⟨rfl, hd, hn⟩
      have HL := Lib.hid (LD.fresh (New.refl w) hd hn)
      generalize hF : (fun k => k = w.heap.size) = F at HL
      clear hF hd hn
      generalize w.heap.size = p at *
      go_wp2
      go_loopw [8] (fun v8 w' => ∃ (k : Nat) (d : DS) (l : List Nat) (F : Nat → Prop), v8 = .int .i64 (k : Int) ∧ k ≤ aa.length ∧ Hid (LD w w' p F d l) ∧ Hid (EA d aa k)) (fun v8 _ => aa.length - (intOf v8).toNat)
      case atStart => exact ⟨0, dsNew, [], F, rfl, Nat.zero_le _, HL.out, EA.new _⟩
      case round =>
        clear HL
        clear F
        obtain ⟨k, d, l, F, rfl, hk, HD, HI⟩ := hrel
        by_cases hkl : k < aa.length
        · obtain ⟨b, o, rfl, hlt, hcell⟩ := G0.out k hkl
          have hx := HX0.out.2 _ (List.getElem_mem hkl)
          obtain ⟨e1, e2⟩ := HI.out.step hkl (by omega) HD.out.dsk.l1 l
          generalize aa[k] = s at *
          unfold maxLen at hx
          have hcw := HD.out.nw.still hcell
          have HDd := Lib.hid HD.out.drew
          have HW := Lib.hid (write_c HDd.out.dsk (by have := HI.out.ops; omega) k s hx)
          rw [e2] at HW
          have E1 := Lib.hid e1
          clear e1 e2 hlt
          have hsi : (256 < s.size ∧ ¬ ((s.size : Int) ≤ 256)) ∨ (¬ 256 < s.size ∧ (s.size : Int) ≤ 256) := by omega
          rcases hsi with ⟨hs, hsi⟩ | ⟨hs, hsi⟩
          all_goals
            simp only [hs, if_true, if_false] at HW
            go_wp2_with fail
            go_region_held3 (fun V => V.cell? ⟨b, o + k, none⟩ = some (.string s)) (first | exact hcw2 | exact hcw) ((go_at_call 12; refine HW.out.mono ?_; rintro e w2 ⟨rfl, F2, hd2, hb2, hs2⟩; have HD2 := Lib.hid (HDd.out.step hd2 hb2 hs2); have hcw2 : w2.cell? ⟨b, o + k, none⟩ = some (.string s) := HD2.out.nw.still hcell; clear hd2 hb2 hs2))
            all_goals
              go_wp2
              go_roundw
              case rel => exact ⟨k + 1, _, _, F2, by go_num, by omega, HD2.out, E1.out⟩
              case measure => simp [intOf]; omega
        · obtain rfl : k = aa.length := by omega
          have HS := Lib.hid (sync_c HD.out.dsk (by have := HI.out.ops; omega))
          rw [HI.out.pl.raw] at HS
          have HB0 := Lib.hid (EB.start HI.out hl0 bs l)
          obtain ⟨d2, hd2⟩ : ∃ d2, d2 = syD d l := ⟨_, rfl⟩
          obtain ⟨l2, hl2⟩ : ∃ l2, l2 = syL d l := ⟨_, rfl⟩
          rw [← hd2, ← hl2] at HS HB0
          clear hd2 hl2 HI hk hkl
          go_wp2_with fail
          refine HS.out.mono ?_
          rintro e w2 ⟨rfl, hd2, hb2⟩
          have HD2 := Lib.hid (HD.out.same hd2 hb2)
          clear hd2 hb2 HD HS
          clear d l
          go_wp2
          go_loopw [9] (fun v9 w' => ∃ (k : Nat) (d : DS) (l : List Nat) (F : Nat → Prop), v9 = .int .i64 (k : Int) ∧ k ≤ bs.length ∧ Hid (LD w w' p F d l) ∧ Hid (EB d l aa bs k)) (fun v9 _ => bs.length - (intOf v9).toNat)
          case atStart => exact ⟨0, d2, l2, F, rfl, Nat.zero_le _, HD2.out, HB0.out⟩
          case round =>
            clear HD2 HB0
            clear F d2 l2
            obtain ⟨k, d, l, F, rfl, hk, HD, HI⟩ := hrel
            by_cases hkl : k < bs.length
            · obtain ⟨b, o, rfl, hlt, hcell⟩ := G1.out k hkl
              have hx := HX1.out.2 _ (List.getElem_mem hkl)
              have E1 := Lib.hid (HI.out.step hkl (by omega) HD.out.dsk.l1)
              generalize bs[k] = s at *
              unfold maxLen at hx
              have hcw := HD.out.nw.still hcell
              have HW := Lib.hid (write_c HD.out.dsk (by have := HI.out.ops; omega) k btw (by decide))
              have HO := Lib.hid (HI.out.pl.wrOps l k btw)
              obtain ⟨d2, hd2⟩ : ∃ d2, d2 = wrD d l k btw := ⟨_, rfl⟩
              obtain ⟨l2, hl2⟩ : ∃ l2, l2 = wrL d l k btw := ⟨_, rfl⟩
              generalize wrE d k btw = e1 at *
              rw [← hd2] at HW E1 HO
              rw [← hl2] at HW E1
              unfold btw at HW
              clear hd2 hl2 hlt
              go_wp2_with fail
              refine HW.out.mono ?_
              rintro e w2 ⟨rfl, F2, hd2, hb2, hs2⟩
              have HD2 := Lib.hid (HD.out.step hd2 hb2 hs2)
              have hcw2 := HD2.out.nw.still hcell
              have HW2 := Lib.hid (write_c hd2 (by have := HI.out.ops; have := HO.out; omega) k s hx)
              generalize wrE d2 k s = e2 at *
              clear hd2 hb2 hs2 HW
              go_wp2_with fail
              refine HW2.out.mono ?_
              rintro e w3 ⟨rfl, F3, hd3, hb3, hs3⟩
              have HD3 := Lib.hid (HD2.out.step hd3 hb3 hs3)
              clear hd3 hb3 hs3 HW2
              go_wp2
              go_roundw
              case rel => exact ⟨k + 1, _, _, F3, by go_num, by omega, HD3.out, E1.out⟩
              case measure => simp [intOf]; omega
            · obtain rfl : k = bs.length := by omega
              have HC := Lib.hid (dcrash_c HD.out.dsk (by have := HI.out.ops; omega) keep HK.out.1 (by have := HK.out.2; omega))
              have HE := Lib.hid (fun j => HI.out.end hl1 HD.out.dsk.l2 keep j)
              obtain ⟨d2, hd2⟩ : ∃ d2, d2 = crashD d l keep := ⟨_, rfl⟩
              rw [← hd2] at HC HE
              clear hd2 HI hk hkl
              generalize crL d l = l2 at *
              go_wp2_with fail
              refine HC.out.mono ?_
              rintro e w2 ⟨rfl, hd2, hb2⟩
              have HD2 := Lib.hid (HD.out.same hd2 hb2)
              clear hd2 hb2 HD HC
              clear d l
              go_wp2
              go_loopw [10] (fun v10 w' => ∃ (k : Nat), v10 = .int .i64 (k : Int) ∧ k ≤ 256 ∧ Hid (LD w w' p F d2 l2)) (fun v10 _ => 256 - (intOf v10).toNat)
              case atStart => exact ⟨0, rfl, Nat.zero_le _, HD2.out⟩
              case round =>
                clear HD2
                obtain ⟨k, rfl, hk, HD⟩ := hrel
                by_cases hkl : k < 256
                · have HR := Lib.hid (dread_c HD.out.dsk (k : Int))
                  simp only [fitB_yes (i := (k : Int)) (by omega) (by omega), if_true, Int.toNat_natCast, HE.out] at HR
                  obtain ⟨q, hq⟩ : ∃ q, q = bitOn keep k := ⟨_, rfl⟩
                  have HQ := Lib.hid hq
                  rw [← hq] at HR
                  unfold bitOn at hq
                  have hmod : (k : Int).tmod 64 = ((k % 64 : Nat) : Int) := by
                    rw [Int.tmod_eq_emod_of_nonneg (by omega)]; omega
                  have hq2 := hq.symm
                  clear hq HQ
                  have S1 := sec_at HX1.out.1 HX1.out.2 k btw
                  have S0 := sec_at HX0.out.1 HX0.out.2 k ⟨#[]⟩
                  clear HX0 HX1 G0 G1
                  rcases S1 with ⟨⟨j1, j2⟩, b4, o4, s4, rfl, hc4, hz4, ⟨y4, h4⟩ | ⟨y4, h4⟩⟩ | ⟨⟨j1, j2⟩, h4⟩ <;> rcases S0 with ⟨⟨i1, i2⟩, b5, o5, s5, rfl, hc5, hz5, ⟨y5, h5⟩ | ⟨y5, h5⟩⟩ | ⟨⟨i1, i2⟩, h5⟩ <;> cases q
                  all_goals
                    simp only [h4, h5, j2, if_true, if_false, Bool.false_eq_true] at HR
                    try have hd4 := HD.out.nw.still hc4
                    try have hd5 := HD.out.nw.still hc5
                    try unfold btw at HR
                    clear h4 h5 j2 i2
                    go_wp2_with fail
                    refine HR.out.mono ?_
                    rintro e w3 ⟨rfl, rfl⟩
                    go_wp2
                    go_roundw
                    case rel => exact ⟨k + 1, by go_num, by omega, HD.out⟩
                    case measure => simp [intOf]; omega
                · go_wp2
                  go_ret
                  exact ⟨rfl, HD.out.nw⟩
    · go_enter Try.func4, Try.ntmps4
      go_wp2
      go_ret
      exact ⟨rfl, New.refl _⟩
  · go_enter Try.func4, Try.ntmps4
    go_wp2
    go_ret
    exact ⟨rfl, New.refl _⟩
end Go.Proofs.Ytjeaejeikgkcaaa
