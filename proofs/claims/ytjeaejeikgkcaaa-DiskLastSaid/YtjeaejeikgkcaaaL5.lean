/- The law DiskLast, walked. -/
import Derived.Test.YtjeaejeikgkcaaaP5
import Derived.RegionTactic
import Derived.Deep.RegionHeld3
import Derived.BigRegion
namespace Go.Proofs.Ytjeaejeikgkcaaa
set_option linter.unusedSimpArgs false
set_option linter.unusedVariables false
open Go.RowKit
theorem info9 : (Try.prog.info? 9).map (fun i => (i.zero, i.size, i.bytes)) = some (some (.string ⟨#[]⟩), 1, 16) := by kernel_rfl
set_option maxRecDepth 1000000 in
set_option maxHeartbeats 8000000 in
theorem diskLast_walk (rs : List Stp) (v0 : Value) (w : World) (h0 : SlStp w v0 rs) :
    Calls Try.prog 5 #[v0] w fun e w' => e = .returned (.bool true) ∧ New w w' := by
  obtain ⟨A0, c0, rfl, b0, m0, _⟩ := id h0
  have H := Lib.hid h0
  have HV := Lib.hid (heavy_c rs _ w h0)
  clear h0
  go_enter Try.func5, Try.ntmps5
  go_wp2_with fail
  refine HV.out.mono ?_
  rintro e w1 ⟨⟨bv, rfl, hbv⟩, rfl⟩
  cases bv
  case true =>
    go_wp2
    go_ret
    exact ⟨rfl, New.refl _⟩
  case false =>
    have hlen := hbv rfl
    clear hbv HV
    go_wp2_with fail
    refine (dnew_c w).mono ?_
    rintro e w1 ⟨rfl, hd, hn⟩
    have HL := Lib.hid (LD.fresh (New.refl w) hd hn)
    generalize hF : (fun k => k = w.heap.size) = F at HL
    clear hF hd hn
    generalize w.heap.size = p at *
    go_wp2_with (refine wpList_make rfl 34 9 (.string ⟨#[]⟩) 16 (by rfl) info9 (by rfl) (by omega) rfl ?_)
    intro w2 hn2 hb2
    have HW0 : Hid (LW w w2 p F dsNew [] w1.heap.size dsNew.is) := Lib.hid (LW.fresh HL.out hn2 hb2)
    clear HL hn2 hb2
    generalize w1.heap.size = q at *
    go_wp2
    go_loopw [5] (fun v5 w' => ∃ (k : Nat) (d : DS) (l : List Nat) (F : Nat → Prop), v5 = .int .i64 (k : Int) ∧ k ≤ rs.length ∧ Hid (LW w w' p F d l q d.is) ∧ Hid (Pl d ∧ d.ops ≤ 3 * k)) (fun v5 _ => rs.length - (intOf v5).toNat)
    case atStart => exact ⟨0, dsNew, [], F, rfl, Nat.zero_le _, HW0.out, Pl.new, by decide⟩
    case round =>
      clear HW0
      clear F
      obtain ⟨k, d, l, F, rfl, hk, HW, HP⟩ := hrel
      by_cases hkl : k < rs.length
      · obtain ⟨b, o, rfl, hat⟩ := H.out.at k hkl
        generalize rs[k] = r at *
        obtain ⟨kind, i, s, keep⟩ := r
        obtain ⟨hlt, hc0, hc1, hc2, _, hk1, hi1, hsz, _⟩ := hat
        simp only at hc0 hc1 hc2 hk1 hi1 hsz
        have ht0 := HW.out.ld.nw.still hc0
        have ht1 := HW.out.ld.nw.still hc1
        have ht2 := HW.out.ld.nw.still hc2
        have HWd := Lib.hid HW.out.drew
        have HC := Lib.hid (write_c HWd.out.ld.dsk (by have := HP.out.2; omega) i s hsz)
        have HLW := last_write HP.out.1 l i s
        have HPW := Lib.hid (HP.out.1.wr l i s)
        have HOW := Lib.hid (HP.out.1.wrOps l i s)
        have HRS := Lib.hid (fun W (h : LW w W p F d l q d.is) => h)
        obtain ⟨dd, hdd⟩ : ∃ dd, dd = wrD d l i s := ⟨_, rfl⟩
        obtain ⟨ll, hll⟩ : ∃ ll, ll = wrL d l i s := ⟨_, rfl⟩
        rw [← hdd] at HC HLW HPW HOW
        rw [← hll] at HC
        clear hdd hll HRS hlt
        rcases HLW with ⟨g1, g2, g3⟩ | ⟨g1, g2, g3, g4⟩ | ⟨g1, g2, g3, g4⟩
        · rw [g2] at HC
          have G3 := Lib.hid g3
          have hrange : (i < 0) ∨ (0 ≤ i ∧ 256 ≤ i) := by
            by_cases h0 : i < 0
            · exact .inl h0
            · by_cases h1 : i < 256
              · rw [fitB_yes (by omega) h1] at g1; cases g1
              · exact .inr ⟨by omega, by omega⟩
          clear g1 g2 g3
          rcases hrange with hr | ⟨hr, hr2⟩
          all_goals
            go_wp2_with fail
            go_region_held3 (fun V => V.cell? ⟨b, o + k * 4 + 1, none⟩ = some (.int .i64 i) ∧ V.cell? ⟨b, o + k * 4 + 2, none⟩ = some (.string s)) (first | exact ⟨hx1, hx2⟩ | exact ⟨ht1, ht2⟩) ((go_at_call 12; refine HC.out.mono ?_; rintro e w3 ⟨rfl, F2, hd2, hb2, hs2⟩; have HW2 := Lib.hid (HWd.out.step hd2 hb2 hs2); have hx0 : w3.cell? ⟨b, o + k * 4, none⟩ = some (.int .i64 kind) := HW2.out.ld.nw.still hc0; have hx1 : w3.cell? ⟨b, o + k * 4 + 1, none⟩ = some (.int .i64 i) := HW2.out.ld.nw.still hc1; have hx2 : w3.cell? ⟨b, o + k * 4 + 2, none⟩ = some (.string s) := HW2.out.ld.nw.still hc2; clear hd2 hb2 hs2))
            have HW3 : Hid (LW w w3 p F2 dd ll q dd.is) := Lib.hid (by have h := HW2.out; have e := G3.out; rw [show dd.is = d.is by rw [e]]; exact h)
            have HP3 := HPW
            have HO3 := HOW
            obtain ⟨F3, hF3⟩ : ∃ F3, F3 = F2 := ⟨_, rfl⟩
            obtain ⟨d3, hd3⟩ : ∃ d3, d3 = dd := ⟨_, rfl⟩
            obtain ⟨l3, hl3⟩ : ∃ l3, l3 = ll := ⟨_, rfl⟩
            rw [← hF3, ← hd3, ← hl3] at HW3
            rw [← hd3] at HP3 HO3
            clear hF3 hd3 hl3 HW2 HC HW HWd ht0 ht1 ht2
            by_cases hkd : kind = 1
            · subst hkd
              have HS1 := Lib.hid (sync_c HW3.out.ld.dsk (by have := HO3.out; have := HP.out.2; omega))
              rw [HP3.out.raw] at HS1
              obtain ⟨d4, hd4⟩ : ∃ d4, d4 = syD d3 l3 := ⟨_, rfl⟩
              obtain ⟨l4, hl4⟩ : ∃ l4, l4 = syL d3 l3 := ⟨_, rfl⟩
              have HP4 := Lib.hid (plSy HP3.out l3)
              have HI4 : Hid (d4.is = d3.is ∧ d4.ops = d3.ops + 1) := Lib.hid (by rw [hd4, HP3.out.syD]; exact ⟨rfl, rfl⟩)
              rw [← hd4, ← hl4] at HS1
              rw [← hd4] at HP4
              clear hd4 hl4
              go_wp2_with fail
              refine HS1.out.mono ?_
              rintro e w5 ⟨rfl, hd5, hb5⟩
              have HW5 := Lib.hid (HW3.out.same hd5 hb5)
              have HS2 := Lib.hid (sync_c hd5 (by have := HI4.out; have := HO3.out; have := HP.out.2; omega))
              rw [HP4.out.raw] at HS2
              obtain ⟨d6, hd6⟩ : ∃ d6, d6 = syD d4 l4 := ⟨_, rfl⟩
              obtain ⟨l6, hl6⟩ : ∃ l6, l6 = syL d4 l4 := ⟨_, rfl⟩
              have HP6 := Lib.hid (plSy HP4.out l4)
              have HI6 : Hid (d6.is = d4.is ∧ d6.ops = d4.ops + 1) := Lib.hid (by rw [hd6, HP4.out.syD]; exact ⟨rfl, rfl⟩)
              rw [← hd6, ← hl6] at HS2
              rw [← hd6] at HP6
              clear hd6 hl6 hd5 hb5
              go_wp2_with fail
              refine HS2.out.mono ?_
              rintro e w7 ⟨rfl, hd7, hb7⟩
              have HW7 := Lib.hid (HW5.out.same hd7 hb7)
              have HW8 : Hid (LW w w7 p F3 d6 l6 q d6.is) := Lib.hid (by rw [HI6.out.1, HI4.out.1]; exact HW7.out)
              clear hd7 hb7
              go_wp2
              go_roundw
              case rel => exact ⟨k + 1, _, _, _, by go_num, by omega, HW8.out, HP6.out, by have := HI6.out.2; have := HI4.out.2; have := HO3.out; have := HP.out.2; omega⟩
              case measure => simp [intOf]; omega
            · go_wp2
              go_roundw
              case rel => exact ⟨k + 1, _, _, _, by go_num, by omega, HW3.out, HP3.out, by have := HO3.out; have := HP.out.2; omega⟩
              case measure => simp [intOf]; omega
        · rw [g3] at HC
          have G3 := Lib.hid g4
          obtain ⟨n, rfl⟩ : ∃ n : Nat, i = (n : Int) := ⟨i.toNat, by unfold fitB at g1; simp at g1; omega⟩
          have hn : (n : Int) < 256 := by unfold fitB at g1; simp at g1; omega
          have hn0 : (0 : Int) ≤ (n : Int) := by omega
          clear g1 g3 g4 hi1
          all_goals
            go_wp2_with fail
            go_region_held3 (fun V => V.cell? ⟨b, o + k * 4 + 1, none⟩ = some (.int .i64 (n : Int)) ∧ V.cell? ⟨b, o + k * 4 + 2, none⟩ = some (.string s)) (first | exact ⟨hx1, hx2⟩ | exact ⟨ht1, ht2⟩) ((go_at_call 12; refine HC.out.mono ?_; rintro e w3 ⟨rfl, F2, hd2, hb2, hs2⟩; have HW2 := Lib.hid (HWd.out.step hd2 hb2 hs2); have hx0 : w3.cell? ⟨b, o + k * 4, none⟩ = some (.int .i64 kind) := HW2.out.ld.nw.still hc0; have hx1 : w3.cell? ⟨b, o + k * 4 + 1, none⟩ = some (.int .i64 (n : Int)) := HW2.out.ld.nw.still hc1; have hx2 : w3.cell? ⟨b, o + k * 4 + 2, none⟩ = some (.string s) := HW2.out.ld.nw.still hc2; clear hd2 hb2 hs2))
            have HW3 : Hid (LW w w3 p F2 dd ll q dd.is) := Lib.hid (by have h := HW2.out; have e := G3.out; rw [show dd.is = d.is by rw [e]]; exact h)
            have HP3 := HPW
            have HO3 := HOW
            obtain ⟨F3, hF3⟩ : ∃ F3, F3 = F2 := ⟨_, rfl⟩
            obtain ⟨d3, hd3⟩ : ∃ d3, d3 = dd := ⟨_, rfl⟩
            obtain ⟨l3, hl3⟩ : ∃ l3, l3 = ll := ⟨_, rfl⟩
            rw [← hF3, ← hd3, ← hl3] at HW3
            rw [← hd3] at HP3 HO3
            clear hF3 hd3 hl3 HW2 HC HW HWd ht0 ht1 ht2
            by_cases hkd : kind = 1
            · subst hkd
              have HS1 := Lib.hid (sync_c HW3.out.ld.dsk (by have := HO3.out; have := HP.out.2; omega))
              rw [HP3.out.raw] at HS1
              obtain ⟨d4, hd4⟩ : ∃ d4, d4 = syD d3 l3 := ⟨_, rfl⟩
              obtain ⟨l4, hl4⟩ : ∃ l4, l4 = syL d3 l3 := ⟨_, rfl⟩
              have HP4 := Lib.hid (plSy HP3.out l3)
              have HI4 : Hid (d4.is = d3.is ∧ d4.ops = d3.ops + 1) := Lib.hid (by rw [hd4, HP3.out.syD]; exact ⟨rfl, rfl⟩)
              rw [← hd4, ← hl4] at HS1
              rw [← hd4] at HP4
              clear hd4 hl4
              go_wp2_with fail
              refine HS1.out.mono ?_
              rintro e w5 ⟨rfl, hd5, hb5⟩
              have HW5 := Lib.hid (HW3.out.same hd5 hb5)
              have HS2 := Lib.hid (sync_c hd5 (by have := HI4.out; have := HO3.out; have := HP.out.2; omega))
              rw [HP4.out.raw] at HS2
              obtain ⟨d6, hd6⟩ : ∃ d6, d6 = syD d4 l4 := ⟨_, rfl⟩
              obtain ⟨l6, hl6⟩ : ∃ l6, l6 = syL d4 l4 := ⟨_, rfl⟩
              have HP6 := Lib.hid (plSy HP4.out l4)
              have HI6 : Hid (d6.is = d4.is ∧ d6.ops = d4.ops + 1) := Lib.hid (by rw [hd6, HP4.out.syD]; exact ⟨rfl, rfl⟩)
              rw [← hd6, ← hl6] at HS2
              rw [← hd6] at HP6
              clear hd6 hl6 hd5 hb5
              go_wp2_with fail
              refine HS2.out.mono ?_
              rintro e w7 ⟨rfl, hd7, hb7⟩
              have HW7 := Lib.hid (HW5.out.same hd7 hb7)
              have HW8 : Hid (LW w w7 p F3 d6 l6 q d6.is) := Lib.hid (by rw [HI6.out.1, HI4.out.1]; exact HW7.out)
              clear hd7 hb7
              go_wp2
              go_roundw
              case rel => exact ⟨k + 1, _, _, _, by go_num, by omega, HW8.out, HP6.out, by have := HI6.out.2; have := HI4.out.2; have := HO3.out; have := HP.out.2; omega⟩
              case measure => simp [intOf]; omega
            · go_wp2
              go_roundw
              case rel => exact ⟨k + 1, _, _, _, by go_num, by omega, HW3.out, HP3.out, by have := HO3.out; have := HP.out.2; omega⟩
              case measure => simp [intOf]; omega
        · rw [g3] at HC
          have G4 := Lib.hid g4
          obtain ⟨n, rfl⟩ : ∃ n : Nat, i = (n : Int) := ⟨i.toNat, by unfold fitB at g1; simp at g1; omega⟩
          have hn : (n : Int) < 256 := by unfold fitB at g1; simp at g1; omega
          have hn0 : (0 : Int) ≤ (n : Int) := by omega
          clear g1 g3 g4 hi1
          go_wp2_with fail
          go_region_held3 (fun V => V.cell? ⟨b, o + k * 4 + 1, none⟩ = some (.int .i64 (n : Int)) ∧ V.cell? ⟨b, o + k * 4 + 2, none⟩ = some (.string s)) (first | exact ⟨hx1, hx2⟩ | exact ⟨ht1, ht2⟩) ((go_at_call 12; refine HC.out.mono ?_; rintro e w3 ⟨rfl, F2, hd2, hb2, hs2⟩; have HW2 := Lib.hid (HWd.out.step hd2 hb2 hs2); have hx0 : w3.cell? ⟨b, o + k * 4, none⟩ = some (.int .i64 kind) := HW2.out.ld.nw.still hc0; have hx1 : w3.cell? ⟨b, o + k * 4 + 1, none⟩ = some (.int .i64 (n : Int)) := HW2.out.ld.nw.still hc1; have hx2 : w3.cell? ⟨b, o + k * 4 + 2, none⟩ = some (.string s) := HW2.out.ld.nw.still hc2; clear hd2 hb2 hs2))
          all_goals
            have hwl := HW.out.ld.dsk.l1
            have hqc := HW2.out.cell (i := n) (by omega)
            have hqf := HW2.out.box.frozen n
            generalize d.is[n]'_ = old at hqc
            have HW3 : Hid (LW w (w3.setCell ⟨q, n, none⟩ (.string s)).drew p F2 dd ll q dd.is) := Lib.hid (by rw [G4.out]; exact (HW2.out.store n s).drew)
            clear hwl
            go_wp2_with fail
            go_region
            clear hqc hqf ht0 ht1 ht2
            have hz0 := HW3.out.ld.nw.still hc0
            generalize (w3.setCell ⟨q, n, none⟩ (.string s)).drew = w4 at *
            have HP3 := HPW
            have HO3 := HOW
            clear hx0 hx1 hx2 HW2 HC G4 HW HWd
            obtain ⟨F3, hF3⟩ : ∃ F3, F3 = F2 := ⟨_, rfl⟩
            obtain ⟨d3, hd3⟩ : ∃ d3, d3 = dd := ⟨_, rfl⟩
            obtain ⟨l3, hl3⟩ : ∃ l3, l3 = ll := ⟨_, rfl⟩
            rw [← hF3, ← hd3, ← hl3] at HW3
            rw [← hd3] at HP3 HO3
            clear hF3 hd3 hl3
            by_cases hkd : kind = 1
            · subst hkd
              have HS1 := Lib.hid (sync_c HW3.out.ld.dsk (by have := HO3.out; have := HP.out.2; omega))
              rw [HP3.out.raw] at HS1
              obtain ⟨d4, hd4⟩ : ∃ d4, d4 = syD d3 l3 := ⟨_, rfl⟩
              obtain ⟨l4, hl4⟩ : ∃ l4, l4 = syL d3 l3 := ⟨_, rfl⟩
              have HP4 := Lib.hid (plSy HP3.out l3)
              have HI4 : Hid (d4.is = d3.is ∧ d4.ops = d3.ops + 1) := Lib.hid (by rw [hd4, HP3.out.syD]; exact ⟨rfl, rfl⟩)
              rw [← hd4, ← hl4] at HS1
              rw [← hd4] at HP4
              clear hd4 hl4
              go_wp2_with fail
              refine HS1.out.mono ?_
              rintro e w5 ⟨rfl, hd5, hb5⟩
              have HW5 := Lib.hid (HW3.out.same hd5 hb5)
              have HS2 := Lib.hid (sync_c hd5 (by have := HI4.out; have := HO3.out; have := HP.out.2; omega))
              rw [HP4.out.raw] at HS2
              obtain ⟨d6, hd6⟩ : ∃ d6, d6 = syD d4 l4 := ⟨_, rfl⟩
              obtain ⟨l6, hl6⟩ : ∃ l6, l6 = syL d4 l4 := ⟨_, rfl⟩
              have HP6 := Lib.hid (plSy HP4.out l4)
              have HI6 : Hid (d6.is = d4.is ∧ d6.ops = d4.ops + 1) := Lib.hid (by rw [hd6, HP4.out.syD]; exact ⟨rfl, rfl⟩)
              rw [← hd6, ← hl6] at HS2
              rw [← hd6] at HP6
              clear hd6 hl6 hd5 hb5
              go_wp2_with fail
              refine HS2.out.mono ?_
              rintro e w7 ⟨rfl, hd7, hb7⟩
              have HW7 := Lib.hid (HW5.out.same hd7 hb7)
              have HW8 : Hid (LW w w7 p F3 d6 l6 q d6.is) := Lib.hid (by rw [HI6.out.1, HI4.out.1]; exact HW7.out)
              clear hd7 hb7
              go_wp2
              go_roundw
              case rel => exact ⟨k + 1, _, _, _, by go_num, by omega, HW8.out, HP6.out, by have := HI6.out.2; have := HI4.out.2; have := HO3.out; have := HP.out.2; omega⟩
              case measure => simp [intOf]; omega
            · go_wp2
              go_roundw
              case rel => exact ⟨k + 1, _, _, _, by go_num, by omega, HW3.out, HP3.out, by have := HO3.out; have := HP.out.2; omega⟩
              case measure => simp [intOf]; omega
      · obtain rfl : k = rs.length := by omega
        have HS := Lib.hid (sync_c HW.out.ld.dsk (by have := HP.out.2; omega))
        have HE := Lib.hid (last_end HP.out.1 l)
        have HO : Hid ((syD d l).ops ≤ 1000000) := Lib.hid (by rw [HP.out.1.syD]; have := HP.out.2; show d.ops + 1 ≤ _; omega)
        rw [HP.out.1.raw, HP.out.1.syL] at HS
        obtain ⟨d2, hd2⟩ : ∃ d2, d2 = syD d l := ⟨_, rfl⟩
        rw [← hd2] at HS HE HO
        clear hd2
        go_wp2_with fail
        refine HS.out.mono ?_
        rintro e w2 ⟨rfl, hd2, hb2⟩
        have HW2 := Lib.hid (HW.out.same hd2 hb2)
        have HC := Lib.hid (dcrash_c hd2 HO.out 0 (by omega) (by omega))
        obtain ⟨d3, hd3⟩ : ∃ d3, d3 = crashD d2 [] 0 := ⟨_, rfl⟩
        rw [← hd3] at HC HE
        clear hd3 hd2 hb2 HS
        generalize crL d2 [] = l3 at *
        go_wp2_with fail
        refine HC.out.mono ?_
        rintro e w3 ⟨rfl, hd3, hb3⟩
        have HW3 := Lib.hid (HW2.out.same hd3 hb3)
        have HL1 := Lib.hid HW.out.ld.dsk.l1
        clear hd3 hb3 HC HW2 HW
        go_wp2
        go_loopw [7] (fun v7 w' => ∃ (k : Nat), v7 = .int .i64 (k : Int) ∧ k ≤ 256 ∧ Hid (LW w w' p F d3 l3 q d.is)) (fun v7 _ => 256 - (intOf v7).toNat)
        case atStart => exact ⟨0, rfl, Nat.zero_le _, HW3.out⟩
        case round =>
          clear HW3
          obtain ⟨k, rfl, hk, HW⟩ := hrel
          by_cases hkl : k < 256
          · have HR := Lib.hid (dread_c HW.out.ld.dsk (k : Int))
            have hql := HL1.out
            have hqc := HW.out.cell (i := k) (by omega)
            have hgd : d3.is.getD k ⟨#[]⟩ = d.is[k]'(by omega) := by rw [HE.out.1]; simp [List.getD_eq_getElem?_getD, List.getElem?_eq_getElem (show k < d.is.length by omega)]
            simp only [fitB_yes (i := (k : Int)) (by omega) (by omega), if_true, Int.toNat_natCast, hgd] at HR
            generalize d.is[k]'_ = s at *
            clear hql hgd
            go_wp2_with fail
            refine HR.out.mono ?_
            rintro e w5 ⟨rfl, rfl⟩
            go_wp2
            go_roundw
            case rel => exact ⟨k + 1, by go_num, by omega, HW.out⟩
            case measure => simp [intOf]; omega
          · have HD := Lib.hid (ddead_c HW.out.ld.dsk)
            rw [HE.out.2] at HD
            go_wp2_with fail
            refine HD.out.mono ?_
            rintro e w5 ⟨rfl, rfl⟩
            go_wp2
            go_ret
            exact ⟨rfl, HW.out.ld.nw⟩
end Go.Proofs.Ytjeaejeikgkcaaa
