/- The law DiskSynced, walked. -/
import Derived.Test.YtjeaejeikgkcaaaP6
import Derived.Test.YtjeaejeikgkcaaaL8
namespace Go.Proofs.Ytjeaejeikgkcaaa
set_option linter.unusedSimpArgs false
set_option linter.unusedVariables false
open Go.RowKit
theorem info4 : (Try.prog.info? 4).map (fun i => (i.zero, i.size, i.bytes)) = some (some (.bool false), 1, 1) := by kernel_rfl
set_option maxRecDepth 1000000 in
set_option maxHeartbeats 8000000 in
theorem diskSynced_walk (rs : List Stp) (v0 : Value) (ts : List Stp) (v1 : Value) (keep : Int) (w : World) (h0 : SlStp w v0 rs) (h1 : SlStp w v1 ts) (n0 : 0 ≤ keep) (n1 : keep ≤ 18446744073709551615) :
    Calls Try.prog 6 #[v0, v1, .int .u64 keep] w fun e w' => e = .returned (.bool true) ∧ New w w' := by
  obtain ⟨A0, c0, rfl, b0, m0, _⟩ := id h0
  obtain ⟨A1, c1, rfl, b1, m1, _⟩ := id h1
  have H := Lib.hid h0
  have H1 := Lib.hid h1
  have HV := Lib.hid (heavy_c rs _ w h0)
  have HV1 := Lib.hid (heavy_c ts _ w h1)
  have HK := Lib.hid (⟨n0, n1⟩ : 0 ≤ keep ∧ keep ≤ 18446744073709551615)
  clear h0 h1 n0 n1
  go_enter Try.func6, Try.ntmps6
  go_wp2_with fail
  refine HV.out.mono ?_
  rintro e w1 ⟨⟨bv, rfl, hbv⟩, rfl⟩
  cases bv
  case true =>
    go_wp2
    go_ret
    exact ⟨rfl, New.refl _⟩
  case false =>
    have hlen := hbv rfl
    clear hbv HV
    go_wp2_with fail
    refine HV1.out.mono ?_
    rintro e w1 ⟨⟨bv, rfl, hbv⟩, rfl⟩
    cases bv
    case true =>
      go_wp2
      go_ret
      exact ⟨rfl, New.refl _⟩
    case false =>
      have hlen1 := hbv rfl
      clear hbv HV1
      go_wp2_with fail
      refine (dnew_c w).mono ?_
      rintro e w1 ⟨rfl, hd, hn⟩
      have HD := Lib.hid hd
      have HN := Lib.hid hn
      clear hd hn
      go_wp2_with fail
      refine (rnew_c w1).mono ?_
      rintro e w2 ⟨rfl, hr⟩
      obtain ⟨F, G, hl⟩ := LT.fresh HD.out HN.out hr
      have HL := Lib.hid hl
      clear hl hr HD HN
      generalize w.heap.size = p at *
      generalize w1.heap.size = q at *
      go_wp2
      go_loopw [9] (fun v9 w' => ∃ (k : Nat) (d : DS) (l : List Nat) (F G : Nat → Prop), v9 = .int .i64 (k : Int) ∧ k ≤ rs.length ∧ Hid (LT w w' p F q G d l) ∧ Hid (Pl d ∧ d.ops ≤ k)) (fun v9 _ => rs.length - (intOf v9).toNat)
      case atStart => exact ⟨0, dsNew, [], F, G, rfl, Nat.zero_le _, HL.out, Pl.new, (show dsNew.ops ≤ ((0 : Nat) : Int) by decide)⟩
      case round =>
        clear HL
        clear F G
        obtain ⟨k, d, l, F, G, rfl, hk, HW, HP⟩ := hrel
        by_cases hkl : k < rs.length
        · obtain ⟨b, o, rfl, hat⟩ := H.out.at k hkl
          obtain ⟨r, hr⟩ : ∃ r, r = rs[k] := ⟨_, rfl⟩
          rw [← hr] at hat
          clear hr
          obtain ⟨hlt, hc0, hc1, hc2, hc3, hk1, hi1, hsz, hp0, hp1⟩ := hat
          have ht0 := HW.out.ld.nw.still hc0
          have ht1 := HW.out.ld.nw.still hc1
          have ht2 := HW.out.ld.nw.still hc2
          have ht3 := HW.out.ld.nw.still hc3
          by_cases hkind : r.kind < 2
          · have HC := Lib.hid (step_c HW.out (by have := HP.out.2; omega) r hi1.2 hsz hp0 hp1)
            have HO := Lib.hid (stD_ops d l r)
            have HPP := Lib.hid (plSt HP.out.1 l r hkind)
            unfold stV at HC
            obtain ⟨dd, hdd⟩ : ∃ dd, dd = stD d l r := ⟨_, rfl⟩
            obtain ⟨ll, hll⟩ : ∃ ll, ll = stL d l r := ⟨_, rfl⟩
            rw [← hdd] at HC HO HPP
            rw [← hll] at HC
            generalize r.kind = kind at *
            generalize r.i = i at *
            generalize r.s = s at *
            generalize r.keep = kp at *
            clear hdd hll hc0 hc1 hc2 hc3 hlt hk1 hi1
            go_wp2_with fail
            refine HC.out.mono ?_
            rintro e w3 ⟨rfl, F3, G3, hl3⟩
            have HL3 := Lib.hid hl3
            clear hl3 ht0 ht1 ht2 ht3 HC HW
            go_wp2
            go_roundw
            case rel => exact ⟨k + 1, _, _, _, _, by go_num, by omega, HL3.out, HPP.out, (show dd.ops ≤ ((k + 1 : Nat) : Int) by have := HO.out; have := HP.out.2; omega)⟩
            case measure => simp [intOf]; omega
          · generalize r.kind = kind at *
            generalize r.i = i at *
            generalize r.s = s at *
            generalize r.keep = kp at *
            clear hc0 hc1 hc2 hc3 hlt hk1 hi1
            go_wp2_with fail
            go_roundw
            case rel => exact ⟨k + 1, _, _, _, _, by go_num, by omega, HW.out, HP.out.1, (show d.ops ≤ ((k + 1 : Nat) : Int) by have := HP.out.2; omega)⟩
            case measure => simp [intOf]; omega
        · obtain rfl : k = rs.length := by omega
          have hop : d.ops ≤ 1000000 := by have := HP.out.2; omega
          have HC1 := Lib.hid (sync_c HW.out.ld.dsk hop)
          have HC2 := Lib.hid (fun W (h : RQ W q G d l) => rsync_c h hop)
          have HSY := Lib.hid (SY.start HP.out.1 l)
          have HOP : Hid ((syD d l).ops ≤ 1025) := Lib.hid (by have := syD_ops d l; have := HP.out.2; omega)
          have eL := HP.out.1.syL l
          rw [HP.out.1.raw] at HC1 HC2
          rw [eL] at HC1 HC2 HSY
          obtain ⟨D, hD⟩ : ∃ D, D = syD d l := ⟨_, rfl⟩
          rw [← hD] at HC1 HC2 HSY HOP
          clear hD eL hop
          go_wp2_with fail
          refine HC1.out.mono ?_
          rintro e w3 ⟨rfl, hd, hb⟩
          have HC3 := Lib.hid (HC2.out _ (HW.out.mid hb))
          have HDK := Lib.hid hd
          have HBB := Lib.hid hb
          clear hd hb HC1 HC2
          go_wp2_with fail
          refine HC3.out.mono ?_
          rintro e w4 ⟨rfl, hq, hb⟩
          have HLT := Lib.hid (HW.out.step HDK.out HBB.out (Sprout.same _ _) hq hb (Sprout.same _ _))
          clear hq hb HC3 HDK HBB HW HP
          go_wp2_with (refine wpList_make rfl 47 4 (.bool false) 1 (by rfl) info4 (by rfl) (by omega) rfl ?_)
          intro w5 hn5 hb5
          have HX0 : Hid (LX w w5 p F q G D D [] w4.heap.size (List.replicate 256 false)) := Lib.hid (LX.start HLT.out hn5 hb5)
          clear HLT hn5 hb5
          generalize w4.heap.size = g at *
          obtain ⟨B, hB⟩ : ∃ B, B = D.is := ⟨_, rfl⟩
          rw [← hB] at HSY
          have HBD := Lib.hid hB
          clear hB
          go_wp2
          go_loopw [11] (fun v11 w' => ∃ (k : Nat) (d : DS) (l : List Nat) (F : Nat → Prop) (W : List Bool), v11 = .int .i64 (k : Int) ∧ k ≤ ts.length ∧ Hid (LX w w' p F q G D d l g W) ∧ Hid (SY B d l W) ∧ Hid (d.ops ≤ 1025 + k)) (fun v11 _ => ts.length - (intOf v11).toNat)
          case atStart => exact ⟨0, D, [], F, _, rfl, Nat.zero_le _, HX0.out, HSY.out, (show D.ops ≤ 1025 + ((0 : Nat) : Int) by have := HOP.out; omega)⟩
          case round =>
            clear HX0 HSY HOP
            clear F d l
            obtain ⟨k, d, l, F, W, rfl, hk, HW, HP, HO⟩ := hrel
            by_cases hkl : k < ts.length
            · obtain ⟨b, o, rfl, hat⟩ := H1.out.at k hkl
              obtain ⟨r, hr⟩ : ∃ r, r = ts[k] := ⟨_, rfl⟩
              rw [← hr] at hat
              clear hr
              obtain ⟨hlt, hc0, hc1, hc2, hc3, hk1, hi1, hsz, hp0, hp1⟩ := hat
              generalize r.kind = kind at *
              generalize r.i = i at *
              generalize r.s = s at *
              generalize r.keep = kp at *
              have ht1 := HW.out.ld.nw.still hc1
              have ht2 := HW.out.ld.nw.still hc2
              have HWd := Lib.hid HW.out.drew
              have HC := Lib.hid (write_c HWd.out.ld.dsk (by have := HO.out; omega) i s hsz)
              have HOW := Lib.hid (wrD_ops d l i s)
              have HLW := HP.out.write i s
              obtain ⟨dd, hdd⟩ : ∃ dd, dd = wrD d l i s := ⟨_, rfl⟩
              obtain ⟨ll, hll⟩ : ∃ ll, ll = wrL d l i s := ⟨_, rfl⟩
              rw [← hdd] at HC HLW HOW
              rw [← hll] at HC HLW
              clear hdd hll hlt hc0 hc3 hk1 hp0 hp1
              rcases HLW with ⟨g1, g2, g3, g4⟩ | ⟨g1, g2, g3, g4, g5⟩ | ⟨g1, g2, g3, g4⟩
              · rw [g2] at HC
                have HP3 : Hid (SY B dd ll W) := Lib.hid (by rw [g3, g4]; exact HP.out)
                have hrange : (i < 0) ∨ (0 ≤ i ∧ 256 ≤ i) := by
                  by_cases h0 : i < 0
                  · exact .inl h0
                  · by_cases h1 : i < 256
                    · rw [fitB_yes (by omega) h1] at g1; cases g1
                    · exact .inr ⟨by omega, by omega⟩
                clear g1 g2 g3 g4
                rcases hrange with hr | ⟨hr, hr2⟩
                all_goals
                  go_wp2_with fail
                  go_region_held3 (fun V => V.cell? ⟨b, o + k * 4 + 1, none⟩ = some (.int .i64 i) ∧ V.cell? ⟨b, o + k * 4 + 2, none⟩ = some (.string s)) (first | exact ⟨hx1, hx2⟩ | exact ⟨ht1, ht2⟩) ((go_at_call 12; refine HC.out.mono ?_; rintro e w3 ⟨rfl, F2, hd2, hb2, hs2⟩; have HW2 := Lib.hid (HWd.out.step hd2 hb2 hs2); have hx1 : w3.cell? ⟨b, o + k * 4 + 1, none⟩ = some (.int .i64 i) := HW2.out.ld.nw.still hc1; have hx2 : w3.cell? ⟨b, o + k * 4 + 2, none⟩ = some (.string s) := HW2.out.ld.nw.still hc2; clear hd2 hb2 hs2))
                  clear ht1 ht2 HC HWd HW
                  go_wp2
                  go_roundw
                  case rel => exact ⟨k + 1, _, _, _, _, by go_num, by omega, HW2.out, HP3.out, (show dd.ops ≤ 1025 + ((k + 1 : Nat) : Int) by have := HOW.out; have := HO.out; omega)⟩
                  case measure => simp [intOf]; omega
              · rw [g3] at HC
                have HP3 : Hid (SY B dd ll W) := Lib.hid (by rw [g4, g5]; exact HP.out)
                obtain ⟨n, rfl⟩ : ∃ n : Nat, i = (n : Int) := ⟨i.toNat, by unfold fitB at g1; simp at g1; omega⟩
                have hn : (n : Int) < 256 := by unfold fitB at g1; simp at g1; omega
                have hn0 : (0 : Int) ≤ (n : Int) := by omega
                clear g1 g3 g4 g5 hi1
                go_wp2_with fail
                go_region_held3 (fun V => V.cell? ⟨b, o + k * 4 + 1, none⟩ = some (.int .i64 (n : Int)) ∧ V.cell? ⟨b, o + k * 4 + 2, none⟩ = some (.string s)) (first | exact ⟨hx1, hx2⟩ | exact ⟨ht1, ht2⟩) ((go_at_call 12; refine HC.out.mono ?_; rintro e w3 ⟨rfl, F2, hd2, hb2, hs2⟩; have HW2 := Lib.hid (HWd.out.step hd2 hb2 hs2); have hx1 : w3.cell? ⟨b, o + k * 4 + 1, none⟩ = some (.int .i64 (n : Int)) := HW2.out.ld.nw.still hc1; have hx2 : w3.cell? ⟨b, o + k * 4 + 2, none⟩ = some (.string s) := HW2.out.ld.nw.still hc2; clear hd2 hb2 hs2))
                clear ht1 ht2 HC HWd HW
                go_wp2
                go_roundw
                case rel => exact ⟨k + 1, _, _, _, _, by go_num, by omega, HW2.out, HP3.out, (show dd.ops ≤ 1025 + ((k + 1 : Nat) : Int) by have := HOW.out; have := HO.out; omega)⟩
                case measure => simp [intOf]; omega
              · rw [g3] at HC
                obtain ⟨n, rfl⟩ : ∃ n : Nat, i = (n : Int) := ⟨i.toNat, by unfold fitB at g1; simp at g1; omega⟩
                have hn : (n : Int) < 256 := by unfold fitB at g1; simp at g1; omega
                have hn0 : (0 : Int) ≤ (n : Int) := by omega
                have HP3 := Lib.hid g4
                rw [Int.toNat_natCast] at HP3
                have HLW2 := Lib.hid HP.out.len
                clear g1 g3 g4 hi1
                go_wp2_with fail
                go_region_held3 (fun V => V.cell? ⟨b, o + k * 4 + 1, none⟩ = some (.int .i64 (n : Int)) ∧ V.cell? ⟨b, o + k * 4 + 2, none⟩ = some (.string s)) (first | exact ⟨hx1, hx2⟩ | exact ⟨ht1, ht2⟩) ((go_at_call 12; refine HC.out.mono ?_; rintro e w3 ⟨rfl, F2, hd2, hb2, hs2⟩; have HW2 := Lib.hid (HWd.out.step hd2 hb2 hs2); have hx1 : w3.cell? ⟨b, o + k * 4 + 1, none⟩ = some (.int .i64 (n : Int)) := HW2.out.ld.nw.still hc1; have hx2 : w3.cell? ⟨b, o + k * 4 + 2, none⟩ = some (.string s) := HW2.out.ld.nw.still hc2; clear hd2 hb2 hs2))
                have hWl := HLW2.out
                have hgc := HW2.out.cell (i := n) (by omega)
                have hgf := HW2.out.box.frozen n
                generalize W[n]'_ = old at hgc
                have HW3 := Lib.hid (HW2.out.store n true)
                clear ht1 ht2 HC HWd HW hWl
                go_wp2
                clear hgc hgf hx1 hx2 HW2
                go_roundw
                case rel => exact ⟨k + 1, _, _, _, _, by go_num, by omega, HW3.out, HP3.out, (show dd.ops ≤ 1025 + ((k + 1 : Nat) : Int) by have := HOW.out; have := HO.out; omega)⟩
                case measure => simp [intOf]; omega
            · obtain rfl : k = ts.length := by omega
              have HC := Lib.hid (dcrash_c HW.out.ld.dsk (by have := HO.out; omega) keep HK.out.1 (by have := HK.out.2; omega))
              have HE := Lib.hid (fun j hj => (HP.out.end keep j hj).1)
              have HDE := Lib.hid (HP.out.dead keep)
              have HWL := Lib.hid HP.out.len
              have HCO : Hid ((crashD d l keep).ops ≤ 999999) := Lib.hid (by
                have := HO.out
                unfold crashD
                split <;> (show d.ops ≤ _; omega))
              obtain ⟨E, hE⟩ : ∃ E, E = crashD d l keep := ⟨_, rfl⟩
              rw [← hE] at HC HE HDE HCO
              generalize crL d l = el at *
              clear hE
              go_wp2_with fail
              refine HC.out.mono ?_
              rintro e w6 ⟨rfl, hd, hb⟩
              have HX := Lib.hid (HW.out.same hd hb)
              clear hd hb HC HW HP HO
              go_wp2
              go_loopw [13] (fun v13 w' => ∃ (k : Nat), v13 = .int .i64 (k : Int) ∧ k ≤ 256 ∧ Hid (w' = w6)) (fun v13 _ => 256 - (intOf v13).toNat)
              case atStart => exact ⟨0, rfl, Nat.zero_le _, Lib.hid rfl⟩
              case round =>
                obtain ⟨k, rfl, hk, HWW⟩ := hrel
                obtain rfl := HWW.out
                by_cases hkl : k < 256
                · have HR := Lib.hid (dread_c HX.out.ld.dsk (k : Int))
                  simp only [fitB_yes (i := (k : Int)) (by omega) (by omega), if_true, Int.toNat_natCast] at HR
                  have hWl := HWL.out
                  have hgc := HX.out.cell (i := k) (by omega)
                  have hWk : W[k]? = some (W[k]'(by omega)) := List.getElem?_eq_getElem _
                  obtain ⟨gb, cb, q1, q2, q3, q4⟩ := HX.out.rq.row
                  have q5 := q4 k hkl
                  rw [← HBD.out] at q5
                  have HEk := HE.out k
                  unfold maxLen at q3
                  generalize W[k]'_ = wk at *
                  clear hWl q4
                  cases wk
                  case false =>
                    rw [HEk hWk] at HR
                    generalize B.getD k ⟨#[]⟩ = s at *
                    clear hWk HEk
                    go_wp2_with fail
                    refine HR.out.mono ?_
                    rintro e w7 ⟨rfl, rfl⟩
                    go_wp2
                    go_roundw
                    case rel => exact ⟨k + 1, by go_num, by omega, Lib.hid trivial⟩
                    case measure => simp [intOf]; omega
                  case true =>
                    generalize B.getD k ⟨#[]⟩ = s at *
                    generalize E.is.getD k ⟨#[]⟩ = t at *
                    clear hWk HEk
                    go_wp2_with fail
                    refine HR.out.mono ?_
                    rintro e w7 ⟨rfl, rfl⟩
                    go_wp2
                    go_roundw
                    case rel => exact ⟨k + 1, by go_num, by omega, Lib.hid trivial⟩
                    case measure => simp [intOf]; omega
                · have HD := Lib.hid (ddead_c HX.out.ld.dsk)
                  rw [HDE.out] at HD
                  have hdw := dead_wr HDE.out ⟨#[]⟩ (by decide)
                  have HWR := Lib.hid (write_c HX.out.ld.dsk (by have := HCO.out; omega) 0 ⟨#[]⟩ (by decide))
                  rw [hdw.1] at HWR
                  have HO2 := Lib.hid (wrD_ops E el 0 ⟨#[]⟩)
                  have hde2 : rawE (wrD E el 0 ⟨#[]⟩) = 43 := by
                    have e : wrD E el 0 ⟨#[]⟩ = E := by
                      have h43 := hdw.2
                      unfold wrD
                      split
                      · rw [if_neg (by omega)]
                        simp [rawD, HDE.out]
                      · rfl
                    rw [e]; exact hdw.2
                  have HS2 := Lib.hid hde2
                  obtain ⟨E2, hE2⟩ : ∃ E2, E2 = wrD E el 0 ⟨#[]⟩ := ⟨_, rfl⟩
                  rw [← hE2] at HWR HO2 HS2
                  generalize wrL E el 0 ⟨#[]⟩ = el2 at *
                  clear hE2 hde2 hdw
                  go_wp2_with fail
                  refine HD.out.mono ?_
                  rintro e w7 ⟨rfl, rfl⟩
                  go_wp2_with fail
                  refine HWR.out.mono ?_
                  rintro e w8 ⟨rfl, F8, hd, hb, hs⟩
                  have HX8 := Lib.hid (HX.out.step hd hb hs)
                  clear hd hb hs
                  have HSC := Lib.hid (sync_c HX8.out.ld.dsk (by have := HO2.out; have := HCO.out; omega))
                  rw [HS2.out] at HSC
                  generalize syD E2 el2 = E3 at *
                  generalize syL E2 el2 = el3 at *
                  go_wp2_with fail
                  refine HSC.out.mono ?_
                  rintro e w9 ⟨rfl, hd, hb⟩
                  have HX9 := Lib.hid (HX8.out.same hd hb)
                  clear hd hb
                  go_wp2
                  go_ret
                  exact ⟨rfl, HX9.out.ld.nw⟩
end Go.Proofs.Ytjeaejeikgkcaaa
