/- The law DiskScript, walked. -/
import Derived.Test.YtjeaejeikgkcaaaN12
namespace Go.Proofs.Ytjeaejeikgkcaaa
set_option linter.unusedSimpArgs false
set_option linter.unusedVariables false
open Go.RowKit
theorem LT.fresh {w w1 w2 : World} (hd : Dsk w1 w.heap.size (fun k => k = w.heap.size) dsNew []) (hn : New w w1) (hr : RNew w1 w2 w1.heap.size 256 256) : ∃ F G, LT w w2 w.heap.size F w1.heap.size G dsNew [] := by
  obtain ⟨G, a, b, h1, h2, h3⟩ := hr
  refine ⟨_, G, (LD.fresh (New.refl w) hd hn).new h2, ⟨_, _, _, _, h1, ?_⟩, fun k hk => ?_, fun k hk hg => ?_⟩
  · exact ⟨rfl, rfl, rfl, rfl, rfl, rfl, nofun, nofun, by decide, by decide, by decide, by decide, rfl, rfl, rfl, List.length_replicate, List.length_replicate, by simp, by decide, by decide, by decide, by decide, List.nodup_nil, fun _ _ => rfl⟩
  · have := h3 k hk; have := hn.le; omega
  · have := h3 k hg
    have hl := hd.fp
    have hlt := hd.lt _ hl
    obtain rfl : k = w.heap.size := hk
    omega
set_option maxRecDepth 1000000 in
set_option maxHeartbeats 4000000 in
theorem diskScript_walk (rs : List Stp) (v0 : Value) (w : World) (h0 : SlStp w v0 rs) :
    Calls Try.prog 8 #[v0] w fun e w' => e = .returned (.bool true) ∧ New w w' := by
  obtain ⟨A0, c0, rfl, b0, m0, _⟩ := id h0
  have H := Lib.hid h0
  have HV := Lib.hid (heavy_c rs _ w h0)
  clear h0
  go_enter Try.func8, Try.ntmps8
  go_wp2_with fail
  refine HV.out.mono ?_
  rintro e w1 ⟨⟨bv, rfl, hbv⟩, rfl⟩
  cases bv
  case true =>
    go_wp2
    go_ret
    exact ⟨rfl, New.refl _⟩
  case false =>
    have hlen := hbv rfl
    clear hbv HV
    go_wp2_with fail
    refine (dnew_c w).mono ?_
    rintro e w1 ⟨rfl, hd, hn⟩
    have HD := Lib.hid hd
    have HN := Lib.hid hn
    clear hd hn
    go_wp2_with fail
    refine (rnew_c w1).mono ?_
    rintro e w2 ⟨rfl, hr⟩
    obtain ⟨F, G, hl⟩ := LT.fresh HD.out HN.out hr
    have HL := Lib.hid hl
    clear hl hr HD HN
    generalize w.heap.size = p at *
    generalize w1.heap.size = q at *
    go_wp2
    go_loopw [5] (fun v5 w' => ∃ (k : Nat) (d : DS) (l : List Nat) (F G : Nat → Prop), v5 = .int .i64 (k : Int) ∧ k ≤ rs.length ∧ Hid (LT w w' p F q G d l) ∧ Hid (d.ops ≤ k)) (fun v5 _ => rs.length - (intOf v5).toNat)
    case atStart => exact ⟨0, dsNew, [], F, G, rfl, Nat.zero_le _, HL.out, (show dsNew.ops ≤ ((0 : Nat) : Int) by decide)⟩
    case round =>
      clear HL
      clear F G
      obtain ⟨k, d, l, F, G, rfl, hk, HW, HP⟩ := hrel
      by_cases hkl : k < rs.length
      · obtain ⟨b, o, rfl, hat⟩ := H.out.at k hkl
        obtain ⟨r, hr⟩ : ∃ r, r = rs[k] := ⟨_, rfl⟩
        rw [← hr] at hat
        clear hr
        obtain ⟨hlt, hc0, hc1, hc2, hc3, hk1, hi1, hsz, hp0, hp1⟩ := hat
        have ht0 := HW.out.ld.nw.still hc0
        have ht1 := HW.out.ld.nw.still hc1
        have ht2 := HW.out.ld.nw.still hc2
        have ht3 := HW.out.ld.nw.still hc3
        have HC := Lib.hid (step_c HW.out (by have := HP.out; omega) r hi1.2 hsz hp0 hp1)
        have HO := Lib.hid (stD_ops d l r)
        unfold stV at HC
        obtain ⟨dd, hdd⟩ : ∃ dd, dd = stD d l r := ⟨_, rfl⟩
        obtain ⟨ll, hll⟩ : ∃ ll, ll = stL d l r := ⟨_, rfl⟩
        rw [← hdd] at HC HO
        rw [← hll] at HC
        generalize r.kind = kind at *
        generalize r.i = i at *
        generalize r.s = s at *
        generalize r.keep = keep at *
        clear hdd hll hc0 hc1 hc2 hc3 hlt hk1 hi1
        go_wp2_with fail
        refine HC.out.mono ?_
        rintro e w3 ⟨rfl, F3, G3, hl3⟩
        have HL3 := Lib.hid hl3
        clear hl3 ht0 ht1 ht2 ht3 HC HW
        go_wp2
        go_roundw
        case rel => exact ⟨k + 1, _, _, _, _, by go_num, by omega, HL3.out, (show dd.ops ≤ ((k + 1 : Nat) : Int) by have := HO.out; have := HP.out; omega)⟩
        case measure => simp [intOf]; omega
      · obtain rfl : k = rs.length := by omega
        have HS := Lib.hid (same_c HW.out)
        have HN := Lib.hid HW.out.ld.nw
        go_wp2_with fail
        refine HS.out.mono ?_
        rintro e w3 ⟨rfl, hn⟩
        have HN2 := Lib.hid (HN.out.trans hn)
        clear hn
        go_wp2
        go_ret
        exact ⟨rfl, HN2.out⟩
end Go.Proofs.Ytjeaejeikgkcaaa
