/- The law LexNumbers, walked. -/
import Derived.Test.YteopdmifgdcghaaDoorY2
namespace Go.Proofs.YteopdmifgdcghaaDoor
set_option linter.unusedSimpArgs false
set_option linter.unusedVariables false
open Go.RowKit
theorem laid_of2 {W : World} {a b c d : DataW Unit} (h : laidMet Tryd.prog [("math/bits.deBruijn32tab", a), ("math/bits.deBruijn64tab", b), ("internal/strconv.uint64pow10", Rows.laid_internal_strconv_uint64pow10), ("unicode/utf8.acceptRanges", c), ("strconv.ErrRange", Rows.laid_strconv_ErrRange), ("strconv.ErrSyntax", Rows.laid_strconv_ErrSyntax), ("unicode/utf8.first", d)] W) : Laid W := by
  have h3 := h.tail.tail
  have h4 := h3.tail.tail
  have h5 := h4.tail
  refine ⟨?_, ?_, ?_⟩
  · refine Lib.tabIs_of_head (g := 3) (t := 91) (e := 72) (n := 20) (by kernel_rfl) (by kernel_rfl) Tryd.underlying91 Tryd.underlying72 (by kernel_rfl) (by kernel_rfl) (rest := [("unicode/utf8.acceptRanges", c), ("strconv.ErrRange", Rows.laid_strconv_ErrRange), ("strconv.ErrSyntax", Rows.laid_strconv_ErrSyntax), ("unicode/utf8.first", d)]) ?_
    exact h3
  · obtain ⟨a0, s0, hv, _⟩ := laid_sentinel h5 (g := 0) (ti := 43) (tp := 87) (te := 89) (ts := 9) (by kernel_rfl) (by kernel_rfl) Tryd.underlying43 row87 Tryd.underlying87 Tryd.underlying89 rfl rfl Tryd.underlying9 (by kernel_rfl) (by kernel_rfl)
    exact ⟨_, _, by have := World.var?_cell (g := 0) (by kernel_rfl) hv 0; simpa using this⟩
  · obtain ⟨a0, s0, hv, _⟩ := laid_sentinel h4 (g := 1) (ti := 43) (tp := 87) (te := 89) (ts := 9) (by kernel_rfl) (by kernel_rfl) Tryd.underlying43 row87 Tryd.underlying87 Tryd.underlying89 rfl rfl Tryd.underlying9 (by kernel_rfl) (by kernel_rfl)
    exact ⟨_, _, by have := World.var?_cell (g := 1) (by kernel_rfl) hv 0; simpa using this⟩
set_option maxRecDepth 1000000 in
set_option maxHeartbeats 4000000 in
theorem lexNumbers_walk (s : ByteArray) (w : World) (hsh : w.ShapedOpen Tryd.prog) (L : Laid w) : Calls Tryd.prog 7 #[.string s] w fun e w' => e = .returned (.bool true) ∧ New w w' := by
  obtain ⟨m, hm⟩ := maxLen_of hsh
  by_cases hs : (s.size : Int) ≤ 16384
  · have HL := Lib.hid L
    have HC1 := Lib.hid (number_c s w (by omega) L)
    have HC2 := Lib.hid (fun W => rnumber_c s W (by omega))
    have HC3 := Lib.hid (fun W (h : New w W) => numbers_c s W m (by omega) (HL.out.new h) (h.still hm))
    have HC4 := Lib.hid (fun W => rnumbers_c s W (by omega))
    have HC5 := Lib.hid (fun W => name_c s W (by omega))
    have HC6 := Lib.hid (fun W => rname_c s W (by omega))
    unfold NPost at HC1 HC2
    unfold NsPost at HC3 HC4
    generalize numV s = V at *
    generalize numE s = E at *
    generalize nsE s = NE at *
    generalize nsL s = NL at *
    generalize nameB (runes s) = NB at *
    clear L hsh
    go_enter Tryd.func7, Tryd.ntmps7
    go_wp2_with fail
    refine HC1.out.mono ?_
    rintro e w1 ⟨rfl, hn⟩
    have HN1 := Lib.hid hn
    clear hn HC1
    go_wp2_with fail
    refine (HC2.out _).mono ?_
    rintro e w2 ⟨rfl, hn⟩
    have HN2 := Lib.hid (HN1.out.trans hn)
    clear hn HC2 HN1
    go_wp2_with fail
    refine (HC3.out _ HN2.out).mono ?_
    rintro e w3 ⟨u, rfl, hu, hn⟩
    have HN3 := Lib.hid (HN2.out.trans hn)
    have HU3 := Lib.hid hu
    clear hn hu HC3 HN2
    go_wp2_with fail
    refine (HC4.out _).mono ?_
    rintro e w4 ⟨v, rfl, hv, hn⟩
    have HN4 := Lib.hid (HN3.out.trans hn)
    have HU4 := Lib.hid (HU3.out.new hn)
    have HV4 := Lib.hid hv
    obtain ⟨A, ca, rfl, a1, a2, ha⟩ := id HU4.out
    obtain ⟨B, cb, rfl, b1, b2, hb⟩ := id HV4.out
    have HA := Lib.hid ha
    have HB := Lib.hid hb
    have za : (NL.length : Int) ≤ 9223372036854775807 := by unfold maxLen at a2; omega
    clear hn hv HC4 HN3 HU3 ha hb a1 a2 b1 b2
    go_wp2_with fail
    refine (HC5.out _).mono ?_
    rintro e w5 ⟨rfl, hn⟩
    have HN5 := Lib.hid hn
    clear hn HC5
    go_wp2_with fail
    refine (HC6.out _).mono ?_
    rintro e w6 ⟨rfl, hn⟩
    have HN6 := Lib.hid (HN5.out.trans hn)
    clear hn HC6 HN5
    go_wp2
    go_loopw [11] (fun v11 w' => ∃ (k : Nat), v11 = .int .i64 (k : Int) ∧ k ≤ NL.length ∧ Hid (New w4 w')) (fun v11 _ => NL.length - (intOf v11).toNat)
    case atStart => exact ⟨0, rfl, Nat.zero_le _, HN6.out⟩
    case round =>
      obtain ⟨k, rfl, hk, HN⟩ := hrel
      by_cases hkl : k < NL.length
      · obtain ⟨ba, oa, rfl, hla, hca⟩ := HA.out k hkl
        obtain ⟨bb, ob, rfl, hlb, hcb⟩ := HB.out k hkl
        have k1 := HN.out.still hca
        have k2 := HN.out.still hcb
        unfold nE at k1 k2
        generalize NL[k] = x at *
        clear hca hcb hla hlb
        go_wp2
        go_region
        go_wp2
        go_roundw
        case rel => exact ⟨k + 1, by go_num, by omega, HN.out.drew⟩
        case measure => simp [intOf]; omega
      · obtain rfl : k = NL.length := by omega
        go_wp2
        go_ret
        exact ⟨rfl, HN4.out.trans HN.out⟩
  · have hs2 : (16384 : Int) < (s.size : Int) := by omega
    clear L hsh
    go_enter Tryd.func7, Tryd.ntmps7
    go_wp2
    go_ret
    exact ⟨rfl, New.refl _⟩
end Go.Proofs.YteopdmifgdcghaaDoor
