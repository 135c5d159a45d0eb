/- Rows of texts that are the same; the bound; joining: walked. -/
import Derived.Test.YteopdmifgdcghaaDoorW2
import Derived.BigRegion
import Derived.Lib.SlicesS
import Derived.Test.YteopdmifgdcghaaDoorB3
namespace Go.Proofs.YteopdmifgdcghaaDoor
set_option linter.unusedSimpArgs false
set_option linter.unusedVariables false
open Go.RowKit
theorem take_next {xs ys : List ByteArray} {k : Nat} (h : xs.take k = ys.take k) (h1 : k < xs.length) (h2 : k < ys.length) : (xs.take (k + 1) = ys.take (k + 1)) ↔ xs[k] = ys[k] := by
  rw [List.take_succ_eq_append_getElem h1, List.take_succ_eq_append_getElem h2, h]
  constructor
  · intro e
    have := List.append_cancel_left e
    injection this
  · intro e
    rw [e]
set_option maxRecDepth 100000 in
set_option maxHeartbeats 2000000 in
theorem same_c (xs ys : List ByteArray) (u v : Value) (w : World) (h1 : SlE Value.string w u xs) (h2 : SlE Value.string w v ys) : Calls Tryd.prog 12 #[u, v] w fun e w' => e = .returned (.bool (decide (xs = ys))) ∧ New w w' := by
  obtain ⟨A, ca, rfl, a1, a2, ha⟩ := id h1
  obtain ⟨B, cb, rfl, b1, b2, hb⟩ := id h2
  have HA := Lib.hid ha
  have HB := Lib.hid hb
  have za : (xs.length : Int) ≤ 9223372036854775807 := by unfold maxLen at a2; omega
  have zb : (ys.length : Int) ≤ 9223372036854775807 := by unfold maxLen at b2; omega
  clear h1 h2 ha hb a1 a2 b1 b2
  by_cases hl : xs.length = ys.length
  · have hl2 : ((xs.length : Int) != (ys.length : Int)) = false := by rw [bne_eq_false_iff_eq]; omega
    have HL := Lib.hid hl
    clear hl
    go_enter Tryd.func12, Tryd.ntmps12
    go_wp2
    go_loopw [5] (fun v5 w' => ∃ (k : Nat), v5 = .int .i64 (k : Int) ∧ k ≤ xs.length ∧ Hid (xs.take k = ys.take k) ∧ Hid (New w w')) (fun v5 _ => xs.length - (intOf v5).toNat)
    case atStart => exact ⟨0, rfl, Nat.zero_le _, by rw [List.take_zero, List.take_zero]; rfl, New.refl _⟩
    case round =>
      obtain ⟨k, rfl, hk, HT, HN⟩ := hrel
      by_cases hkl : k < xs.length
      · have hky : k < ys.length := by rw [← HL.out]; exact hkl
        obtain ⟨ba, oa, rfl, hla, hca⟩ := HA.out k hkl
        obtain ⟨bb, ob, rfl, hlb, hcb⟩ := HB.out k hky
        have k1 := HN.out.still hca
        have k2 := HN.out.still hcb
        have HX := Lib.hid (take_next HT.out hkl hky)
        generalize xs[k] = x at *
        generalize ys[k] = y at *
        clear hca hcb hla hlb
        by_cases hxy : x = y
        · subst hxy
          have HT2 := Lib.hid (HX.out.2 rfl)
          clear HX HT
          go_wp2
          go_region
          go_wp2
          go_roundw
          case rel => exact ⟨k + 1, by go_num, by omega, HT2.out, HN.out.drew⟩
          case measure => simp [intOf]; omega
        · have hne : decide (xs = ys) = false := by
            refine decide_eq_false fun e => hxy (HX.out.1 ?_)
            rw [e]
          have HNE := Lib.hid hne
          have hbn : (x.toList == y.toList) = false := (Lib.bytes_beq_false_iff x y).2 hxy
          clear hne HX
          go_wp2
          go_region
          go_wp2
          go_ret
          rw [HNE.out]
          exact ⟨rfl, HN.out.drew⟩
      · obtain rfl : k = xs.length := by omega
        have he : xs = ys := by
          have h := HT.out
          rw [List.take_length, HL.out, List.take_length] at h
          exact h
        have HE := Lib.hid (decide_eq_true he)
        clear he
        go_wp2
        go_ret
        rw [HE.out]
        exact ⟨rfl, HN.out⟩
  · have hl2 : ((xs.length : Int) != (ys.length : Int)) = true := by rw [bne_iff_ne]; omega
    have HE : Hid (decide (xs = ys) = false) := Lib.hid (decide_eq_false fun e => hl (by rw [e]))
    go_enter Tryd.func12, Tryd.ntmps12
    go_wp2
    go_ret
    rw [HE.out]
    exact ⟨rfl, New.refl _⟩
theorem maxLen_of {w : World} (hsh : w.ShapedOpen Tryd.prog) : ∃ m, w.cell? ⟨2, 0, none⟩ = some (.int .i64 m) :=
  cell_of_shapedOpen_int (P := Tryd.prog) (g := 2) (t := 3) (zero := #[.int .i64 0]) hsh (of_decide_eq_true (by kernel_rfl)) (by kernel_rfl) rfl (by kernel_rfl) (by kernel_rfl) Tryd.underlying3
set_option maxRecDepth 100000 in
set_option maxHeartbeats 1000000 in
/-- The law LexWords, walked. -/
theorem lexWords_walk (s : ByteArray) (w : World) (hsh : w.ShapedOpen Tryd.prog) : Calls Tryd.prog 4 #[.string s] w fun e w' => e = .returned (.bool true) ∧ New w w' := by
  obtain ⟨m, hm⟩ := maxLen_of hsh
  have HC1 := Lib.hid (words_c s w m hm)
  have HC2 := Lib.hid (fun W => rwords_c s W)
  by_cases hb : (s.size : Int) ≤ 16384
  · go_enter Tryd.func4, Tryd.ntmps4
    go_wp2_with fail
    refine HC1.out.mono ?_
    rintro e w1 ⟨u, rfl, hu, hn⟩
    have HU := Lib.hid hu
    have HN := Lib.hid hn
    clear hu hn HC1
    go_wp2_with fail
    refine (HC2.out _).mono ?_
    rintro e w2 ⟨v, rfl, hv, hn⟩
    have HS := Lib.hid (same_c _ _ _ _ _ (HU.out.new hn) hv)
    have HN2 := Lib.hid (HN.out.trans hn)
    rw [decide_eq_true rfl] at HS
    clear hv hn HC2 HU HN
    generalize wordsE s = E at *
    generalize wordsL s = W at *
    go_wp2_with fail
    refine HS.out.mono ?_
    rintro e w3 ⟨rfl, hn⟩
    have HN3 := Lib.hid (HN2.out.trans hn)
    clear hn
    go_wp2
    go_ret
    exact ⟨rfl, HN3.out⟩
  · go_enter Tryd.func4, Tryd.ntmps4
    go_wp2
    go_ret
    exact ⟨rfl, New.refl _⟩
end Go.Proofs.YteopdmifgdcghaaDoor
