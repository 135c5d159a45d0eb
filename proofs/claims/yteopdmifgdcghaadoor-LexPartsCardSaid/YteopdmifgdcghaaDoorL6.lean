/- The law LexParts, walked. -/
import Derived.Test.YteopdmifgdcghaaDoorV5
import Derived.Deep.RegionHeld3
namespace Go.Proofs.YteopdmifgdcghaaDoor
set_option linter.unusedSimpArgs false
set_option linter.unusedVariables false
open Go.RowKit
section
variable {α : Type} {enc : α → Value} {w : World} {A : Option Addr} {n c : Nat} {xs : List α}
theorem SlE.takeN (h : SlE enc w (.slice A n c) xs) (m : Nat) (hm : m ≤ xs.length) : SlE enc w (.slice A m c) (xs.take m) := by
  obtain ⟨A', c', e, h1, h2, h3⟩ := h
  injection e with e1 e2 e3
  subst e1 e2 e3
  refine ⟨A, c, by rw [List.length_take, Nat.min_eq_left hm], by rw [List.length_take]; omega, h2, fun i hi => ?_⟩
  rw [List.length_take] at hi
  obtain ⟨b, o, e, hb, hc⟩ := h3 i (by omega)
  exact ⟨b, o, e, hb, by rw [hc, List.getElem_take]⟩
theorem SlE.dropN {b o : Nat} (h : SlE enc w (.slice (some ⟨b, o, none⟩) n c) xs) (m : Nat) (hm : m ≤ xs.length) : SlE enc w (.slice (some ⟨b, o + m, none⟩) (xs.length - m) (c - m)) (xs.drop m) := by
  obtain ⟨A', c', e, h1, h2, h3⟩ := h
  injection e with e1 e2 e3
  subst e1 e2 e3
  refine ⟨_, _, by rw [List.length_drop], by rw [List.length_drop]; omega, by omega, fun i hi => ?_⟩
  rw [List.length_drop] at hi
  obtain ⟨b', o', e, hb, hc⟩ := h3 (m + i) (by omega)
  injection e with e
  injection e with e1 e2 _
  subst e1 e2
  exact ⟨b, o + m, rfl, hb, by rw [Nat.add_assoc, hc, List.getElem_drop]⟩
end
theorem total_split (l : List ByteArray) (n : Nat) : total (l.take n) + total (l.drop n) = total l := by
  unfold total
  conv => rhs; rw [← List.take_append_drop n l]
  rw [List.map_append, List.sum_append]
set_option maxRecDepth 1000000 in
set_option maxHeartbeats 8000000 in
theorem lexParts_walk (l : List ByteArray) (v0 : Value) (at' : Int) (w : World) (h0 : SlE Value.string w v0 l ∧ ∀ s ∈ l, s.size ≤ maxLen) (n0 : 0 ≤ at') (n1 : at' ≤ 255) (hsh : w.ShapedOpen Tryd.prog) :
    Calls Tryd.prog 3 #[v0, .int .u8 at'] w fun e w' => e = .returned (.bool true) ∧ New w w' := by
  obtain ⟨m, hm⟩ := maxLen_of hsh
  have HV := Lib.hid (heavy_c l v0 w h0.1 h0.2)
  have HX := Lib.hid h0.1
  obtain ⟨A0, c0, rfl, b0, m0, g0⟩ := id h0.1
  have G0 := Lib.hid g0
  have HA := Lib.hid (⟨n0, n1⟩ : 0 ≤ at' ∧ at' ≤ 255)
  clear h0 hsh g0
  go_enter Tryd.func3, Tryd.ntmps3
  go_wp2_with fail
  refine HV.out.mono ?_
  rintro e w1 ⟨⟨bv, rfl, hbv⟩, rfl⟩
  cases bv
  case true =>
    go_wp2
    go_ret
    exact ⟨rfl, New.refl _⟩
  case false =>
    have hb := hbv rfl
    clear hbv HV
    have hl0 : ((l.length : Int) == 0) = true ∨ (((l.length : Int) == 0) = false ∧ 15 < (l.length : Int)) ∨ (((l.length : Int) == 0) = false ∧ (l.length : Int) ≤ 15) := by
      by_cases h : l.length = 0
      · exact .inl (by rw [beq_iff_eq]; omega)
      · have e : ((l.length : Int) == 0) = false := by rw [beq_eq_false_iff_ne]; omega
        by_cases h2 : 15 < (l.length : Int)
        · exact .inr (.inl ⟨e, h2⟩)
        · exact .inr (.inr ⟨e, by omega⟩)
    rcases hl0 with hl | ⟨hl, hl2⟩ | ⟨hl, hl2⟩
    · clear hb
      go_wp2
      go_ret
      exact ⟨rfl, New.refl _⟩
    · clear hb
      go_wp2
      go_ret
      exact ⟨rfl, New.refl _⟩
    · have hlne : l.length ≠ 0 := by
        intro h
        rw [h] at hl
        cases hl
      have HNE : Hid (l ≠ []) := Lib.hid (fun h => hlne (by rw [h]; rfl))
      have HB := Lib.hid hb
      have HLN := Lib.hid hlne
      have HPL := Lib.hid (parts_law l HNE.out)
      have HR1 := Lib.hid (rjoin_c l _ w HX.out hb)
      have HJ1 : Hid (∀ n W, n ≤ l.length → New w W → Calls Tryd.prog 9 #[.slice A0 n c0] W fun e w' => e = .returned (.string (joinS (l.take n))) ∧ New W w') := Lib.hid (fun n W hn hW => rjoin_c _ _ W ((HX.out.new hW).takeN n hn) (by
        have h1 := total_take l n
        have h2 : (l.take n).length ≤ l.length := by rw [List.length_take]; omega
        have := HB.out
        omega))
      obtain ⟨b, o, hA0⟩ : ∃ b o, A0 = some ⟨b, o, none⟩ := by
        obtain ⟨b, o, h, _⟩ := G0.out 0 (by omega)
        exact ⟨b, o, h⟩
      have HJ2 : Hid (∀ n W, n ≤ l.length → New w W → Calls Tryd.prog 9 #[.slice (some ⟨b, o + n, none⟩) (l.length - n) (c0 - n)] W fun e w' => e = .returned (.string (joinS (l.drop n))) ∧ New W w') := Lib.hid (fun n W hn hW => rjoin_c _ _ W (by
        have h := HX.out.new hW
        rw [hA0] at h
        exact h.dropN n hn) (by
        have h1 := total_split l n
        have h2 : (l.drop n).length ≤ l.length := by rw [List.length_drop]; omega
        have := HB.out
        omega))
      subst hA0
      have HWC := Lib.hid (fun s W (hW : New w W) => words_c s W m (hW.still hm))
      obtain ⟨S, hS⟩ : ∃ S, S = joinS l := ⟨_, rfl⟩
      rw [← hS] at HR1 HPL
      clear hb hlne hS
      go_wp2_with fail
      refine HR1.out.mono ?_
      rintro e w2 ⟨rfl, hn⟩
      have HN2 := Lib.hid hn
      have HW2 := Lib.hid (rwords_c S w2)
      clear hn HR1
      go_wp2_with fail
      refine HW2.out.mono ?_
      rintro e w3 ⟨u, rfl, hu, hn⟩
      obtain ⟨Au, cu, rfl⟩ := hu.form
      have HN3 := Lib.hid (HN2.out.trans hn)
      clear hn HW2 HN2 hu
      by_cases hE : wordsE S = 0
      · rw [hE]
        by_cases hln : (wordsL S).length = l.length
        · rw [hln]
          by_cases hsz : (S.size : Int) ≤ 198
          · obtain ⟨p1, p2, p3, p4⟩ := HPL.out hE hln (by omega)
            have HC1 := Lib.hid (HWC.out S w3 HN3.out)
            unfold WPost at HC1
            rw [hE, p1] at HC1
            have HC2 := Lib.hid (fun W (hW : New w W) => HWC.out (blank ++ S) W hW)
            have HC3 := Lib.hid (fun W (hW : New w W) => HWC.out (S ++ blank) W hW)
            unfold WPost at HC2 HC3
            rw [p2] at HC2
            rw [p3] at HC3
            obtain ⟨n, hn⟩ : ∃ n : Nat, at' % (l.length : Int) = (n : Int) := ⟨(at' % (l.length : Int)).toNat, by have := Int.emod_nonneg at' (show (l.length : Int) ≠ 0 by have := HLN.out; omega); omega⟩
            have hnl : n < l.length := by have := Int.emod_lt_of_pos at' (show (0 : Int) < (l.length : Int) by have := HLN.out; omega); omega
            have hn' : at'.tmod (l.length : Int) = (n : Int) := by rw [Int.tmod_eq_emod_of_nonneg n0]; exact hn
            have HC4 := Lib.hid (fun W (hW : New w W) => HWC.out (joinS (l.take n) ++ blank ++ blank ++ joinS (l.drop n)) W hW)
            unfold WPost at HC4
            rw [p4 n hnl] at HC4
            have HK1 := Lib.hid (fun W (hW : New w W) => HJ1.out n W (by omega) hW)
            have HK2 := Lib.hid (fun W (hW : New w W) => HJ2.out n W (by omega) hW)
            have hcn : ¬ c0 = n := by omega
            have hmx : (c0 : Int) ≤ 9223372036854775807 := by unfold maxLen at m0; omega
            have j1 : ((joinS (l.take n)).size : Int) ≤ 16384 := by
              have h1 := joinS_size (l.take n)
              have h2 := total_split l n
              have h3 : (l.take n).length ≤ l.length := by rw [List.length_take]; omega
              have := HB.out
              omega
            have j2 : ((joinS (l.drop n)).size : Int) ≤ 16384 := by
              have h1 := joinS_size (l.drop n)
              have h2 := total_split l n
              have h3 : (l.drop n).length ≤ l.length := by rw [List.length_drop]; omega
              have := HB.out
              omega
            have q0 : (0 : Int) ≤ (n : Int) := by omega
            have q1 : (n : Int) ≤ (l.length : Int) := by omega
            have q2 : (l.length : Int) ≤ (c0 : Int) := by omega
            have q3 : (n : Int) ≤ (c0 : Int) := by omega
            have q4 : n ≤ c0 := by omega
            generalize joinS (l.take n) = J1 at *
            generalize joinS (l.drop n) = J2 at *
            unfold blank at HC2 HC3 HC4
            have s1 : (J1 ++ (⟨#[32]⟩ : ByteArray)).size = J1.size + 1 := by rw [ByteArray.size_append]; rfl
            have s2 : (J1 ++ (⟨#[32]⟩ : ByteArray) ++ (⟨#[32]⟩ : ByteArray)).size = J1.size + 2 := by rw [ByteArray.size_append, s1]; rfl
            have k1 : ∀ W, (Op.stringOp .add J1 (⟨#[32]⟩ : ByteArray)).run Tryd.prog W = .ok (.string (J1 ++ (⟨#[32]⟩ : ByteArray))) W := fun W => run_string_add_sum W _ _ (by show J1.size + 1 ≤ _; omega)
            have k2 : ∀ W, (Op.stringOp .add (J1 ++ (⟨#[32]⟩ : ByteArray)) (⟨#[32]⟩ : ByteArray)).run Tryd.prog W = .ok (.string (J1 ++ (⟨#[32]⟩ : ByteArray) ++ (⟨#[32]⟩ : ByteArray))) W := fun W => run_string_add_sum W _ _ (by rw [s1]; show J1.size + 1 + 1 ≤ _; omega)
            have k3 : ∀ W, (Op.stringOp .add (J1 ++ (⟨#[32]⟩ : ByteArray) ++ (⟨#[32]⟩ : ByteArray)) J2).run Tryd.prog W = .ok (.string (J1 ++ (⟨#[32]⟩ : ByteArray) ++ (⟨#[32]⟩ : ByteArray) ++ J2)) W := fun W => run_string_add_sum W _ _ (by rw [s2]; omega)
            clear s1 s2
            clear p1 p2 p3 p4 HWC HPL HJ1 HJ2 hE hln
            go_wp2_with fail
            refine HC1.out.mono ?_
            rintro e w4 ⟨v4, rfl, hv, hn4⟩
            have HN4 := Lib.hid (HN3.out.trans hn4)
            have HV4 := Lib.hid hv
            clear hv hn4 HC1 HN3
            go_wp2_with fail
            refine (HC2.out _ HN4.out).mono ?_
            rintro e w5 ⟨v5, rfl, _, hn5⟩
            have HN5 := Lib.hid (HN4.out.trans hn5)
            have HV5 := Lib.hid (HV4.out.new hn5)
            clear hn5 HC2 HN4 HV4
            go_wp2_with fail
            refine (HC3.out _ HN5.out).mono ?_
            rintro e w6 ⟨v6, rfl, _, hn6⟩
            have HN6 := Lib.hid (HN5.out.trans hn6)
            have HV6 := Lib.hid (HV5.out.new hn6)
            have HN6d := Lib.hid HN6.out.drew
            clear hn6 HC3 HN5 HV5
            go_wp2_with fail
            go_region_held3 (fun V => New w V) (first | exact HN9.out | exact HN8.out | exact HN7.out | exact HN6d.out) (first
              | (go_at_call 11; with_reducible refine (HC4.out _ HN8.out).mono ?_; rintro e w9 ⟨v9, rfl, _, hn9⟩; have HN9 := Lib.hid (HN8.out.trans hn9); have HV9 := Lib.hid (HV8.out.new hn9); clear hn9)
              | (go_at_call 9; with_reducible refine (HK2.out _ HN7.out).mono ?_; rintro e w8 ⟨rfl, hn8⟩; have HN8 := Lib.hid (HN7.out.trans hn8); have HV8 := Lib.hid (HV7.out.new hn8); clear hn8)
              | (go_at_call 9; with_reducible refine (HK1.out _ HN6d.out).mono ?_; rintro e w7 ⟨rfl, hn7⟩; have HN7 := Lib.hid (HN6d.out.trans hn7); have HV7 := Lib.hid ((HV6.out.new (New.refl _).drew).new hn7); clear hn7))
            have HS9 := Lib.hid (same_c _ _ _ _ _ HV9.out (HX.out.new HN9.out))
            rw [decide_eq_true rfl] at HS9
            clear HK1 HK2 HC4 HV6 HV7 HV8 HV9 HN6 HN6d HN7 HN8 k1 k2 k3
            go_wp2_with fail
            refine HS9.out.mono ?_
            rintro e w10 ⟨rfl, hn10⟩
            have HN10 := Lib.hid (HN9.out.trans hn10)
            clear hn10
            go_wp2
            go_ret
            exact ⟨rfl, HN10.out⟩
          · have hsz2 : (198 : Int) < (S.size : Int) := by omega
            go_wp2
            go_ret
            exact ⟨rfl, HN3.out⟩
        · have hln2 : (((wordsL S).length : Int) != (l.length : Int)) = true := by rw [bne_iff_ne]; omega
          clear HPL HWC
          generalize (wordsL S).length = k at *
          go_wp2
          go_ret
          exact ⟨rfl, HN3.out⟩
      · have hE2 : (wordsE S != 0) = true := by rw [bne_iff_ne]; exact hE
        clear HPL HWC
        generalize wordsE S = E at *
        go_wp2
        go_ret
        exact ⟨rfl, HN3.out⟩
end Go.Proofs.YteopdmifgdcghaaDoor
