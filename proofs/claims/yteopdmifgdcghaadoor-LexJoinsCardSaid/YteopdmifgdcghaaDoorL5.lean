/- The law LexJoins, walked. -/
import Derived.Test.YteopdmifgdcghaaDoorW4
namespace Go.Proofs.YteopdmifgdcghaaDoor
set_option linter.unusedSimpArgs false
set_option linter.unusedVariables false
open Go.RowKit
set_option maxHeartbeats 1000000 in
theorem join_c (xs : List ByteArray) (v : Value) (w : World) (h : SlE Value.string w v xs) (hN : xs.length ≤ 140737488355328) (hS : (joinS xs).size ≤ 140737488355328) : Calls Tryd.prog 13 #[v] w fun e w' => e = .returned (.string (joinS xs)) ∧ New w w' := by
  obtain ⟨A, c, rfl, a1, a2, ha⟩ := id h
  have HC : Hid (Calls Tryd.prog 25 #[.slice A xs.length c, .string blank] w fun e w' => e = .returned (.string (joinS xs)) ∧ New w w') := by
    by_cases h0 : xs = []
    · subst h0
      exact Lib.hid ((Tryd.strings_Join_none A c blank w).mono fun e w' hh => ⟨hh.1, hh.2 ▸ New.refl w⟩)
    · obtain ⟨b, o, rfl, hlt, _⟩ := ha 0 (List.length_pos_iff.2 h0)
      have e : (Lib.join (xs.map (·.data.toList)) blank.data.toList) = joinL 32 (bys xs) := join_lib (bys xs)
      have := Tryd.strings_Join b o c xs blank w (fun j x hj => by
        obtain ⟨h1, h2⟩ := List.getElem?_eq_some_iff.1 hj
        obtain ⟨b', o', e, _, hc⟩ := ha j h1
        injection e with e; injection e with e1 e2
        subst e1; subst e2
        rw [hc, h2]) hlt hN a1 (by
        rw [e]
        unfold joinS mkB at hS
        rw [size_mk] at hS
        exact hS)
      rw [e] at this
      exact Lib.hid this
  clear h ha
  generalize joinS xs = S at *
  go_enter Tryd.func13, Tryd.ntmps13
  go_wp2_with fail
  refine HC.out.mono ?_
  rintro e w1 ⟨rfl, hn⟩
  have HN := Lib.hid hn
  clear hn
  go_wp2
  go_ret
  exact ⟨rfl, HN.out⟩
theorem parts_len (s : ByteArray) : (parts s).length ≤ s.size + 1 := by
  have h1 := count_parts s
  have h2 := Lib.countB_le blank (by decide) s.size s (Nat.le_refl _)
  omega
set_option maxRecDepth 1000000 in
set_option maxHeartbeats 4000000 in
theorem lexJoins_walk (l : List ByteArray) (v0 : Value) (w : World) (h0 : SlE Value.string w v0 l ∧ ∀ s ∈ l, s.size ≤ maxLen) (hsh : w.ShapedOpen Tryd.prog) :
    Calls Tryd.prog 5 #[v0] w fun e w' => e = .returned (.bool true) ∧ New w w' := by
  obtain ⟨m, hm⟩ := maxLen_of hsh
  have HV := Lib.hid (heavy_c l v0 w h0.1 h0.2)
  have HX := Lib.hid h0.1
  obtain ⟨A0, c0, rfl, b0, m0, _⟩ := id h0.1
  clear h0 hsh
  go_enter Tryd.func5, Tryd.ntmps5
  go_wp2_with fail
  refine HV.out.mono ?_
  rintro e w1 ⟨⟨bv, rfl, hbv⟩, rfl⟩
  cases bv
  case true =>
    go_wp2
    go_ret
    exact ⟨rfl, New.refl _⟩
  case false =>
    have hb := hbv rfl
    have HB := Lib.hid hb
    have hjs := joinS_size l
    have HJS : Hid ((joinS l).size ≤ 16384) := Lib.hid (by omega)
    have HLL : Hid (l.length ≤ 16384) := Lib.hid (by omega)
    clear hbv HV hb hjs
    have HE := Lib.hid (OwnE.of_box (enc := Value.string) (xs := ([] : List ByteArray)) (Box.last w #[] 9) (Nat.le_refl _) (Nat.zero_le _))
    have HY := Lib.hid (HX.out.new ((New.refl w).alloc (.cells #[] 9)))
    go_wp2_with (at_builtin; refine app_sl Value.string w _ rfl _ _ 22 9 rfl (.string ⟨#[]⟩) 16 rfl info9 rfl (by omega) _ [] rfl ((New.refl w).alloc _) HE.out _ l rfl HY.out (fun _ => rfl) (by have := HLL.out; simp; omega) ?_)
    intro A3 c3 w3 ho3 hn3 _
    have HO3 : Hid (SlE Value.string w3 (.slice A3 l.length c3) l) := Lib.hid (by have := ho3.sl; simpa using this)
    have HN3 := Lib.hid hn3
    have HC1 := Lib.hid (join_c l _ w3 HO3.out (by have := HLL.out; omega) (by have := HJS.out; omega))
    have HC2 := Lib.hid (fun W (h : SlE Value.string W (.slice A0 l.length c0) l) => rjoin_c l _ W h HB.out)
    obtain ⟨S, hS⟩ : ∃ S, S = joinS l := ⟨_, rfl⟩
    rw [← hS] at HC1 HC2 HJS
    clear ho3 hn3 HE HY hS
    go_wp2_with fail
    refine HC1.out.mono ?_
    rintro e w4 ⟨rfl, hn⟩
    have HN4 := Lib.hid (HN3.out.trans hn)
    have HO4 := Lib.hid (HO3.out.new hn)
    have HW1 := Lib.hid (words_c S w4 m (HN4.out.still hm))
    clear hn HC1 HN3 HO3
    go_wp2_with fail
    refine HW1.out.mono ?_
    rintro e w5 ⟨u, rfl, hu, hn⟩
    have HN5 := Lib.hid (HN4.out.trans hn)
    have HO5 := Lib.hid (HO4.out.new hn)
    have HU5 := Lib.hid hu
    have HW2 := Lib.hid (rwords_c S w5)
    clear hn hu HW1 HN4 HO4
    go_wp2_with fail
    refine HW2.out.mono ?_
    rintro e w6 ⟨v, rfl, hv, hn⟩
    have HN6 := Lib.hid (HN5.out.trans hn)
    have HO6 := Lib.hid (HO5.out.new hn)
    have HU6 := Lib.hid (HU5.out.new hn)
    have HV6 := Lib.hid hv
    have HR := Lib.hid (HC2.out w6 (HX.out.new HN6.out))
    clear hn hv HW2 HN5 HO5 HU5 HC2
    have HWE : Hid (wordsE S = 0 → wordsL S = parts S) := Lib.hid (fun h => by unfold wordsL; rw [if_pos h])
    obtain ⟨E, hE⟩ : ∃ E, E = wordsE S := ⟨_, rfl⟩
    obtain ⟨Wd, hW⟩ : ∃ Wd, Wd = wordsL S := ⟨_, rfl⟩
    rw [← hE, ← hW] at HWE
    rw [← hW] at HU6 HV6
    rw [← hE]
    clear hE hW
    go_wp2_with fail
    refine HR.out.mono ?_
    rintro e w7 ⟨rfl, hn⟩
    have HN7 := Lib.hid (HN6.out.trans hn)
    have HU7 := Lib.hid (HU6.out.new hn)
    have HV7 := Lib.hid (HV6.out.new hn)
    have HS1 := Lib.hid (same_c _ _ _ _ w7 (HO6.out.new hn) (HX.out.new HN7.out))
    rw [decide_eq_true rfl] at HS1
    clear hn HR HN6 HU6 HV6 HO6
    go_wp2_with fail
    refine HS1.out.mono ?_
    rintro e w8 ⟨rfl, hn⟩
    have HN8 := Lib.hid (HN7.out.trans hn)
    have HU8 := Lib.hid (HU7.out.new hn)
    have HS2 := Lib.hid (same_c _ _ _ _ w8 (HU7.out.new hn) (HV7.out.new hn))
    rw [decide_eq_true rfl] at HS2
    clear hn HS1 HN7 HU7 HV7
    go_wp2_with fail
    refine HS2.out.mono ?_
    rintro e w9 ⟨rfl, hn⟩
    have HN9 := Lib.hid (HN8.out.trans hn)
    have HU9 := Lib.hid (HU8.out.new hn)
    clear hn HS2 HN8 HU8
    by_cases hE0 : E = 0
    · have hp := HWE.out hE0
      have HPJ : Hid (joinS Wd = S) := Lib.hid (by rw [hp]; exact joinS_parts S)
      have hpl := parts_len S
      have HJ2 := Lib.hid (join_c Wd u w9 HU9.out (by rw [hp]; have := HJS.out; omega) (by rw [HPJ.out]; have := HJS.out; omega))
      rw [HPJ.out] at HJ2
      clear hp hpl
      go_wp2_with fail
      refine HJ2.out.mono ?_
      rintro e w10 ⟨rfl, hn⟩
      have HN10 := Lib.hid (HN9.out.trans hn)
      clear hn
      go_wp2
      go_ret
      exact ⟨rfl, HN10.out⟩
    · have hE1 : (E != 0) = true := by rw [bne_iff_ne]; exact hE0
      go_wp2
      go_ret
      exact ⟨rfl, HN9.out⟩
end Go.Proofs.YteopdmifgdcghaaDoor
