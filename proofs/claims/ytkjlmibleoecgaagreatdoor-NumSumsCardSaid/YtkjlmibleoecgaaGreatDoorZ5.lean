/- The program's num: Parse. (Printed by mkz5.py.) -/
import Derived.Test.YtkjlmibleoecgaaGreatDoorZ3
import Derived.Test.YtkjlmibleoecgaaGreatDoorNat8
namespace Go.Proofs.YtkjlmibleoecgaaGreatDoor
set_option linter.unusedSimpArgs false
set_option linter.unusedVariables false
open Go.RowKit
def errZ (l : List UInt8) : Int := if isZ l = true then 0 else 10
theorem cut_minus (l : List UInt8) : (l.head? = some 45 ∧ Lib.hasPrefix l [45] = true ∧ Lib.trimPrefix l [45] = l.tail) ∨ (l.head? ≠ some 45 ∧ Lib.hasPrefix l [45] = false ∧ Lib.trimPrefix l [45] = l) := by
  cases l with
  | nil => exact .inr ⟨by simp, rfl, rfl⟩
  | cons a r =>
    by_cases h : a = 45
    · subst h; exact .inl ⟨rfl, by simp [Lib.hasPrefix], by simp [Lib.trimPrefix, Lib.hasPrefix]⟩
    · have : Lib.hasPrefix (a :: r) [45] = false := by
        show ((45 : UInt8) == a && List.isPrefixOf [] r) = false
        rw [show ((45 : UInt8) == a) = false from by rw [beq_eq_false_iff_ne]; exact fun e => h e.symm]; rfl
      exact .inr ⟨by simpa using h, this, by unfold Lib.trimPrefix; rw [this]; rfl⟩
theorem isNum_len' {l : List UInt8} : (dg B32 (pNum l)).length ≤ l.length := by
  by_cases h : isNum l = true
  · exact isNum_len h (by rw [B32_eq]; omega)
  · have : pNum l = 0 := by unfold pNum; rw [if_neg h]
    rw [this, dg_zero]; simp
set_option maxRecDepth 100000 in
set_option maxHeartbeats 2000000 in
theorem parse_n (s : ByteArray) (w : World) (hs : s.size ≤ 4096) :
    Calls Tryz.prog 50 #[.string s] w fun e w' => ∃ v, e = .returned (.tuple #[v, .int .i64 (errZ s.data.toList)]) ∧ NumB w' v (zNum s.data.toList) 4096 ∧ New w w' := by
  have HB := Lib.hid (Box.last w #[.slice none 0 0, .bool false] NNum)
  have HN := Lib.hid ((New.refl w).alloc (.cells #[.slice none 0 0, .bool false] NNum))
  obtain ⟨ds, hds⟩ : ∃ ds : ByteArray, ds = ⟨(Lib.trimPrefix s.data.toList [45]).toArray⟩ := ⟨_, rfl⟩
  have hdl : ds.data.toList = Lib.trimPrefix s.data.toList [45] := by rw [hds]
  have hcp := fun W => Tryz.strings_CutPrefix s ⟨#[45]⟩ W
  rw [show (⟨#[45]⟩ : ByteArray).data.toList = [45] from rfl, ← hds] at hcp
  have hsl : s.data.toList.length ≤ 4096 := by rw [← Lib.size_eq]; exact hs
  generalize s.data.toList = l at *
  have hdz : ds.size ≤ 4096 := by
    rw [Lib.size_eq, hdl]
    rcases cut_minus l with ⟨_, _, h⟩ | ⟨_, _, h⟩
    · rw [h, List.length_tail]; omega
    · rw [h]; exact hsl
  have hpn := fun W => parse_c ds W hdz
  rw [hdl] at hpn
  have hcm := cut_minus l
  have hlen : (dg B32 (pNum (Lib.trimPrefix l [45]))).length ≤ 4096 := Nat.le_trans isNum_len' (by rw [← hdl, ← Lib.size_eq]; exact hdz)
  have hisz : isZ l = if l.head? = some 45 then isNum l.tail && decide (0 < pNum l.tail) else isNum l := rfl
  have hzn : zNum l = if isZ l = true then (if l.head? = some 45 then -(pNum l.tail : Int) else (pNum l : Int)) else 0 := rfl
  have hez : errZ l = if isZ l = true then 0 else 10 := rfl
  rw [hez, hzn]
  have hbl : ∃ (bl : Bool) (t : List UInt8), Lib.hasPrefix l [45] = bl ∧ Lib.trimPrefix l [45] = t ∧ isZ l = (if bl = true then isNum t && decide (0 < pNum t) else isNum t) ∧ (if l.head? = some 45 then -(pNum l.tail : Int) else (pNum l : Int)) = sgn bl (pNum t) := by
    rcases hcm with ⟨h1, h2, h3⟩ | ⟨h1, h2, h3⟩
    · exact ⟨true, l.tail, h2, h3, by rw [hisz, if_pos h1]; rfl, by rw [if_pos h1]; unfold sgn; rfl⟩
    · exact ⟨false, l, h2, h3, by rw [hisz, if_neg h1]; rfl, by rw [if_neg h1]; unfold sgn; rfl⟩
  obtain ⟨bl, t, h1, h2, h3, h4⟩ := hbl
  rw [h1] at hcp
  rw [h2] at hpn hlen
  rw [h3, h4]
  clear h1 h2 h3 h4 hcm hisz hzn hez hdl hds hsl hdz
  have HCP := Lib.hid hcp
  have HPN := Lib.hid hpn
  have HLN := Lib.hid hlen
  clear hcp hpn hlen hs
  have hpe : pErr t = if isNum t = true then 0 else 10 := rfl
  rw [hpe] at HPN
  cases hi : isNum t
  · have hc : (if bl = true then false && decide (0 < pNum t) else false) = false := by cases bl <;> rfl
    rw [hi] at HPN
    rw [hc]
    simp only [Bool.false_eq_true, if_false] at HPN ⊢
    clear hc hi hpe
    go_enter Tryz.func50, Tryz.ntmps50
    go_wp2_with fail
    refine (HCP.out _).mono ?_
    rintro e w1 ⟨rfl, rfl⟩
    go_wp2_with fail
    refine (HPN.out _).mono ?_
    rintro e w5 ⟨v5, rfl, hv5, hn5⟩
    obtain ⟨A5, l5, c5, rfl⟩ := hv5.form
    have hn5' := hn5.alloc (.cells #[.slice A5 l5 c5] NNat)
    have HB6 := Lib.hid (HB.out.new hn5')
    have HN6 := Lib.hid (HN.out.trans hn5')
    have HV6 := Lib.hid (show NatB (w5.alloc (.cells #[.slice A5 l5 c5] NNat)) (.agg #[.slice A5 l5 c5]) _ 4096 from ⟨hv5.new ((New.refl w5).alloc (.cells #[.slice A5 l5 c5] NNat)), HLN.out⟩)
    obtain ⟨c6, _⟩ := box_cell0 (Box.last w5 #[.slice A5 l5 c5] NNat)
    clear hv5 hn5 hn5' HB HN
    obtain ⟨W6, hW6⟩ : ∃ X : World, X = w5.alloc (.cells #[.slice A5 l5 c5] NNat) := ⟨_, rfl⟩
    clear hW6
    obtain ⟨c4, c5, f4, f5⟩ := HB6.out.two
    have HNW := Lib.hid (New.set2 HN6.out (Nat.le_refl w.heap.size) (.slice none 0 0) (.bool false))
    have g0 := (HB6.out.lay2 (.slice none 0 0) (.bool false)).cell0'
    have g1 := (HB6.out.lay2 (.slice none 0 0) (.bool false)).cell1'
    go_wp2
    refine bodyPost_ret (v := .tuple #[.agg #[.slice none 0 0, .bool false], .int .i64 10]) (by simp [results, Tryz.results50, go_sem, g0, g1]) rfl ⟨_, rfl, ⟨⟨none, 0, 0, rfl, NatV.zero _⟩, by rw [show (0 : Int).natAbs = 0 from rfl, dg_zero]; simp⟩, HNW.out⟩
  · rw [hi] at HPN
    simp only [Bool.true_and, if_true] at HPN ⊢
    clear hi hpe
    cases bl
    · simp only [Bool.false_eq_true, if_false, if_true]
      have HMK := Lib.hid (fun W v (h : NatB W v (pNum t) 4096) => make_n false h (by omega))
      generalize hx : pNum t = x at *
      clear hx
      go_enter Tryz.func50, Tryz.ntmps50
      go_wp2_with fail
      refine (HCP.out _).mono ?_
      rintro e w1 ⟨rfl, rfl⟩
      go_wp2_with fail
      refine (HPN.out _).mono ?_
      rintro e w5 ⟨v5, rfl, hv5, hn5⟩
      obtain ⟨A5, l5, c5, rfl⟩ := hv5.form
      have hn5' := hn5.alloc (.cells #[.slice A5 l5 c5] NNat)
      have HB6 := Lib.hid (HB.out.new hn5')
      have HN6 := Lib.hid (HN.out.trans hn5')
      have HV6 := Lib.hid (show NatB (w5.alloc (.cells #[.slice A5 l5 c5] NNat)) (.agg #[.slice A5 l5 c5]) _ 4096 from ⟨hv5.new ((New.refl w5).alloc (.cells #[.slice A5 l5 c5] NNat)), HLN.out⟩)
      obtain ⟨c6, _⟩ := box_cell0 (Box.last w5 #[.slice A5 l5 c5] NNat)
      clear hv5 hn5 hn5' HB HN
      go_wp2_with fail
      obtain ⟨W6, hW6⟩ : ∃ X : World, X = w5.alloc (.cells #[.slice A5 l5 c5] NNat) := ⟨_, rfl⟩
      rw [← hW6] at HB6 HN6 HV6 c6 ⊢
      clear hW6
      refine (HMK.out _ _ HV6.out).mono ?_
      rintro e w7 ⟨v7, rfl, hv7, hn7⟩
      obtain ⟨A1, l1, c1, rfl, _⟩ := hv7.form
      have HB7 := Lib.hid (HB6.out.new hn7)
      obtain ⟨c4, c5, f4, f5⟩ := HB7.out.two
      generalize hbb : decide (sgn false x < 0) = bb at *
      have HV7 := Lib.hid (hv7.lay2 HB7.out (.slice A1 l1 c1) (.bool bb))
      have HNW := Lib.hid (New.set2 (HN6.out.trans hn7) (Nat.le_refl w.heap.size) (.slice A1 l1 c1) (.bool bb))
      have g0 := (HB7.out.lay2 (.slice A1 l1 c1) (.bool bb)).cell0'
      have g1 := (HB7.out.lay2 (.slice A1 l1 c1) (.bool bb)).cell1'
      clear hv7 hn7 hbb
      go_wp2
      refine bodyPost_ret (v := .tuple #[.agg #[.slice A1 l1 c1, .bool bb], .int .i64 0]) (by simp [results, Tryz.results50, go_sem, g0, g1]) rfl ⟨_, rfl, HV7.out, HNW.out⟩
    · simp only [if_true]
      have HMK := Lib.hid (fun W v (h : NatB W v (pNum t) 4096) => make_n true h (by omega))
      have HBI := Lib.hid (fun W v (h : NatB W v (pNum t) 4096) => bits_b h (by omega))
      generalize hx : pNum t = x at *
      clear hx
      rcases bits_val x with ⟨hb1, hb2⟩ | ⟨hb1, hb2⟩
      · rw [hb2] at HBI
        have hd : decide (0 < x) = false := decide_eq_false (by omega)
        rw [hd]
        simp only [Bool.false_eq_true, if_false]
        clear hb1 hb2 hd HMK
        go_enter Tryz.func50, Tryz.ntmps50
        go_wp2_with fail
        refine (HCP.out _).mono ?_
        rintro e w1 ⟨rfl, rfl⟩
        go_wp2_with fail
        refine (HPN.out _).mono ?_
        rintro e w5 ⟨v5, rfl, hv5, hn5⟩
        obtain ⟨A5, l5, c5, rfl⟩ := hv5.form
        have hn5' := hn5.alloc (.cells #[.slice A5 l5 c5] NNat)
        have HB6 := Lib.hid (HB.out.new hn5')
        have HN6 := Lib.hid (HN.out.trans hn5')
        have HV6 := Lib.hid (show NatB (w5.alloc (.cells #[.slice A5 l5 c5] NNat)) (.agg #[.slice A5 l5 c5]) _ 4096 from ⟨hv5.new ((New.refl w5).alloc (.cells #[.slice A5 l5 c5] NNat)), HLN.out⟩)
        obtain ⟨c6, _⟩ := box_cell0 (Box.last w5 #[.slice A5 l5 c5] NNat)
        clear hv5 hn5 hn5' HB HN
        go_wp2_with fail
        obtain ⟨W6, hW6⟩ : ∃ X : World, X = w5.alloc (.cells #[.slice A5 l5 c5] NNat) := ⟨_, rfl⟩
        rw [← hW6] at HB6 HN6 HV6 c6 ⊢
        clear hW6
        refine (HBI.out _ _ HV6.out).mono ?_
        rintro e w7 ⟨rfl, hn7⟩
        have HB7 := Lib.hid (HB6.out.new hn7)
        have HN7 := Lib.hid (HN6.out.trans hn7)
        clear hn7
        obtain ⟨c4, c5, f4, f5⟩ := HB7.out.two
        have HNW := Lib.hid (New.set2 HN7.out (Nat.le_refl w.heap.size) (.slice none 0 0) (.bool false))
        have g0 := (HB7.out.lay2 (.slice none 0 0) (.bool false)).cell0'
        have g1 := (HB7.out.lay2 (.slice none 0 0) (.bool false)).cell1'
        go_wp2
        refine bodyPost_ret (v := .tuple #[.agg #[.slice none 0 0, .bool false], .int .i64 10]) (by simp [results, Tryz.results50, go_sem, g0, g1]) rfl ⟨_, rfl, ⟨⟨none, 0, 0, rfl, NatV.zero _⟩, by rw [show (0 : Int).natAbs = 0 from rfl, dg_zero]; simp⟩, HNW.out⟩
      · have hd : decide (0 < x) = true := decide_eq_true hb1
        have hbz : ((bitsN x : Int) == 0) = false := by rw [beq_eq_false_iff_ne]; omega
        rw [hd]
        simp only [if_true]
        generalize bitsN x = bz at *
        clear hb1 hb2 hd
        go_enter Tryz.func50, Tryz.ntmps50
        go_wp2_with fail
        refine (HCP.out _).mono ?_
        rintro e w1 ⟨rfl, rfl⟩
        go_wp2_with fail
        refine (HPN.out _).mono ?_
        rintro e w5 ⟨v5, rfl, hv5, hn5⟩
        obtain ⟨A5, l5, c5, rfl⟩ := hv5.form
        have hn5' := hn5.alloc (.cells #[.slice A5 l5 c5] NNat)
        have HB6 := Lib.hid (HB.out.new hn5')
        have HN6 := Lib.hid (HN.out.trans hn5')
        have HV6 := Lib.hid (show NatB (w5.alloc (.cells #[.slice A5 l5 c5] NNat)) (.agg #[.slice A5 l5 c5]) _ 4096 from ⟨hv5.new ((New.refl w5).alloc (.cells #[.slice A5 l5 c5] NNat)), HLN.out⟩)
        obtain ⟨c6, _⟩ := box_cell0 (Box.last w5 #[.slice A5 l5 c5] NNat)
        clear hv5 hn5 hn5' HB HN
        go_wp2_with fail
        obtain ⟨W6, hW6⟩ : ∃ X : World, X = w5.alloc (.cells #[.slice A5 l5 c5] NNat) := ⟨_, rfl⟩
        rw [← hW6] at HB6 HN6 HV6 c6 ⊢
        clear hW6
        refine (HBI.out _ _ HV6.out).mono ?_
        rintro e w8 ⟨rfl, hn8⟩
        replace HB6 := Lib.hid (HB6.out.new hn8)
        replace HN6 := Lib.hid (HN6.out.trans hn8)
        replace HV6 := Lib.hid (HV6.out.new hn8)
        have c6' := hn8.still c6
        clear hn8 c6
        go_wp2_with fail
        refine (HMK.out _ _ HV6.out).mono ?_
        rintro e w7 ⟨v7, rfl, hv7, hn7⟩
        obtain ⟨A1, l1, c1, rfl, _⟩ := hv7.form
        have HB7 := Lib.hid (HB6.out.new hn7)
        obtain ⟨c4, c5, f4, f5⟩ := HB7.out.two
        generalize hbb : decide (sgn true x < 0) = bb at *
        have HV7 := Lib.hid (hv7.lay2 HB7.out (.slice A1 l1 c1) (.bool bb))
        have HNW := Lib.hid (New.set2 (HN6.out.trans hn7) (Nat.le_refl w.heap.size) (.slice A1 l1 c1) (.bool bb))
        have g0 := (HB7.out.lay2 (.slice A1 l1 c1) (.bool bb)).cell0'
        have g1 := (HB7.out.lay2 (.slice A1 l1 c1) (.bool bb)).cell1'
        clear hv7 hn7 hbb
        go_wp2
        refine bodyPost_ret (v := .tuple #[.agg #[.slice A1 l1 c1, .bool bb], .int .i64 0]) (by simp [results, Tryz.results50, go_sem, g0, g1]) rfl ⟨_, rfl, HV7.out, HNW.out⟩
end Go.Proofs.YtkjlmibleoecgaaGreatDoor
