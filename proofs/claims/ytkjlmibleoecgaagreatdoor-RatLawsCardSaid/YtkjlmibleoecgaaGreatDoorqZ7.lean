/- law02: number. -/
import Derived.Test.YtkjlmibleoecgaaGreatDoorqZ6
import Derived.Deep.RegionWith
namespace Go.Proofs.YtkjlmibleoecgaaGreatDoor
set_option linter.unusedSimpArgs false
set_option linter.unusedVariables false
open Go.RowKit
theorem rparse_n (s : ByteArray) (w : World) (hs : s.size ≤ 4096) :
    Calls Tryz.prog 51 #[.string s] w fun e w' => ∃ v, e = .returned (.tuple #[v, .int .i64 (errZ s.data.toList)]) ∧ RNumV w' v (zNum s.data.toList) ∧ New w w' := by
  by_cases h0 : s.size = 0
  · have hl : s.data.toList = [] := by rw [← List.length_eq_zero_iff, ← Lib.size_eq]; exact h0
    have := rparse_at s s false w hs (Nat.le_refl _) (.inr (.inl ⟨rfl, rfl, h0⟩))
    rw [hl] at this ⊢
    exact this
  · have h1 : 0 < s.size := by omega
    have hh := head_get h1
    by_cases hb : (s[0]'h1).toNat = 45
    · have h45 : s.data.toList.head? = some 45 := by rw [hh]; congr 1; exact UInt8.toNat_inj.1 hb
      have hd : (s.extract 1 s.size).data.toList = s.data.toList.tail := by rw [Lib.extract_to_end, List.drop_one]
      have := rparse_at s (s.extract 1 s.size) true w hs (by rw [Lib.size_eq, hd, List.length_tail, ← Lib.size_eq]; omega) (.inl ⟨rfl, ⟨h1, hb⟩, rfl⟩)
      rw [hd] at this
      simp only [Bool.not_true, Bool.false_or] at this
      unfold errZ zNum isZ
      rw [if_pos h45]
      simp only [h45, if_true]
      unfold sgn at this
      simp only [if_true] at this
      exact this
    · have h45 : s.data.toList.head? ≠ some 45 := by
        rw [hh]; intro e; exact hb (by rw [Option.some.inj e]; rfl)
      have := rparse_at s s false w hs (Nat.le_refl _) (.inr (.inr ⟨rfl, rfl, h1, hb⟩))
      simp only [Bool.not_false, Bool.true_or, Bool.and_true] at this
      unfold errZ zNum isZ
      rw [if_neg h45]
      simp only [h45, if_false]
      unfold sgn at this
      simpa using this
theorem errZ_is (l : List UInt8) : ((errZ l == 0) = isZ l) := by unfold errZ; cases isZ l <;> rfl
set_option maxRecDepth 100000 in
set_option maxHeartbeats 4000000 in
theorem number_n (s : ByteArray) (w : World) (hs : s.size ≤ 4096) :
    Calls Tryz.prog 25 #[.string s] w fun e w' => ∃ v u, e = .returned (.tuple #[v, u, .bool (isZ s.data.toList), .bool true]) ∧ NumB w' v (zNum s.data.toList) 4096 ∧ RNumV w' u (zNum s.data.toList) ∧ New w w' := by
  have hp := fun W => parse_n s W hs
  have hq := fun W => rparse_n s W hs
  have he := errZ_is s.data.toList
  generalize s.data.toList = l at *
  have HP := Lib.hid hp
  have HQ := Lib.hid hq
  clear hp hq hs
  generalize hpe : errZ l = pe at *
  have HPE := Lib.hid hpe
  clear hpe
  have HB1 := Lib.hid ((Box.last w #[.slice none 0 0, .bool false] NNum).alloc (.cells #[.bool false, .slice none 0 0] RNum))
  have HB2 := Lib.hid (Box.last2 w (.cells #[.slice none 0 0, .bool false] NNum) #[.bool false, .slice none 0 0] RNum)
  have HN := Lib.hid (((New.refl w).alloc (.cells #[.slice none 0 0, .bool false] NNum)).alloc (.cells #[.bool false, .slice none 0 0] RNum))
  go_enter Tryz.func25, Tryz.ntmps25
  go_wp2_with fail
  refine (HP.out _).mono ?_
  rintro e w1 ⟨v, rfl, hv, hn1⟩
  obtain ⟨A1, l1, c1, rfl, _⟩ := hv.form
  generalize hb1e : decide (zNum l < 0) = b1 at *
  have hn1' := hn1.alloc (.cells #[.slice A1 l1 c1, .bool b1] NNum)
  have HV1 := Lib.hid (hv.new ((New.refl w1).alloc (.cells #[.slice A1 l1 c1, .bool b1] NNum)))
  have HB11 := Lib.hid (HB1.out.new hn1')
  have HB21 := Lib.hid (HB2.out.new hn1')
  have HN1 := Lib.hid (HN.out.trans hn1')
  have HB6 := Lib.hid (Box.last w1 #[.slice A1 l1 c1, .bool b1] NNum)
  have HL1 := Lib.hid (HB2.out.new hn1).lt
  clear hv hn1 hn1' HB1 HB2 HN hb1e
  go_wp2_with fail
  refine (HQ.out _).mono ?_
  rintro e w2 ⟨u, rfl, hu, hn2⟩
  obtain ⟨b2, A2, l2, c2, rfl⟩ := hu.form
  have hn2' := hn2.alloc (.cells #[.bool b2, .slice A2 l2 c2] RNum)
  have HU2 := Lib.hid (hu.new ((New.refl w2).alloc (.cells #[.bool b2, .slice A2 l2 c2] RNum)))
  have HV2 := Lib.hid (HV1.out.new hn2')
  have HB12 := Lib.hid (HB11.out.new hn2')
  have HB22 := Lib.hid (HB21.out.new hn2')
  have HN2 := Lib.hid (HN1.out.trans hn2')
  have HB62 := Lib.hid (HB6.out.new hn2')
  have HB8 := Lib.hid (Box.last w2 #[.bool b2, .slice A2 l2 c2] RNum)
  have HL2 := Lib.hid (HB21.out.new hn2).lt
  clear hu hn2 hn2' HV1 HB11 HB21 HN1 HB6
  go_wp2
  generalize w2.alloc (.cells #[.bool b2, .slice A2 l2 c2] RNum) = W3 at *
  obtain ⟨p6, p7, _, _⟩ := HB62.out.two
  obtain ⟨p8, p9, _, _⟩ := HB8.out.two
  obtain ⟨c4, c5, f4, f5⟩ := HB12.out.two
  obtain ⟨d4, d5, k4, k5⟩ := HB22.out.two
  have he2 := HPE.out
  have hs1 := HL1.out
  have hs2 := HL2.out
  have HD1 := Lib.hid (HB12.out.new (New.refl W3).drew)
  have HD2 := Lib.hid (HB22.out.new (New.refl W3).drew)
  have HE2 := Lib.hid ((HD2.out.far (p := w.heap.size) (i := 0) (by omega) (.slice A1 l1 c1)).far (p := w.heap.size) (i := 1) (by omega) (.bool b1))
  have HV5 := Lib.hid (((HV2.out.new (New.refl W3).drew).lay2 HD1.out (.slice A1 l1 c1) (.bool b1)).set HE2.out (by decide) (i := 0) (.bool b2) |>.set (HE2.out.set 0 (.bool b2)) (by decide) (i := 1) (.slice A2 l2 c2))
  have HU5 : Hid (RNumV (((((W3.drew).setCell ⟨w.heap.size, 0, none⟩ (.slice A1 l1 c1)).setCell ⟨w.heap.size, 1, none⟩ (.bool b1)).setCell ⟨w.heap.size + 1, 0, none⟩ (.bool b2)).setCell ⟨w.heap.size + 1, 1, none⟩ (.slice A2 l2 c2)) (.agg #[.bool b2, .slice A2 l2 c2]) (zNum l)) := Lib.hid (by
    obtain ⟨A, l, c, e, h1⟩ := HU2.out.new (New.refl W3).drew
    exact ⟨A, l, c, e, (((h1.set HD1.out (by decide) (i := 0) _).set (HD1.out.set 0 _) (by decide) (i := 1) _).set HE2.out (by decide) (i := 0) _).set (HE2.out.set 0 _) (by decide) (i := 1) _⟩)
  have HN5 := Lib.hid (New.set2 (New.set2 HN2.out.drew (Nat.le_refl w.heap.size) (.slice A1 l1 c1) (.bool b1)) (Nat.le_succ w.heap.size) (.bool b2) (.slice A2 l2 c2))
  have HF1 := Lib.hid (((HD1.out.lay2 (.slice A1 l1 c1) (.bool b1)).far (p := w.heap.size + 1) (i := 0) (by omega) (.bool b2)).far (p := w.heap.size + 1) (i := 1) (by omega) (.slice A2 l2 c2))
  have HF2 := Lib.hid (HE2.out.lay2 (.bool b2) (.slice A2 l2 c2))
  have hA1 := HB12.out.set 0 (.slice A1 l1 c1)
  have hA2 := hA1.set 1 (.bool b1)
  have hA3 := ((HB22.out.far (p := w.heap.size) (i := 0) (by omega) (.slice A1 l1 c1)).far (p := w.heap.size) (i := 1) (by omega) (.bool b1)).set 0 (.bool b2)
  have hA4 := hA3.set 1 (.slice A2 l2 c2)
  have HG0 := Lib.hid (show (W3.setCell ⟨w.heap.size, 0, none⟩ (.slice A1 l1 c1)).cell? ⟨w.heap.size, 0, none⟩ = some (.slice A1 l1 c1) from hA1.cell 0)
  have HG1 := Lib.hid (show ((W3.setCell ⟨w.heap.size, 0, none⟩ (.slice A1 l1 c1)).setCell ⟨w.heap.size, 1, none⟩ (.bool b1)).cell? ⟨w.heap.size, 1, none⟩ = some (.bool b1) from hA2.cell 1)
  have HG2 := Lib.hid (show (((W3.setCell ⟨w.heap.size, 0, none⟩ (.slice A1 l1 c1)).setCell ⟨w.heap.size, 1, none⟩ (.bool b1)).setCell ⟨w.heap.size + 1, 0, none⟩ (.bool b2)).cell? ⟨w.heap.size + 1, 0, none⟩ = some (.bool b2) from hA3.cell 0)
  have HG3 := Lib.hid (show ((((W3.setCell ⟨w.heap.size, 0, none⟩ (.slice A1 l1 c1)).setCell ⟨w.heap.size, 1, none⟩ (.bool b1)).setCell ⟨w.heap.size + 1, 0, none⟩ (.bool b2)).setCell ⟨w.heap.size + 1, 1, none⟩ (.slice A2 l2 c2)).cell? ⟨w.heap.size + 1, 1, none⟩ = some (.slice A2 l2 c2) from hA4.cell 1)
  clear hA1 hA2 hA3 hA4
  have hm1 : ¬ w1.heap.size = w.heap.size := by omega
  have hm2 : ¬ w2.heap.size = w.heap.size := by omega
  have hm3 : ¬ w1.heap.size = w.heap.size + 1 := by omega
  have hm4 : ¬ w2.heap.size = w.heap.size + 1 := by omega
  have hm5 : ¬ w.heap.size = w1.heap.size := by omega
  have hm6 : ¬ w.heap.size = w2.heap.size := by omega
  have hm7 : ¬ w.heap.size + 1 = w1.heap.size := by omega
  have hm8 : ¬ w.heap.size + 1 = w2.heap.size := by omega
  clear hs1 hs2 HB12 HB22 HD1 HD2 HE2
  go_region_with (fail)
  all_goals simp only [List.getElem_toArray, List.getElem_cons_succ, List.getElem_cons_zero, Act.put, List.setIfInBounds_toArray, List.set_cons_zero, List.set_cons_succ]
  all_goals go_wp2
  all_goals
    have g0 := HG0.out
    have g1 := HG1.out
    have g2 := HG2.out
    have g3 := HG3.out
    refine bodyPost_ret (v := .tuple #[.agg #[.slice A1 l1 c1, .bool b1], .agg #[.bool b2, .slice A2 l2 c2], .bool (isZ l), .bool true]) (by simp [results, Tryz.results25, go_sem, g0, g1, g2, g3]) rfl ⟨_, _, rfl, HV5.out, HU5.out, HN5.out⟩
end Go.Proofs.YtkjlmibleoecgaaGreatDoor
