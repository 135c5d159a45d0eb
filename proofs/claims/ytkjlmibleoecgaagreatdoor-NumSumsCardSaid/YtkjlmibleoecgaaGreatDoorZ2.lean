/- The program's num: contracts, part 2: zero, Sign, Abs, Neg, Text, Of, Cmp. -/
import Derived.Test.YtkjlmibleoecgaaGreatDoorZ1
namespace Go.Proofs.YtkjlmibleoecgaaGreatDoor
set_option linter.unusedSimpArgs false
set_option linter.unusedVariables false
open Go.RowKit
section
variable {w : World} {u v : Value} {z y : Int} {k j : Nat}
theorem bits_val (x : Nat) : (x = 0 ∧ bitsN x = 0) ∨ (0 < x ∧ 0 < bitsN x) := by
  by_cases h : x = 0
  · exact .inl ⟨h, by rw [h, bitsN_zero]⟩
  · exact .inr ⟨by omega, (bitsN_spec (x := x) (by omega)).1⟩
set_option maxHeartbeats 1000000 in
theorem zero_n (hz : NumB w v z k) (hk : k ≤ 100000) :
    Calls Tryz.prog 98 #[v] w fun e w' => e = .returned (.bool (decide (z = 0))) ∧ New w w' := by
  obtain ⟨A, l, c, rfl, hv⟩ := hz.form
  have HBI := Lib.hid (fun W (h : New w W) => bits_b (hv.new h) hk)
  have HB := Lib.hid (Box.last w #[.slice A l c, .bool (decide (z < 0))] NNum)
  have HN := Lib.hid ((New.refl w).alloc (.cells #[.slice A l c, .bool (decide (z < 0))] NNum))
  have hd : ∃ bb : Bool, decide (z = 0) = bb ∧ ((bitsN z.natAbs : Int) == 0) = bb := by
    refine ⟨_, rfl, ?_⟩
    rcases bits_val z.natAbs with ⟨h1, h2⟩ | ⟨h1, h2⟩
    · rw [h2, decide_eq_true (by omega)]; rfl
    · rw [decide_eq_false (by omega), beq_eq_false_iff_ne]; omega
  obtain ⟨bb, h1, h2⟩ := hd
  rw [h1]
  generalize bitsN z.natAbs = bz at *
  generalize decide (z < 0) = b2 at *
  clear h1 hv hz
  go_enter Tryz.func98, Tryz.ntmps98
  go_wp2_with fail
  refine (HBI.out _ HN.out).mono ?_
  rintro e w1 ⟨rfl, hn1⟩
  have HN1 := Lib.hid (HN.out.trans hn1)
  clear hn1
  go_wp2_with fail
  go_ret
  exact ⟨rfl, HN1.out⟩
set_option maxHeartbeats 1000000 in
theorem sign_n (hz : NumB w v z k) (hk : k ≤ 100000) :
    Calls Tryz.prog 36 #[v] w fun e w' => e = .returned (.int .i64 (sgZ z)) ∧ New w w' := by
  obtain ⟨A, l, c, rfl, hv⟩ := hz.form
  have HZ := Lib.hid (fun W (h : New w W) => zero_n (hz.new h) hk)
  have HN := Lib.hid ((New.refl w).alloc (.cells #[.slice A l c, .bool (decide (z < 0))] NNum))
  rcases (show z < 0 ∨ z = 0 ∨ 0 < z by omega) with h | h | h
  · have e1 : decide (z < 0) = true := decide_eq_true h
    have e2 : sgZ z = -1 := by unfold sgZ; rw [if_pos h]
    rw [e1] at HN ⊢
    rw [e2]
    clear hv hz e1 e2 h HZ
    go_enter Tryz.func36, Tryz.ntmps36
    go_wp2
    go_ret
    exact ⟨rfl, HN.out⟩
  · have e1 : decide (z < 0) = false := decide_eq_false (by omega)
    have e2 : sgZ z = 0 := by unfold sgZ; rw [if_neg (by omega), if_pos h]
    have e3 : decide (z = 0) = true := decide_eq_true h
    rw [e1] at HN HZ ⊢
    rw [e3] at HZ
    rw [e2]
    clear hv hz e1 e2 e3 h
    go_enter Tryz.func36, Tryz.ntmps36
    go_wp2_with fail
    refine (HZ.out _ HN.out).mono ?_
    rintro e w1 ⟨rfl, hn1⟩
    have HN1 := Lib.hid (HN.out.trans hn1)
    clear hn1
    go_wp2_with fail
    go_ret
    exact ⟨rfl, HN1.out⟩
  · have e1 : decide (z < 0) = false := decide_eq_false (by omega)
    have e2 : sgZ z = 1 := by unfold sgZ; rw [if_neg (by omega), if_neg (by omega)]
    have e3 : decide (z = 0) = false := decide_eq_false (by omega)
    rw [e1] at HN HZ ⊢
    rw [e3] at HZ
    rw [e2]
    clear hv hz e1 e2 e3 h
    go_enter Tryz.func36, Tryz.ntmps36
    go_wp2_with fail
    refine (HZ.out _ HN.out).mono ?_
    rintro e w1 ⟨rfl, hn1⟩
    have HN1 := Lib.hid (HN.out.trans hn1)
    clear hn1
    go_wp2_with fail
    go_ret
    exact ⟨rfl, HN1.out⟩
set_option maxHeartbeats 1000000 in
theorem abs_n (hz : NumB w v z k) :
    Calls Tryz.prog 38 #[v] w fun e w' => ∃ u, e = .returned u ∧ NatB w' u z.natAbs k ∧ New w w' := by
  obtain ⟨A, l, c, rfl, hv⟩ := hz.form
  have hnw := ((New.refl w).alloc (.cells #[.slice A l c, .bool (decide (z < 0))] NNum)).alloc (.cells #[.slice A l c] NNat)
  have HV := Lib.hid (hv.new hnw)
  have HN := Lib.hid hnw
  clear hv hz hnw
  go_enter Tryz.func38, Tryz.ntmps38
  go_wp2
  exact bodyPost_ret (v := .agg #[.slice A l c]) (by simp [results, Tryz.results38, go_sem]) rfl ⟨_, rfl, HV.out, HN.out⟩
theorem sgn_not (z : Int) : sgn (!decide (z < 0)) z.natAbs = -z := by
  unfold sgn
  by_cases h : z < 0 <;> simp [h] <;> omega
set_option maxHeartbeats 1000000 in
theorem neg_n (hz : NumB w v z k) (hk : k ≤ 100000) :
    Calls Tryz.prog 37 #[v] w fun e w' => ∃ u, e = .returned u ∧ NumB w' u (-z) k ∧ New w w' := by
  obtain ⟨A, l, c, rfl, hv⟩ := hz.form
  have HM := Lib.hid (fun W (h : New w W) => make_n (!decide (z < 0)) (hv.new h) hk)
  rw [sgn_not] at HM
  have HB := Lib.hid (Box.last2 w (.cells #[.slice A l c, .bool (decide (z < 0))] NNum) #[.slice none 0 0, .bool false] NNum)
  have HN := Lib.hid (((New.refl w).alloc (.cells #[.slice A l c, .bool (decide (z < 0))] NNum)).alloc (.cells #[.slice none 0 0, .bool false] NNum))
  generalize decide (z < 0) = b2 at *
  clear hv hz
  go_enter Tryz.func37, Tryz.ntmps37
  go_wp2_with fail
  refine (HM.out _ HN.out).mono ?_
  rintro e w1 ⟨v1, rfl, hv1, hn1⟩
  obtain ⟨A1, l1, c1, rfl, _⟩ := hv1.form
  have hb := HB.out.new hn1
  obtain ⟨c4, c5, f4, f5⟩ := hb.two
  generalize hbb : decide (-z < 0) = bb at *
  have HV := Lib.hid (hv1.lay2 hb (.slice A1 l1 c1) (.bool bb))
  have g0 := (hb.lay2 (.slice A1 l1 c1) (.bool bb)).cell0'
  have g1 := (hb.lay2 (.slice A1 l1 c1) (.bool bb)).cell1'
  have HNW := Lib.hid (New.set2 (HN.out.trans hn1) (show w.heap.size ≤ w.heap.size + 1 by omega) (.slice A1 l1 c1) (.bool bb))
  clear hv1 hn1 hb hbb
  go_wp2
  refine bodyPost_ret (v := .agg #[.slice A1 l1 c1, .bool bb]) (by simp [results, Tryz.results37, go_sem, g0, g1]) rfl ⟨_, rfl, HV.out, HNW.out⟩
set_option maxHeartbeats 1000000 in
theorem text_n (hz : NumB w v z k) (hk : k ≤ 100000) (L : Lib.TabIs Tryz.prog w "internal/strconv.uint64pow10" .u64 Lib.pow10Tab) :
    Calls Tryz.prog 27 #[v] w fun e w' => e = .returned (.string (numS z)) ∧ New w w' := by
  obtain ⟨A, l, c, rfl, hv⟩ := hz.form
  have HN := Lib.hid ((New.refl w).alloc (.cells #[.slice A l c, .bool (decide (z < 0))] NNum))
  have HT := Lib.hid (fun W (h : New w W) => text_v (hv.new h) hk (tabIs_new h L))
  by_cases h : z < 0
  · have e1 : decide (z < 0) = true := decide_eq_true h
    have e2 : numS z = (⟨#[45]⟩ : ByteArray) ++ decS z.natAbs := by unfold numS; rw [if_pos h]
    have hd : (decS z.natAbs).size ≤ 1000000 := by
      have h1 := dec_len_of (L := 100000) (Nat.le_trans hv.k hk) (by omega)
      have h2 : (decS z.natAbs).size = (Lib.decDigits z.natAbs).length := by rw [Lib.size_eq, decS_data]
      omega
    rw [e1] at HN ⊢
    rw [e2]
    generalize decS z.natAbs = ds at *
    have hd2 : ¬ 9223372036854775807 < 1 + ds.size := by omega
    clear hv hz e1 e2 h L
    go_enter Tryz.func27, Tryz.ntmps27
    go_wp2_with fail
    refine (HT.out _ HN.out).mono ?_
    rintro e w1 ⟨rfl, hn1⟩
    have HN1 := Lib.hid (HN.out.trans hn1)
    clear hn1
    go_wp2_with fail
    go_ret
    exact ⟨rfl, HN1.out⟩
  · have e1 : decide (z < 0) = false := decide_eq_false h
    have e2 : numS z = decS z.natAbs := by unfold numS; rw [if_neg h]
    rw [e1] at HN ⊢
    rw [e2]
    generalize decS z.natAbs = ds at *
    clear hv hz e1 e2 h L
    go_enter Tryz.func27, Tryz.ntmps27
    go_wp2_with fail
    refine (HT.out _ HN.out).mono ?_
    rintro e w1 ⟨rfl, hn1⟩
    have HN1 := Lib.hid (HN.out.trans hn1)
    clear hn1
    go_wp2_with fail
    go_ret
    exact ⟨rfl, HN1.out⟩
end
end Go.Proofs.YtkjlmibleoecgaaGreatDoor
