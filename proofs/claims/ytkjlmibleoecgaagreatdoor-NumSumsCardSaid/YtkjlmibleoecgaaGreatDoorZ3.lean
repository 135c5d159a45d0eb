/- The program's num: contracts, part 3: Of, Cmp, Add, Sub, Mul. -/
import Derived.Test.YtkjlmibleoecgaaGreatDoorZ2
namespace Go.Proofs.YtkjlmibleoecgaaGreatDoor
set_option linter.unusedSimpArgs false
set_option linter.unusedVariables false
open Go.RowKit
section
variable {w : World} {u v : Value} {z y : Int} {k j : Nat}
theorem sgn_eq {b : Bool} {n : Nat} {z : Int} (h : sgn b n = z) : sgn b n = z := h
set_option maxHeartbeats 1000000 in
theorem of_n (n : Int) (h1 : -9223372036854775808 ≤ n) (h2 : n ≤ 9223372036854775807) (w : World) :
    Calls Tryz.prog 39 #[.int .i64 n] w fun e w' => ∃ v, e = .returned v ∧ NumB w' v n 2 ∧ New w w' := by
  have HB := Lib.hid (Box.last w #[.slice none 0 0, .bool false] NNum)
  have HN := Lib.hid ((New.refl w).alloc (.cells #[.slice none 0 0, .bool false] NNum))
  have hk : n.natAbs < 18446744073709551616 := by omega
  have HOF := Lib.hid (fun W => of_c hk W)
  have HDK : Hid ((dg B32 n.natAbs).length ≤ 2) := Lib.hid (dg_len B32_2 (by rw [B32_eq]; omega))
  by_cases h : n < 0
  · have hw1 : IntKind.u64.wrap (-IntKind.u64.wrap n) = ((n.natAbs : Nat) : Int) := by rw [IntKind.wrap_u64, IntKind.wrap_u64]; omega
    have hw2 : IntKind.u64.wrap n = n + 18446744073709551616 := by rw [IntKind.wrap_u64]; omega
    have hw3 : IntKind.u64.wrap (-(n + 18446744073709551616)) = ((n.natAbs : Nat) : Int) := by rw [IntKind.wrap_u64]; omega
    have HM := Lib.hid (fun W v (h : NatB W v n.natAbs 2) => make_n true h (by omega))
    have hs : sgn true n.natAbs = n := by unfold sgn; simp; omega
    rw [hs] at HM
    have hd : decide (n < 0) = true := decide_eq_true h
    have HD := Lib.hid hd
    clear hs hd
    generalize n.natAbs = na at *
    clear h1 h2 hk
    go_enter Tryz.func39, Tryz.ntmps39
    go_wp2_with fail
    refine (HOF.out _).mono ?_
    rintro e w1 ⟨v1, rfl, hv1, hn1⟩
    have HV1 := Lib.hid (show NatB w1 v1 na 2 from ⟨hv1, HDK.out⟩)
    have HN1 := Lib.hid (HN.out.trans hn1)
    have HB1 := Lib.hid (HB.out.new hn1)
    clear hv1 hn1
    go_wp2_with fail
    refine (HM.out _ _ HV1.out).mono ?_
    rintro e w2 ⟨v2, rfl, hv2, hn2⟩
    obtain ⟨A1, l1, c1, rfl, _⟩ := hv2.form
    rw [HD.out] at *
    have hb := HB1.out.new hn2
    obtain ⟨c4, c5, f4, f5⟩ := hb.two
    have HV := Lib.hid (hv2.lay2 hb (.slice A1 l1 c1) (.bool true))
    have g0 := (hb.lay2 (.slice A1 l1 c1) (.bool true)).cell0'
    have g1 := (hb.lay2 (.slice A1 l1 c1) (.bool true)).cell1'
    have HNW := Lib.hid (New.set2 (HN1.out.trans hn2) (Nat.le_refl w.heap.size) (.slice A1 l1 c1) (.bool true))
    clear hv2 hn2 hb
    go_wp2
    refine bodyPost_ret (v := .agg #[.slice A1 l1 c1, .bool true]) (by simp [results, Tryz.results39, go_sem, g0, g1]) rfl ⟨_, rfl, HV.out, HNW.out⟩
  · obtain ⟨na, hna⟩ : ∃ na : Nat, n = (na : Int) := ⟨n.toNat, by omega⟩
    subst hna
    rw [Int.natAbs_natCast] at *
    have hw1 : IntKind.u64.wrap (na : Int) = (na : Int) := IntWalk.u64_in _ (by omega)
    have HM := Lib.hid (fun W v (h : NatB W v na 2) => make_n false h (by omega))
    have hs : sgn false na = (na : Int) := by unfold sgn; simp
    rw [hs] at HM
    have HD : Hid (decide ((na : Int) < 0) = false) := Lib.hid (decide_eq_false h)
    have hh : ¬ (na : Int) < 0 := h
    clear hs h
    go_enter Tryz.func39, Tryz.ntmps39
    go_wp2_with fail
    refine (HOF.out _).mono ?_
    rintro e w1 ⟨v1, rfl, hv1, hn1⟩
    have HV1 := Lib.hid (show NatB w1 v1 na 2 from ⟨hv1, HDK.out⟩)
    have HN1 := Lib.hid (HN.out.trans hn1)
    have HB1 := Lib.hid (HB.out.new hn1)
    clear hv1 hn1
    go_wp2_with fail
    refine (HM.out _ _ HV1.out).mono ?_
    rintro e w2 ⟨v2, rfl, hv2, hn2⟩
    obtain ⟨A1, l1, c1, rfl, _⟩ := hv2.form
    rw [HD.out] at *
    have hb := HB1.out.new hn2
    obtain ⟨c4, c5, f4, f5⟩ := hb.two
    have HV := Lib.hid (hv2.lay2 hb (.slice A1 l1 c1) (.bool false))
    have g0 := (hb.lay2 (.slice A1 l1 c1) (.bool false)).cell0'
    have g1 := (hb.lay2 (.slice A1 l1 c1) (.bool false)).cell1'
    have HNW := Lib.hid (New.set2 (HN1.out.trans hn2) (Nat.le_refl w.heap.size) (.slice A1 l1 c1) (.bool false))
    clear hv2 hn2 hb
    go_wp2
    refine bodyPost_ret (v := .agg #[.slice A1 l1 c1, .bool false]) (by simp [results, Tryz.results39, go_sem, g0, g1]) rfl ⟨_, rfl, HV.out, HNW.out⟩
set_option maxHeartbeats 1000000 in
theorem cmp_n (hz : NumB w u z k) (hy : NumB w v y j) (hk : k ≤ 100000) (hj : j ≤ 100000) :
    Calls Tryz.prog 34 #[u, v] w fun e w' => e = .returned (.int .i64 (cmpZ z y)) ∧ New w w' := by
  obtain ⟨A, l, c, rfl, hv⟩ := hz.form
  obtain ⟨A', l', c', rfl, hv'⟩ := hy.form
  have HN := Lib.hid (((New.refl w).alloc (.cells #[.slice A l c, .bool (decide (z < 0))] NNum)).alloc (.cells #[.slice A' l' c', .bool (decide (y < 0))] NNum))
  have HC1 := Lib.hid (fun W (h : New w W) => cmp_b (hv.new h) (hv'.new h) hk hj)
  have HC2 := Lib.hid (fun W (h : New w W) => cmp_b (hv'.new h) (hv.new h) hj hk)
  by_cases h1 : z < 0
  · by_cases h2 : y < 0
    · have e1 : decide (z < 0) = true := decide_eq_true h1
      have e2 : decide (y < 0) = true := decide_eq_true h2
      have e3 : cmpN y.natAbs z.natAbs = cmpZ z y := by unfold cmpN cmpZ; split <;> split <;> first | omega | (split <;> omega) | (split <;> split <;> omega) | rfl | skip
      rw [e3] at HC2
      rw [e1, e2] at HN ⊢
      generalize cmpZ z y = r at *
      clear hv hv' hz hy e1 e2 e3 HC1
      go_enter Tryz.func34, Tryz.ntmps34
      go_wp2_with fail
      refine (HC2.out _ HN.out).mono ?_
      rintro e w1 ⟨rfl, hn1⟩
      have HN1 := Lib.hid (HN.out.trans hn1)
      clear hn1
      go_wp2_with fail
      go_ret
      exact ⟨rfl, HN1.out⟩
    · have e1 : decide (z < 0) = true := decide_eq_true h1
      have e2 : decide (y < 0) = false := decide_eq_false h2
      have e3 : cmpZ z y = -1 := by unfold cmpZ; rw [if_pos (by omega)]
      rw [e1, e2] at HN ⊢
      rw [e3]
      clear hv hv' hz hy e1 e2 e3 HC1 HC2
      go_enter Tryz.func34, Tryz.ntmps34
      go_wp2
      go_ret
      exact ⟨rfl, HN.out⟩
  · by_cases h2 : y < 0
    · have e1 : decide (z < 0) = false := decide_eq_false h1
      have e2 : decide (y < 0) = true := decide_eq_true h2
      have e3 : cmpZ z y = 1 := by unfold cmpZ; rw [if_neg (by omega), if_pos (by omega)]
      rw [e1, e2] at HN ⊢
      rw [e3]
      clear hv hv' hz hy e1 e2 e3 HC1 HC2
      go_enter Tryz.func34, Tryz.ntmps34
      go_wp2
      go_ret
      exact ⟨rfl, HN.out⟩
    · have e1 : decide (z < 0) = false := decide_eq_false h1
      have e2 : decide (y < 0) = false := decide_eq_false h2
      have e3 : cmpN z.natAbs y.natAbs = cmpZ z y := by unfold cmpN cmpZ; split <;> split <;> first | omega | (split <;> omega) | (split <;> split <;> omega) | rfl | skip
      rw [e3] at HC1
      rw [e1, e2] at HN ⊢
      generalize cmpZ z y = r at *
      clear hv hv' hz hy e1 e2 e3 HC2
      go_enter Tryz.func34, Tryz.ntmps34
      go_wp2_with fail
      refine (HC1.out _ HN.out).mono ?_
      rintro e w1 ⟨rfl, hn1⟩
      have HN1 := Lib.hid (HN.out.trans hn1)
      clear hn1
      go_wp2_with fail
      go_ret
      exact ⟨rfl, HN1.out⟩
end
end Go.Proofs.YtkjlmibleoecgaaGreatDoor
