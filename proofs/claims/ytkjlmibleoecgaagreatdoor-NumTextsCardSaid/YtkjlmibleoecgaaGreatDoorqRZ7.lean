/- The reference's num: Int. (Printed by mkrz7.py.) -/
import Derived.Test.YtkjlmibleoecgaaGreatDoorqRZ1
import Derived.Test.YtkjlmibleoecgaaGreatDoorqZ11
namespace Go.Proofs.YtkjlmibleoecgaaGreatDoor
set_option linter.unusedSimpArgs false
set_option linter.unusedVariables false
open Go.RowKit
theorem val_drop_le2 {b : Nat} (hb : 1 ≤ b) : ∀ (xs : List Nat) (k : Nat), val b (xs.drop k) ≤ val b xs
  | [], k => by simp
  | d :: r, 0 => by simp
  | d :: r, k + 1 => by
    have h := val_drop_le2 hb r k
    rw [List.drop_succ_cons]
    simp only [val]
    have : val b r ≤ b * val b r := Nat.le_mul_of_pos_left _ (by omega)
    omega
section
variable {w : World} {v : Value} {z : Int} {k : Nat}
theorem rcmp_s (s : Int) {y : Int} {u : Value} {j : Nat} (hz : RNumB w u z k) (hy : RNumB w v y j) (hk : k ≤ 40000) (hj : j ≤ 40000) (hs : cmpZ z y = s) :
    Calls Tryz.prog 35 #[u, v] w fun e w' => e = .returned (.int .i64 s) ∧ New w w' := hs ▸ rcmp_n hz hy hk hj
set_option maxRecDepth 100000 in
set_option maxHeartbeats 8000000 in
theorem rint_n (hz : RNumB w v z k) (hk : k ≤ 40000) :
    Calls Tryz.prog 42 #[v] w fun e w' => e = .returned (.tuple #[.int .i64 (intZ z), .bool (fitZ z)]) ∧ New w w' := by
  obtain ⟨A, l, c, rfl, hv⟩ := hz.form
  have HN := Lib.hid ((New.refl w).alloc (.cells #[.bool (decide (z < 0)), .slice A l c] RNum))
  have HB := Lib.hid (Box.last w #[.bool (decide (z < 0)), .slice A l c] RNum)
  have HZ := Lib.hid (hz.new HN.out)
  have HV := Lib.hid (hv.new HN.out)
  have HD1 : Hid (decide ((-9223372036854775808 : Int) < 0) = true) := Lib.hid rfl
  have HD2 : Hid (decide ((9223372036854775807 : Int) < 0) = false) := Lib.hid rfl
  have HO1 := Lib.hid (fun W => rof_n (-9223372036854775808) (by omega) (by omega) W)
  have HO2 := Lib.hid (fun W => rof_n 9223372036854775807 (by omega) (by omega) W)
  obtain ⟨s1, hs1⟩ : ∃ s, cmpZ z (-9223372036854775808) = s := ⟨_, rfl⟩
  obtain ⟨s2, hs2⟩ : ∃ s, cmpZ z 9223372036854775807 = s := ⟨_, rfl⟩
  have HC1 := Lib.hid (fun W u v (h : RNumB W u z k) (h2 : RNumB W v (-9223372036854775808) 3) => rcmp_s s1 h h2 (by omega) (by omega) hs1)
  have HC2 := Lib.hid (fun W u v (h : RNumB W u z k) (h2 : RNumB W v 9223372036854775807 3) => rcmp_s s2 h h2 (by omega) (by omega) hs2)
  clear hv hz
  by_cases h1 : z < -9223372036854775808
  · have e1 : fitZ z = false := by unfold fitZ; rw [decide_eq_false (by omega)]; rfl
    have e2 : intZ z = 0 := by unfold intZ; rw [if_neg (by rw [e1]; decide)]
    have hc1 : s1 = -1 := by rw [← hs1]; unfold cmpZ; rw [if_pos h1]
    rw [e1, e2]
    subst hc1
    clear hs1 hs2 e1 e2 h1 HC2 HV
    generalize decide (z < 0) = b at *
    go_enter Tryz.func42, Tryz.ntmps42
    go_wp2
    generalize w.alloc (.cells #[.bool b, .slice A l c] RNum) = W at *
    obtain ⟨m0, m1⟩ := HB.out.two
    go_region_law ((rw [if_pos (by rfl)]; (first | go_big_op | go_simp); first
      | (with_reducible (refine (HC1.out _ _ _ (HZ.out.new hd7) hv7).mono ?_); rintro e w8 ⟨rfl, hn8⟩; have hd8 := hd7.trans hn8; obtain ⟨p0, p1⟩ := (Box.new hd8 HB.out).two)
      | (with_reducible (refine (HO1.out _).mono ?_); rintro e w7 ⟨v7, rfl, hv7, hn7⟩; obtain ⟨A7, l7, c7, rfl, _⟩ := hv7.form; rw [HD1.out] at hv7; have hd7 := (New.refl W).drew.trans hn7; obtain ⟨q0, q1⟩ := (Box.new hd7 HB.out).two)))
    all_goals
      have HNF := Lib.hid (HN.out.trans hd8)
      clear hd7 hd8 hn7 hn8 hv7
      go_wp2
      exact bodyPost_ret (v := .tuple #[.int .i64 0, .bool false]) (by simp [results, Tryz.results42, go_sem]) rfl ⟨rfl, HNF.out⟩
  · have hc1 : s1 = 0 ∨ s1 = 1 := by rw [← hs1]; unfold cmpZ; rw [if_neg h1]; split <;> simp
    by_cases h2 : 9223372036854775807 < z
    · have e1 : fitZ z = false := by unfold fitZ; rw [decide_eq_false (show ¬ z ≤ 9223372036854775807 by omega), Bool.and_false]
      have e2 : intZ z = 0 := by unfold intZ; rw [if_neg (by rw [e1]; decide)]
      have hc2 : s2 = 1 := by rw [← hs2]; unfold cmpZ; rw [if_neg (by omega), if_pos h2]
      rw [e1, e2]
      subst hc2
      clear hs1 hs2 e1 e2 h1 h2 HV
      generalize decide (z < 0) = b at *
      rcases hc1 with hc1 | hc1 <;> subst hc1
      all_goals
        go_enter Tryz.func42, Tryz.ntmps42
        go_wp2
        generalize w.alloc (.cells #[.bool b, .slice A l c] RNum) = W at *
        obtain ⟨m0, m1⟩ := HB.out.two
        go_region_law ((rw [if_pos (by rfl)]; (first | go_big_op | go_simp); first
          | (with_reducible (refine (HC2.out _ _ _ (HZ.out.new hd9) hv9).mono ?_); rintro e wa ⟨rfl, hna⟩; have hda := hd9.trans hna; obtain ⟨s00, s01⟩ := (Box.new hda HB.out).two)
          | (with_reducible (refine (HO2.out _).mono ?_); rintro e w9 ⟨v9, rfl, hv9, hn9⟩; obtain ⟨A9, l9, c9, rfl, _⟩ := hv9.form; rw [HD2.out] at hv9; have hd9 := hd8.trans hn9; obtain ⟨r0, r1⟩ := (Box.new hd9 HB.out).two)
          | (with_reducible (refine (HC1.out _ _ _ (HZ.out.new hd7) hv7).mono ?_); rintro e w8 ⟨rfl, hn8⟩; have hd8 := hd7.trans hn8; obtain ⟨p0, p1⟩ := (Box.new hd8 HB.out).two)
          | (with_reducible (refine (HO1.out _).mono ?_); rintro e w7 ⟨v7, rfl, hv7, hn7⟩; obtain ⟨A7, l7, c7, rfl, _⟩ := hv7.form; rw [HD1.out] at hv7; have hd7 := (New.refl W).drew.trans hn7; obtain ⟨q0, q1⟩ := (Box.new hd7 HB.out).two)))
        all_goals
          have HNF := Lib.hid (HN.out.trans hda)
          clear hd7 hd8 hd9 hda hn7 hn8 hn9 hna hv7 hv9
          go_wp2
          exact bodyPost_ret (v := .tuple #[.int .i64 0, .bool false]) (by simp [results, Tryz.results42, go_sem]) rfl ⟨rfl, HNF.out⟩
    · have e1 : fitZ z = true := by unfold fitZ; rw [decide_eq_true (show -9223372036854775808 ≤ z by omega), decide_eq_true (show z ≤ 9223372036854775807 by omega)]; rfl
      have e2 : intZ z = z := by unfold intZ; rw [if_pos e1]
      have hc2 : s2 = 0 ∨ s2 = -1 := by rw [← hs2]; unfold cmpZ; rw [if_neg h2]; split <;> simp
      have hx63 : z.natAbs ≤ 9223372036854775808 := by omega
      have hsgn : (decide (z < 0) = true ∧ 1 ≤ z.natAbs ∧ z = -(z.natAbs : Int)) ∨ (decide (z < 0) = false ∧ z.natAbs ≤ 9223372036854775807 ∧ z = (z.natAbs : Int)) := by
        by_cases hn : z < 0
        · exact .inl ⟨decide_eq_true hn, by omega, by omega⟩
        · exact .inr ⟨decide_eq_false hn, by omega, by omega⟩
      rw [e1, e2]
      clear hs1 hs2 e1 e2 h1 h2
      rcases hc1 with hc1 | hc1 <;> subst hc1 <;> rcases hc2 with hc2 | hc2 <;> subst hc2
      all_goals
        generalize hxe : z.natAbs = x at *
        generalize decide (z < 0) = b at *
        have HSG := Lib.hid hsgn
        clear hsgn hxe
        go_enter Tryz.func42, Tryz.ntmps42
        go_wp2
        generalize w.alloc _ = W at *
        obtain ⟨m0, m1⟩ := HB.out.two
        go_region_law ((rw [if_pos (by rfl)]; (first | go_big_op | go_simp); first
          | (with_reducible (refine (HC2.out _ _ _ (HZ.out.new hd9) hv9).mono ?_); rintro e wa ⟨rfl, hna⟩; have hda := hd9.trans hna; obtain ⟨s00, s01⟩ := (Box.new hda HB.out).two)
          | (with_reducible (refine (HO2.out _).mono ?_); rintro e w9 ⟨v9, rfl, hv9, hn9⟩; obtain ⟨A9, l9, c9, rfl, _⟩ := hv9.form; rw [HD2.out] at hv9; have hd9 := hd8.trans hn9; obtain ⟨r0, r1⟩ := (Box.new hd9 HB.out).two)
          | (with_reducible (refine (HC1.out _ _ _ (HZ.out.new hd7) hv7).mono ?_); rintro e w8 ⟨rfl, hn8⟩; have hd8 := hd7.trans hn8; obtain ⟨p0, p1⟩ := (Box.new hd8 HB.out).two)
          | (with_reducible (refine (HO1.out _).mono ?_); rintro e w7 ⟨v7, rfl, hv7, hn7⟩; obtain ⟨A7, l7, c7, rfl, _⟩ := hv7.form; rw [HD1.out] at hv7; have hd7 := (New.refl W).drew.trans hn7; obtain ⟨q0, q1⟩ := (Box.new hd7 HB.out).two)))
        all_goals
          have HNA := Lib.hid (HN.out.trans hda)
          have HVA := Lib.hid (HV.out.new hda)
          obtain ⟨t0, t1, _, _⟩ := (Box.new hda HB.out).two
          clear hd7 hd8 hd9 hda hn7 hn8 hn9 hna hv7 hv9 HZ HC1 HC2 HO1 HO2 HV m0 m1 q0 q1 p0 p1 r0 r1 s00 s01
          obtain ⟨_, e', A', c', rfl, hc', hmax', hr'⟩ := HVA.out.v
          obtain ⟨rfl, rfl, rfl⟩ : A = A' ∧ l = (dg B9 x).length ∧ c = c' := by
            simp only [Value.agg.injEq, Array.mk.injEq, List.cons.injEq, and_true] at e'
            injection e' with e1 e2 e3
            exact ⟨e1, e2, e3⟩
          have hval := dg_val B9_2 x
          have hxs := dg_lt B9_2 x
          have HD := Lib.hid (fun k => val_drop_le2 (b := B9) (by rw [B9_eq]; omega) (dg B9 x) k)
          have hln : (dg B9 x).length ≤ 40000 := Nat.le_trans HVA.out.k hk
          clear HVA e'
          generalize dg B9 x = xs at *
          generalize hn : xs.length = n at *
          have HVL := Lib.hid hval
          have HXS := Lib.hid hxs
          have HLN := Lib.hid hn
          have HR := Lib.hid hr'
          clear hval hxs hn hr'
          go_wp2
          go_loopw [4, 5] (fun v4 i w' => ∃ (k s : Nat), k ≤ n ∧ i = .int .i64 ((k : Int) - 1) ∧ v4 = .int .u64 (s : Int) ∧ Hid (s = val B9 (xs.drop k)) ∧ s < 18446744073709551616 ∧ w' = wa) (fun _ i _ => (intOf i + 1).toNat)
          case atStart => exact ⟨n, 0, by omega, rfl, rfl, (by rw [List.drop_of_length_le (by rw [HLN.out]; omega)]; rfl : 0 = val B9 (xs.drop n)), by omega, rfl⟩
          case round =>
            obtain ⟨k, s, hkn, rfl, rfl, HS, hs18, rfl⟩ := hrel
            by_cases hlt : 0 < k
            · obtain ⟨j, rfl⟩ : ∃ j, k = j + 1 := ⟨k - 1, by omega⟩
              obtain ⟨b, o, C, fr, rfl, hbl, hcell⟩ := HR.out j (by omega)
              have hxd : xs.getD j 0 < B9 := HXS.out _ (getD_mem (by rw [HLN.out]; omega))
              have hv : s * B9 + xs.getD j 0 = val B9 (xs.drop j) := by
                rw [List.drop_eq_getElem_cons (by rw [HLN.out]; omega), val, ← HS.out, getD_lt (by rw [HLN.out]; omega)]
                rw [Nat.mul_comm]; omega
              have hb2 : s * B9 + xs.getD j 0 ≤ x := by rw [hv, ← HVL.out]; exact HD.out j
              have hz : (s : Int) * 1000000000 + ((xs.getD j 0 : Nat) : Int) = ((s * B9 + xs.getD j 0 : Nat) : Int) := by rw [B9_eq]; omega
              have HV2 := Lib.hid hv
              generalize xs.getD j 0 = xd at *
              have h18 : s * B9 + xd < 18446744073709551616 := by omega
              rw [B9_eq] at hxd h18 hz hb2
              have hw2 : IntKind.u64.wrap ((s : Int) * 1000000000) = (s : Int) * 1000000000 := IntWalk.u64_in _ (by omega)
              rw [B9_eq] at HV2
              generalize s * 1000000000 + xd = sn at *
              have hw1 : IntKind.u64.wrap (xd : Int) = (xd : Int) := IntWalk.u64_in _ (by omega)
              have hw3 : IntKind.u64.wrap (sn : Int) = (sn : Int) := IntWalk.u64_in _ (by omega)
              have hj1 : ((j + 1 : Nat) : Int) - 1 = (j : Int) := by omega
              clear hbl hv hb2
              go_wp2
              go_roundw
              case rel => exact ⟨j, sn, by omega, by go_num, by go_num, by have := HV2.out; rw [B9_eq]; exact this, h18, by first | rfl | trivial⟩
              case measure => simp [intOf]; try omega
            · obtain rfl : k = 0 := by omega
              have hs := HS.out
              rw [List.drop_zero, HVL.out] at hs
              subst hs
              rcases HSG.out with ⟨rfl, hg3, hg4⟩ | ⟨rfl, hg3, hg4⟩
              · have hw4 : IntKind.u64.wrap ((s : Int) - 1) = (s : Int) - 1 := IntWalk.u64_in _ (by omega)
                have hw5 : IntKind.i64.wrap ((s : Int) - 1) = (s : Int) - 1 := IntWalk.i64_in _ (by omega)
                have hw6 : IntKind.i64.wrap (-((s : Int) - 1)) = -((s : Int) - 1) := IntWalk.i64_in _ (by omega)
                have hw7 : IntKind.i64.wrap (-((s : Int) - 1) - 1) = z := by rw [IntWalk.i64_in _ (by omega)]; omega
                have HG4 := Lib.hid hg4
                clear hg4
                go_wp2
                exact bodyPost_ret (v := .tuple #[.int .i64 z, .bool true]) (by simp [results, Tryz.results42, go_sem, hw4, hw5, hw6, hw7]) rfl ⟨rfl, HNA.out⟩
              · have hw4 : IntKind.i64.wrap (s : Int) = (s : Int) := IntWalk.i64_in _ (by omega)
                have HG4 := Lib.hid hg4
                clear hg4
                go_wp2
                exact bodyPost_ret (v := .tuple #[.int .i64 z, .bool true]) (by simp [results, Tryz.results42, go_sem, hw4, HG4.out]) rfl ⟨rfl, HNA.out⟩
end
end Go.Proofs.YtkjlmibleoecgaaGreatDoor
