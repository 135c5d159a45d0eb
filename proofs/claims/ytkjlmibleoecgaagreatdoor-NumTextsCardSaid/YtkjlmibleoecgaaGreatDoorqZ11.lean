/- The program's num: Int. (Printed by mkz11.py.) -/
import Derived.Test.YtkjlmibleoecgaaGreatDoorqZ4
import Derived.Test.YtkjlmibleoecgaaGreatDoorShelf
import Derived.Lib.AtoiAllCases
import Derived.Lib.SmallJoins
import Derived.Deep.RegionLaw
namespace Go.Proofs.YtkjlmibleoecgaaGreatDoor
set_option linter.unusedSimpArgs false
set_option linter.unusedVariables false
open Go.RowKit
/-- Is it an int? Which? -/
def fitZ (z : Int) : Bool := decide (-9223372036854775808 ≤ z) && decide (z ≤ 9223372036854775807)
def intZ (z : Int) : Int := if fitZ z = true then z else 0
theorem p10_ok : ∀ (l : List UInt8) (acc : Nat), l.all dig = true → acc * 10 ^ l.length + numL l < 18446744073709551616 → Lib.parseUint10 acc l = .ok (acc * 10 ^ l.length + numL l)
  | [], acc, _, _ => by simp [Lib.parseUint10, numL]
  | c :: r, acc, hd, hb => by
    have h1 : dig c = true := by simp at hd; exact hd.1
    have h2 : r.all dig = true := by
      rw [List.all_cons, Bool.and_eq_true] at hd
      exact hd.2
    unfold dig at h1
    have h4 := of_decide_eq_true h1
    have e := numL_append [c] r
    rw [List.singleton_append] at e
    have e1 : numL [c] = c.toNat - 48 := by simp [numL]
    have e2 : acc * 10 ^ (c :: r).length + numL (c :: r) = (acc * 10 + (c.toNat - 48)) * 10 ^ r.length + numL r := by
      rw [e, e1, List.length_cons, Nat.pow_succ, Nat.add_mul, Nat.mul_assoc, Nat.mul_comm 10]
      omega
    rw [e2] at hb ⊢
    have hp : 1 ≤ 10 ^ r.length := Nat.pow_pos (by omega)
    have hb2 : (acc * 10 + (c.toNat - 48)) * 1 ≤ (acc * 10 + (c.toNat - 48)) * 10 ^ r.length := Nat.mul_le_mul_left _ hp
    rw [Nat.mul_one] at hb2
    unfold Lib.parseUint10
    rw [if_pos h4, if_neg (by omega), if_neg (by omega), p10_ok r _ h2 hb]
theorem mag_dec {u : Nat} (h : u < 18446744073709551616) : Lib.parseMag (Lib.decDigits u) = .ok u := by
  unfold Lib.parseMag
  rw [if_neg (dec_ne u)]
  have := p10_ok (Lib.decDigits u) 0 (dec_dig u) (by rw [num_dec]; omega)
  rw [this, num_dec]
  simp
theorem atoi_numS {z : Int} (h0 : -9223372036854775808 ≤ z) (h1 : z ≤ 9223372036854775807) : Lib.atoiAll (numS z).data.toList = .ok z := by
  by_cases hn : z < 0
  · have e : (numS z).data.toList = 45 :: Lib.decDigits z.natAbs := by unfold numS; rw [if_pos hn]; simp [decS_data]
    rw [e]
    unfold Lib.atoiAll
    simp only [show (45 : UInt8).toNat = 45 from rfl, or_true, if_true, mag_dec (show z.natAbs < 18446744073709551616 by omega)]
    rw [if_neg (by simp), if_neg (by simp; omega)]
    refine congrArg Lib.NumEnd.ok ?_
    have hz : -((z.natAbs : Nat) : Int) = z := by omega
    first | exact hz | simp [hz] | (trace_state; skip)
  · have e : (numS z).data.toList = Lib.decDigits z.natAbs := by unfold numS; rw [if_neg hn, decS_data]
    rw [e]
    have hm := mag_dec (show z.natAbs < 18446744073709551616 by omega)
    have hd := dec_dig z.natAbs
    have hne := dec_ne z.natAbs
    cases hc : Lib.decDigits z.natAbs with
    | nil => exact absurd hc hne
    | cons c r =>
      rw [hc] at hm hd
      have h3 : dig c = true := by rw [List.all_cons, Bool.and_eq_true] at hd; exact hd.1
      unfold dig at h3
      have h4 := of_decide_eq_true h3
      rw [Lib.atoiAll_plain c r (by omega) (by omega)]
      unfold Lib.signless
      rw [hm]
      simp only
      rw [if_neg (by omega)]
      refine congrArg Lib.NumEnd.ok ?_
      first | omega | (simp; omega)
theorem atoi_n {z : Int} (s : ByteArray) (hs : numS z = s) (h0 : -9223372036854775808 ≤ z) (h1 : z ≤ 9223372036854775807) (hl : s.size ≤ 1000000) (w : World) :
    Calls Tryz.prog 99 #[.string s] w fun e w' => e = .returned (.tuple #[.int .i64 z, .nilIface]) ∧ New w w' :=
  (Tryz.strconv_Atoi_ok s (by omega) z (by rw [← hs]; exact atoi_numS h0 h1) w).mono fun e w' hh => ⟨hh.1, by
    rcases hh.2 with rfl | ⟨t, rfl⟩
    · exact New.refl _
    · exact Go.Joins.below_bytesWorld _ _ _ _ (Nat.le_refl _)⟩
section
variable {w : World} {v : Value} {z : Int} {k : Nat}
theorem cmp_s (s : Int) {y : Int} {u : Value} {j : Nat} (hz : NumB w u z k) (hy : NumB w v y j) (hk : k ≤ 100000) (hj : j ≤ 100000) (hs : cmpZ z y = s) :
    Calls Tryz.prog 34 #[u, v] w fun e w' => e = .returned (.int .i64 s) ∧ New w w' := hs ▸ cmp_n hz hy hk hj
set_option maxRecDepth 100000 in
set_option maxHeartbeats 4000000 in
theorem int_n (hz : NumB w v z k) (hk : k ≤ 40000) (L : Lib.TabIs Tryz.prog w "internal/strconv.uint64pow10" .u64 Lib.pow10Tab) :
    Calls Tryz.prog 40 #[v] w fun e w' => e = .returned (.tuple #[.int .i64 (intZ z), .bool (fitZ z)]) ∧ New w w' := by
  obtain ⟨A, l, c, rfl, hv⟩ := hz.form
  have HN := Lib.hid ((New.refl w).alloc (.cells #[.slice A l c, .bool (decide (z < 0))] NNum))
  have HB := Lib.hid (Box.last w #[.slice A l c, .bool (decide (z < 0))] NNum)
  have HZ := Lib.hid (hz.new HN.out)
  have HD1 : Hid (decide ((-9223372036854775808 : Int) < 0) = true) := Lib.hid rfl
  have HD2 : Hid (decide ((9223372036854775807 : Int) < 0) = false) := Lib.hid rfl
  have HO1 := Lib.hid (fun W => of_n (-9223372036854775808) (by omega) (by omega) W)
  have HO2 := Lib.hid (fun W => of_n 9223372036854775807 (by omega) (by omega) W)
  obtain ⟨s1, hs1⟩ : ∃ s, cmpZ z (-9223372036854775808) = s := ⟨_, rfl⟩
  obtain ⟨s2, hs2⟩ : ∃ s, cmpZ z 9223372036854775807 = s := ⟨_, rfl⟩
  have HC1 := Lib.hid (fun W u v (h : NumB W u z k) (h2 : NumB W v (-9223372036854775808) 2) => cmp_s s1 h h2 (by omega) (by omega) hs1)
  have HC2 := Lib.hid (fun W u v (h : NumB W u z k) (h2 : NumB W v 9223372036854775807 2) => cmp_s s2 h h2 (by omega) (by omega) hs2)
  have HTX := Lib.hid (fun W u (h : NumB W u z k) (hn : New w W) => text_n h (by omega) (tabIs_new hn L))
  have hsz : (numS z).size ≤ 1000000 := by
    have h1 := dec_len_of (L := 40000) (Nat.le_trans hz.k hk) (by omega)
    have h2 : (decS z.natAbs).size = (Lib.decDigits z.natAbs).length := by rw [Lib.size_eq, decS_data]
    unfold numS
    split
    · rw [ByteArray.size_append]; show 1 + _ ≤ _; omega
    · omega
  clear hv hz L
  by_cases h1 : z < -9223372036854775808
  · have e1 : fitZ z = false := by unfold fitZ; rw [decide_eq_false (by omega)]; rfl
    have e2 : intZ z = 0 := by unfold intZ; rw [if_neg (by rw [e1]; decide)]
    have hc1 : s1 = -1 := by rw [← hs1]; unfold cmpZ; rw [if_pos h1]
    rw [e1, e2]
    subst hc1
    clear hs1 hs2 e1 e2 h1 HC2 HTX hsz
    generalize decide (z < 0) = b at *
    go_enter Tryz.func40, Tryz.ntmps40
    go_wp2
    generalize w.alloc (.cells #[.slice A l c, .bool b] NNum) = W at *
    obtain ⟨m0, m1⟩ := HB.out.two
    go_region_law ((rw [if_pos (by rfl)]; (first | go_big_op | go_simp); first
      | (with_reducible (refine (HC1.out _ _ _ (HZ.out.new hd7) hv7).mono ?_); rintro e w8 ⟨rfl, hn8⟩; have hd8 := hd7.trans hn8; obtain ⟨p0, p1⟩ := (Box.new hd8 HB.out).two)
      | (with_reducible (refine (HO1.out _).mono ?_); rintro e w7 ⟨v7, rfl, hv7, hn7⟩; obtain ⟨A7, l7, c7, rfl, _⟩ := hv7.form; rw [HD1.out] at hv7; have hd7 := (New.refl W).drew.trans hn7; obtain ⟨q0, q1⟩ := (Box.new hd7 HB.out).two)))
    all_goals
      have HNF := Lib.hid (HN.out.trans hd8)
      clear hd7 hd8 hn7 hn8 hv7
      go_wp2
      exact bodyPost_ret (v := .tuple #[.int .i64 0, .bool false]) (by simp [results, Tryz.results40, go_sem]) rfl ⟨rfl, HNF.out⟩
  · have hc1 : s1 = 0 ∨ s1 = 1 := by rw [← hs1]; unfold cmpZ; rw [if_neg h1]; split <;> simp
    by_cases h2 : 9223372036854775807 < z
    · have e1 : fitZ z = false := by unfold fitZ; rw [decide_eq_false (show ¬ z ≤ 9223372036854775807 by omega), Bool.and_false]
      have e2 : intZ z = 0 := by unfold intZ; rw [if_neg (by rw [e1]; decide)]
      have hc2 : s2 = 1 := by rw [← hs2]; unfold cmpZ; rw [if_neg (by omega), if_pos h2]
      rw [e1, e2]
      subst hc2
      clear hs1 hs2 e1 e2 h1 h2 HTX hsz
      generalize decide (z < 0) = b at *
      rcases hc1 with hc1 | hc1 <;> subst hc1
      all_goals
        go_enter Tryz.func40, Tryz.ntmps40
        go_wp2
        generalize w.alloc (.cells #[.slice A l c, .bool b] NNum) = W at *
        obtain ⟨m0, m1⟩ := HB.out.two
        go_region_law ((rw [if_pos (by rfl)]; (first | go_big_op | go_simp); first
        | (with_reducible (refine (HC2.out _ _ _ (HZ.out.new hd9) hv9).mono ?_); rintro e wa ⟨rfl, hna⟩; have hda := hd9.trans hna; obtain ⟨s00, s01⟩ := (Box.new hda HB.out).two)
        | (with_reducible (refine (HO2.out _).mono ?_); rintro e w9 ⟨v9, rfl, hv9, hn9⟩; obtain ⟨A9, l9, c9, rfl, _⟩ := hv9.form; rw [HD2.out] at hv9; have hd9 := hd8.trans hn9; obtain ⟨r0, r1⟩ := (Box.new hd9 HB.out).two)
        | (with_reducible (refine (HC1.out _ _ _ (HZ.out.new hd7) hv7).mono ?_); rintro e w8 ⟨rfl, hn8⟩; have hd8 := hd7.trans hn8; obtain ⟨p0, p1⟩ := (Box.new hd8 HB.out).two)
        | (with_reducible (refine (HO1.out _).mono ?_); rintro e w7 ⟨v7, rfl, hv7, hn7⟩; obtain ⟨A7, l7, c7, rfl, _⟩ := hv7.form; rw [HD1.out] at hv7; have hd7 := (New.refl W).drew.trans hn7; obtain ⟨q0, q1⟩ := (Box.new hd7 HB.out).two)))
        all_goals
          have HNF := Lib.hid (HN.out.trans hda)
          clear hd7 hd8 hd9 hda hn7 hn8 hn9 hna hv7 hv9
          go_wp2
          exact bodyPost_ret (v := .tuple #[.int .i64 0, .bool false]) (by simp [results, Tryz.results40, go_sem]) rfl ⟨rfl, HNF.out⟩
    · have e1 : fitZ z = true := by unfold fitZ; rw [decide_eq_true (show -9223372036854775808 ≤ z by omega), decide_eq_true (show z ≤ 9223372036854775807 by omega)]; rfl
      have e2 : intZ z = z := by unfold intZ; rw [if_pos e1]
      have hc2 : s2 = 0 ∨ s2 = -1 := by rw [← hs2]; unfold cmpZ; rw [if_neg h2]; split <;> simp
      have HAT := Lib.hid (fun W => atoi_n (numS z) rfl (by omega) (by omega) hsz W)
      rw [e1, e2]
      clear hs1 hs2 e1 e2 h1 h2 hsz
      generalize numS z = ns at *
      generalize decide (z < 0) = b at *
      rcases hc1 with hc1 | hc1 <;> subst hc1 <;> rcases hc2 with hc2 | hc2 <;> subst hc2
      all_goals
        go_enter Tryz.func40, Tryz.ntmps40
        go_wp2
        generalize w.alloc (.cells #[.slice A l c, .bool b] NNum) = W at *
        obtain ⟨m0, m1⟩ := HB.out.two
        go_region_law ((rw [if_pos (by rfl)]; (first | go_big_op | go_simp); first
        | (with_reducible (refine (HC2.out _ _ _ (HZ.out.new hd9) hv9).mono ?_); rintro e wa ⟨rfl, hna⟩; have hda := hd9.trans hna; obtain ⟨s00, s01⟩ := (Box.new hda HB.out).two)
        | (with_reducible (refine (HO2.out _).mono ?_); rintro e w9 ⟨v9, rfl, hv9, hn9⟩; obtain ⟨A9, l9, c9, rfl, _⟩ := hv9.form; rw [HD2.out] at hv9; have hd9 := hd8.trans hn9; obtain ⟨r0, r1⟩ := (Box.new hd9 HB.out).two)
        | (with_reducible (refine (HC1.out _ _ _ (HZ.out.new hd7) hv7).mono ?_); rintro e w8 ⟨rfl, hn8⟩; have hd8 := hd7.trans hn8; obtain ⟨p0, p1⟩ := (Box.new hd8 HB.out).two)
        | (with_reducible (refine (HO1.out _).mono ?_); rintro e w7 ⟨v7, rfl, hv7, hn7⟩; obtain ⟨A7, l7, c7, rfl, _⟩ := hv7.form; rw [HD1.out] at hv7; have hd7 := (New.refl W).drew.trans hn7; obtain ⟨q0, q1⟩ := (Box.new hd7 HB.out).two)))
        all_goals
          have HNA := Lib.hid (HN.out.trans hda)
          have HZA := Lib.hid (HZ.out.new hda)
          obtain ⟨t0, t1⟩ := (Box.new hda HB.out).two
          clear hd7 hd8 hd9 hda hn7 hn8 hn9 hna hv7 hv9
          go_wp2_with fail
          refine (HTX.out _ _ HZA.out HNA.out).mono ?_
          rintro e wb ⟨rfl, hnb⟩
          have HNB := Lib.hid (HNA.out.trans hnb)
          clear hnb
          go_wp2_with fail
          refine (HAT.out _).mono ?_
          rintro e wc ⟨rfl, hnc⟩
          have HNC := Lib.hid (HNB.out.trans hnc)
          clear hnc
          go_wp2
          first | go_region | skip
          all_goals
            go_wp2
            refine bodyPost_ret (v := .tuple #[.int .i64 z, .bool true]) (by simp [results, Tryz.results40, go_sem]) rfl ⟨rfl, ?_⟩
            first | exact HNC.out | exact HNC.out.drew
end
end Go.Proofs.YtkjlmibleoecgaaGreatDoor
