/- The reference of nat, part 10: times, word, gcd. -/
import Derived.Test.YtkjlmibleoecgaaGreatDoorRef9
import Derived.Deep.RegionHeld3
import Derived.BigQuiet
namespace Go.Proofs.YtkjlmibleoecgaaGreatDoor
set_option linter.unusedSimpArgs false
set_option linter.unusedVariables false
open Go.RowKit
theorem rbox_cell0 {w : World} {p : Nat} {v : Value} {T : TypeId} (h : Box w p #[v] T) : w.cell? ⟨p, 0, none⟩ = some v ∧ w.frozen? ⟨p, 0, none⟩ = false := ⟨h.cell 0, h.frozen 0⟩
theorem rsmall_0 {x n : Nat} {u : Value} {w : World} (hx : RefV w u x) (hn : n < B9) (hl : (dg B9 x).length ≤ 1000000) :
    Calls Tryz.prog 79 #[u, .int .i64 (n : Int), .int .i64 0] w fun e w' => ∃ v, e = .returned v ∧ RefV w' v (x * n) ∧ New w w' :=
  rsmall_c (m := 0) hx hn (by rw [B9_eq]; omega) hl
set_option maxRecDepth 100000 in
set_option maxHeartbeats 4000000 in
theorem rtimes_c {x y : Nat} {u v : Value} {w : World} (hx : RefV w u x) (hy : RefV w v y) (h0 : 0 < y) (hxy : x < B9 * y) (hl : (dg B9 x).length ≤ 500000) (hl2 : (dg B9 y).length ≤ 500000) :
    Calls Tryz.prog 77 #[u, v] w fun e w' => e = .returned (.int .i64 ((x / y : Nat) : Int)) ∧ New w w' := by
  obtain ⟨A, l, c, rfl⟩ := hx.form
  obtain ⟨A', l', c', rfl⟩ := hy.form
  have hq : x / y < B9 := by rw [Nat.div_lt_iff_lt_mul h0]; exact hxy
  have HD := Lib.hid (fun m => Nat.le_div_iff_mul_le h0 (x := m) (y := x))
  have HSM := Lib.hid (fun W m (h : New w W) (hm : m < B9) => rsmall_0 (hy.new h) hm (by omega))
  have HCM := Lib.hid (fun W m v (h : New w W) (hv : RefV W v (y * m)) (hm : m < B9) => rcmp_c hv (hx.new h) (by have := dg_len_mul B9_2 y m; have := dg_len (b := B9) (n := m) (L := 1) B9_2 (by rw [Nat.pow_one]; exact hm); omega) (by omega))
  have HNW := Lib.hid (((New.refl w).alloc (.cells #[.slice A l c] RNat)).alloc (.cells #[.slice A' l' c'] RNat))
  have HB0 := Lib.hid ((Box.last w #[.slice A l c] RNat).alloc (.cells #[.slice A' l' c'] RNat))
  have HB1 := Lib.hid (Box.last2 w (.cells #[.slice A l c] RNat) #[.slice A' l' c'] RNat)
  generalize hqd : x / y = q at *
  have hq9 : q < 1000000000 := by rw [B9_eq] at hq; exact hq
  clear hx hy hl hl2 hxy hq hqd h0
  go_enter Tryz.func77, Tryz.ntmps77
  go_wp2
  generalize (w.alloc (.cells #[.slice A l c] RNat)).alloc (.cells #[.slice A' l' c'] RNat) = W0 at *
  go_loopw [5, 6] (fun v5 v6 w' => ∃ lo hi : Nat, v5 = .int .i64 (lo : Int) ∧ v6 = .int .i64 (hi : Int) ∧ lo ≤ q ∧ q ≤ hi ∧ hi ≤ 999999999 ∧ Hid (Box w' w.heap.size #[.slice A l c] RNat) ∧ Hid (Box w' (w.heap.size + 1) #[.slice A' l' c'] RNat) ∧ Hid (New w w')) (fun v5 v6 _ => (intOf v6).toNat - (intOf v5).toNat)
  case atStart => exact ⟨0, 999999999, rfl, rfl, by omega, by omega, by omega, HB0.out, HB1.out, HNW.out⟩
  case round =>
    clear HB0 HB1 HNW
    obtain ⟨lo, hi, rfl, rfl, hlo, hhi, hh9, HB0, HB1, HNW⟩ := hrel
    by_cases hlt : lo < hi
    · obtain ⟨m, hm⟩ : ∃ m, m = (lo + hi + 1) / 2 := ⟨_, rfl⟩
      have hm1 : ((lo : Int) + (hi : Int) + 1) / 2 = (m : Int) := by omega
      have hm2 : ((lo : Int) + (hi : Int) + 1).tdiv 2 = (m : Int) := by rw [Int.tdiv_eq_ediv_of_nonneg (by omega)]; exact hm1
      have hml : lo < m ∧ m ≤ hi := by omega
      have hm9 : m < B9 := by rw [B9_eq]; omega
      have HS := Lib.hid (fun W h => HSM.out W m h hm9)
      have HC := Lib.hid (fun W v h hv => HCM.out W m v h hv hm9)
      have hdm := HD.out m
      clear hm hm9
      obtain ⟨c0, _⟩ := rbox_cell0 HB0.out
      obtain ⟨c1, _⟩ := rbox_cell0 HB1.out
      by_cases hle : y * m ≤ x
      all_goals
        first
        | have hsc : decide (cmpN (y * m) x ≤ 0) = true := by (unfold cmpN; split; rfl; split; omega; rfl)
        | have hsc : decide (cmpN (y * m) x ≤ 0) = false := by (unfold cmpN; rw [if_neg (by omega), if_pos (by omega)]; rfl)
        have hqm : (m ≤ q) ↔ (y * m ≤ x) := by rw [hdm, Nat.mul_comm]
        have hcase : (m ≤ q) ∨ (q < m) := by omega
        generalize cmpN (y * m) x = sc at *
        have hqm2 : (y * m ≤ x) ∨ ¬ (y * m ≤ x) := Classical.em _
        have HQM := Lib.hid hqm
        have HLE := Lib.hid hle
        clear hqm hcase hqm2 hdm hle
        go_wp2_with fail
        go_region_held3 (fun V => New wr V ∧ V.cell? ⟨w.heap.size, 0, none⟩ = some (.slice A l c) ∧ V.cell? ⟨w.heap.size + 1, 0, none⟩ = some (.slice A' l' c'))
          (first
            | exact ⟨(New.refl _).drew, by simpa using c0, by simpa using c1⟩
            | (go_split_ands; exact ⟨New.trans (by assumption) (by assumption), New.still (by assumption) (by assumption), New.still (by assumption) (by assumption)⟩)
            | (go_split_ands; exact ⟨by assumption, by assumption, by assumption⟩))
          ((rw [if_pos (by rfl)]; go_big_op; go_split_ands; first
            | (with_reducible (refine (HC.out _ _ (HNW.out.trans (by first | assumption | exact New.trans (by assumption) (by assumption))) (by assumption)).mono ?_); rintro e w' ⟨rfl, hn⟩; dsimp only)
            | (with_reducible (refine (HS.out _ (HNW.out.trans (by first | assumption | exact New.trans (by assumption) (by assumption)))).mono ?_); rintro e w' ⟨v', rfl, hv', hn⟩; dsimp only)))
        go_split_ands
        rename_i hN _ _
        have HB02 := Lib.hid (HB0.out.new hN)
        have HB12 := Lib.hid (HB1.out.new hN)
        have HN2 := Lib.hid (HNW.out.trans hN)
        clear hN hv' hn
        go_wp2
        go_roundw
        first
        | (case rel => exact ⟨m, hi, by go_num, by go_num, by have := HQM.out; have := HLE.out; omega, by omega, by omega, HB02.out, HB12.out, HN2.out⟩)
        | (case rel => exact ⟨lo, m - 1, by go_num, by go_num, by omega, by have := HQM.out; have := HLE.out; omega, by omega, HB02.out, HB12.out, HN2.out⟩)
        case measure => simp [intOf]; omega
    · obtain rfl : q = lo := by omega
      go_wp2
      go_ret
      exact ⟨rfl, HNW.out⟩
set_option maxHeartbeats 2000000 in
theorem rword_c {x : Nat} {v : Value} {w : World} (h : RefV w v x) (hl : (dg B9 x).length ≤ 2) :
    Calls Tryz.prog 88 #[v] w fun e w' => e = .returned (.int .u64 (x : Int)) ∧ New w w' := by
  obtain ⟨_, rfl, A, c, rfl, hc, hmax, hr⟩ := h
  have hxs := dg_lt B9_2 x
  have hval := dg_val B9_2 x
  generalize dg B9 x = xs at *
  generalize hn : xs.length = n at *
  have HV := Lib.hid hval
  have HXS := Lib.hid hxs
  have HN := Lib.hid hn
  have HR := Lib.hid hr
  clear hval hxs hn hr
  go_enter Tryz.func88, Tryz.ntmps88
  go_wp2
  go_loopw [3, 4] (fun v3 i w' => ∃ (k s : Nat), k ≤ n ∧ i = .int .i64 ((k : Int) - 1) ∧ v3 = .int .u64 (s : Int) ∧ Hid (s = val B9 (xs.drop k)) ∧ s < 1000000000000000000 ∧ Hid (s < B9 ^ (n - k)) ∧
    w' = w.alloc (.cells #[.slice A n c] RNat)) (fun _ i _ => (intOf i + 1).toNat)
  case atStart => exact ⟨n, 0, by omega, rfl, rfl, (by rw [List.drop_of_length_le (by rw [HN.out]; omega)]; rfl : 0 = val B9 (xs.drop n)), by omega, (by simp : 0 < B9 ^ (n - n)), rfl⟩
  case round =>
    obtain ⟨k, s, hk, rfl, rfl, HS, hs18, HS2, rfl⟩ := hrel
    by_cases hlt : 0 < k
    · obtain ⟨j, rfl⟩ : ∃ j, k = j + 1 := ⟨k - 1, by omega⟩
      obtain ⟨b, o, C, fr, rfl, hbl, hcell⟩ := HR.out j (by omega)
      have hc3 := fun o1 => ((New.refl w).alloc o1).still hcell
      have hxd : xs.getD j 0 < B9 := HXS.out _ (getD_mem (by rw [HN.out]; omega))
      have hv : s * B9 + xs.getD j 0 = val B9 (xs.drop j) := by
        rw [List.drop_eq_getElem_cons (by rw [HN.out]; omega), val, ← HS.out, getD_lt (by rw [HN.out]; omega)]
        rw [Nat.mul_comm]; omega
      have hb2 : s * B9 + xs.getD j 0 < B9 ^ (n - j) := by
        rw [show n - j = (n - (j + 1)) + 1 by omega, Nat.pow_succ]
        have := Nat.mul_le_mul_right B9 HS2.out
        rw [Nat.succ_mul] at this
        omega
      have hb3 : B9 ^ (n - j) ≤ B9 ^ 2 := Nat.pow_le_pow_right (by rw [B9_eq]; omega) (by omega)
      have hb4 : B9 ^ 2 = 1000000000000000000 := by rw [B9_eq]
      have hz : (s : Int) * 1000000000 + ((xs.getD j 0 : Nat) : Int) = ((s * B9 + xs.getD j 0 : Nat) : Int) := by rw [B9_eq]; omega
      have HV2 := Lib.hid hv
      have HB2 := Lib.hid hb2
      have hs9 : s < 1000000000 := by
        have h5 : B9 ^ (n - (j + 1)) ≤ B9 ^ 1 := Nat.pow_le_pow_right (by rw [B9_eq]; omega) (by omega)
        have h6 := HS2.out
        rw [Nat.pow_one, B9_eq] at h5
        rw [B9_eq] at h6
        omega
      generalize xs.getD j 0 = xd at *
      have h18 : s * B9 + xd < 1000000000000000000 := by omega
      generalize s * B9 + xd = s2 at *
      rw [B9_eq] at hxd
      have hw1 : IntKind.u64.wrap (xd : Int) = (xd : Int) := IntWalk.u64_in _ (by omega)
      have hw2 : IntKind.u64.wrap ((s : Int) * 1000000000) = (s : Int) * 1000000000 := IntWalk.u64_in _ (by omega)
      have hw3 : IntKind.u64.wrap (s2 : Int) = (s2 : Int) := IntWalk.u64_in _ (by omega)
      have hj1 : ((j + 1 : Nat) : Int) - 1 = (j : Int) := by omega
      clear hcell hbl hb2 hb3 hb4 hv
      go_wp2
      go_roundw
      case rel => exact ⟨j, s2, by omega, by go_num, by go_num, HV2.out, h18, HB2.out, by first | rfl | trivial⟩
      case measure => simp [intOf]; try omega
    · obtain rfl : k = 0 := by omega
      have hs := HS.out
      rw [List.drop_zero, HV.out] at hs
      have HX := Lib.hid hs
      clear hs
      go_wp2
      go_ret
      exact ⟨by rw [HX.out]; rfl, (New.refl w).alloc _⟩
set_option maxHeartbeats 2000000 in
theorem rgcd_w {p0 q0 : Nat} (hp0 : p0 < 18446744073709551616) (hq0 : q0 < 18446744073709551616) (w : World) :
    Calls Tryz.prog 87 #[.int .u64 (p0 : Int), .int .u64 (q0 : Int)] w fun e w' => e = .returned (.int .u64 ((Nat.gcd p0 q0 : Nat) : Int)) ∧ New w w' := by
  go_enter Tryz.func87, Tryz.ntmps87
  go_wp2
  go_loopw [0, 1] (fun v5 v6 w' => ∃ p q : Nat, v5 = .int .u64 (p : Int) ∧ v6 = .int .u64 (q : Int) ∧ p < 18446744073709551616 ∧ q < 18446744073709551616 ∧ Hid (Nat.gcd p q = Nat.gcd p0 q0) ∧ Hid (New w w')) (fun _ v6 _ => (intOf v6).toNat)
  case atStart => exact ⟨p0, q0, rfl, rfl, hp0, hq0, (rfl : Nat.gcd p0 q0 = _), New.refl w⟩
  case round =>
    obtain ⟨p, q, rfl, rfl, hp, hq, HPQ, HWR⟩ := hrel
    by_cases hq0 : 0 < q
    · have hv0 : ¬ (q : Int) = 0 := by omega
      have hqt : Int.tmod (p : Int) (q : Int) = ((p % q : Nat) : Int) := by rw [Int.tmod_eq_emod_of_nonneg (by omega)]; exact (Int.natCast_emod _ _).symm
      have hml := Nat.mod_lt p hq0
      have HPQ2 : Hid (Nat.gcd q (p % q) = Nat.gcd p0 q0) := Lib.hid (by rw [← HPQ.out, Nat.gcd_comm p q, Nat.gcd_rec q p, Nat.gcd_comm])
      have HML := Lib.hid hml
      generalize p % q = z at *
      have hw1 : IntKind.u64.wrap (z : Int) = (z : Int) := IntWalk.u64_in _ (by omega)
      have hz64 : z < 18446744073709551616 := by omega
      have hqi : (0 : Int) < (q : Int) := by omega
      clear hml
      go_wp2
      go_quiet (fail)
      have HWR2 : Hid (New w (wr.drewN nq)) := Lib.hid (HWR.out.drewN nq)
      go_wp2
      go_roundw
      case rel => exact ⟨q, z, by go_num, by go_num, hq, hz64, HPQ2.out, HWR2.out⟩
      case measure => have := HML.out; simp [intOf]; omega
    · obtain rfl : q = 0 := by omega
      have HPX : Hid (Nat.gcd p0 q0 = p) := Lib.hid (by have := HPQ.out; rw [Nat.gcd_zero_right] at this; exact this.symm)
      clear hq0 hq
      go_wp2
      go_ret
      exact ⟨by rw [HPX.out]; rfl, HWR.out⟩
end Go.Proofs.YtkjlmibleoecgaaGreatDoor
