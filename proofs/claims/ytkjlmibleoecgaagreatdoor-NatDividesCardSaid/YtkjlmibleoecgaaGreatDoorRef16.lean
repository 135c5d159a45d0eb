/- The reference of nat, part 16: word of a number of 64 bits, Bits. -/
import Derived.Test.YtkjlmibleoecgaaGreatDoorRef15
import Derived.Test.YtkjlmibleoecgaaGreatDoorK4
import Derived.BigRegion
namespace Go.Proofs.YtkjlmibleoecgaaGreatDoor
set_option linter.unusedSimpArgs false
set_option linter.unusedVariables false
open Go.RowKit
theorem val_drop_le {b : Nat} (hb : 1 ≤ b) : ∀ (xs : List Nat) (k : Nat), val b (xs.drop k) ≤ val b xs
  | [], k => by simp
  | d :: r, 0 => by simp
  | d :: r, k + 1 => by
    have h := val_drop_le hb r k
    rw [List.drop_succ_cons]
    simp only [val]
    have : val b r ≤ b * val b r := Nat.le_mul_of_pos_left _ (by omega)
    omega
set_option maxHeartbeats 2000000 in
theorem rword_w {x : Nat} {v : Value} {w : World} (h : RefV w v x) (hx64 : x < 18446744073709551616) (hl : (dg B9 x).length ≤ 1000) :
    Calls Tryz.prog 88 #[v] w fun e w' => e = .returned (.int .u64 (x : Int)) ∧ New w w' := by
  obtain ⟨_, rfl, A, c, rfl, hc, hmax, hr⟩ := h
  have hxs := dg_lt B9_2 x
  have hval := dg_val B9_2 x
  have HD := Lib.hid (fun k => val_drop_le (b := B9) (by rw [B9_eq]; omega) (dg B9 x) k)
  generalize dg B9 x = xs at *
  generalize hn : xs.length = n at *
  have HV := Lib.hid hval
  have HXS := Lib.hid hxs
  have HN := Lib.hid hn
  have HR := Lib.hid hr
  clear hval hxs hn hr
  go_enter Tryz.func88, Tryz.ntmps88
  go_wp2
  go_loopw [3, 4] (fun v3 i w' => ∃ (k s : Nat), k ≤ n ∧ i = .int .i64 ((k : Int) - 1) ∧ v3 = .int .u64 (s : Int) ∧ Hid (s = val B9 (xs.drop k)) ∧ s < 18446744073709551616 ∧
    w' = w.alloc (.cells #[.slice A n c] RNat)) (fun _ i _ => (intOf i + 1).toNat)
  case atStart => exact ⟨n, 0, by omega, rfl, rfl, (by rw [List.drop_of_length_le (by rw [HN.out]; omega)]; rfl : 0 = val B9 (xs.drop n)), by omega, rfl⟩
  case round =>
    obtain ⟨k, s, hk, rfl, rfl, HS, hs18, rfl⟩ := hrel
    by_cases hlt : 0 < k
    · obtain ⟨j, rfl⟩ : ∃ j, k = j + 1 := ⟨k - 1, by omega⟩
      obtain ⟨b, o, C, fr, rfl, hbl, hcell⟩ := HR.out j (by omega)
      have hc3 := fun o1 => ((New.refl w).alloc o1).still hcell
      have hxd : xs.getD j 0 < B9 := HXS.out _ (getD_mem (by rw [HN.out]; omega))
      have hv : s * B9 + xs.getD j 0 = val B9 (xs.drop j) := by
        rw [List.drop_eq_getElem_cons (by rw [HN.out]; omega), val, ← HS.out, getD_lt (by rw [HN.out]; omega)]
        rw [Nat.mul_comm]; omega
      have hb2 : s * B9 + xs.getD j 0 ≤ x := by rw [hv, ← HV.out]; exact HD.out j
      have hz : (s : Int) * 1000000000 + ((xs.getD j 0 : Nat) : Int) = ((s * B9 + xs.getD j 0 : Nat) : Int) := by rw [B9_eq]; omega
      have HV2 := Lib.hid hv
      generalize xs.getD j 0 = xd at *
      have h18 : s * B9 + xd < 18446744073709551616 := by omega
      rw [B9_eq] at hxd h18 hz hb2
      have hw2 : IntKind.u64.wrap ((s : Int) * 1000000000) = (s : Int) * 1000000000 := IntWalk.u64_in _ (by omega)
      rw [B9_eq] at HV2
      generalize s * 1000000000 + xd = s2 at *
      have hw1 : IntKind.u64.wrap (xd : Int) = (xd : Int) := IntWalk.u64_in _ (by omega)
      have hw3 : IntKind.u64.wrap (s2 : Int) = (s2 : Int) := IntWalk.u64_in _ (by omega)
      have hj1 : ((j + 1 : Nat) : Int) - 1 = (j : Int) := by omega
      clear hcell hbl hv hb2
      go_wp2
      go_roundw
      case rel => exact ⟨j, s2, by omega, by go_num, by go_num, by have := HV2.out; rw [B9_eq]; exact this, h18, by first | rfl | trivial⟩
      case measure => simp [intOf]; try omega
    · obtain rfl : k = 0 := by omega
      have hs := HS.out
      rw [List.drop_zero, HV.out] at hs
      have HX := Lib.hid hs
      clear hs
      go_wp2
      go_ret
      exact ⟨by rw [HX.out]; rfl, (New.refl w).alloc _⟩
theorem bits_uniq {x b : Nat} (hb : 0 < b) (h1 : 2 ^ (b - 1) ≤ x) (h2 : x < 2 ^ b) : bitsN x = b := by
  have h0 : 0 < x := Nat.lt_of_lt_of_le (Nat.pow_pos (by omega)) h1
  obtain ⟨h3, h4, h5⟩ := bitsN_spec h0
  have a1 : b - 1 < bitsN x := (Nat.pow_lt_pow_iff_right (a := 2) (by omega)).1 (Nat.lt_of_le_of_lt h1 h5)
  have a2 : bitsN x - 1 < b := (Nat.pow_lt_pow_iff_right (a := 2) (by omega)).1 (Nat.lt_of_le_of_lt h4 h2)
  omega
theorem bits_shift {x m : Nat} (h : 2 ^ m ≤ x) : bitsN x = m + bitsN (x / 2 ^ m) := by
  have hp : 0 < 2 ^ m := Nat.pow_pos (by omega)
  have hq : 0 < x / 2 ^ m := Nat.div_pos h hp
  obtain ⟨h3, h4, h5⟩ := bitsN_spec hq
  generalize bitsN (x / 2 ^ m) = c at *
  refine bits_uniq (by omega) ?_ ?_
  · rw [show m + c - 1 = (c - 1) + m by omega, Nat.pow_add]
    exact (Nat.le_div_iff_mul_le hp).1 h4
  · rw [Nat.add_comm m c, Nat.pow_add]
    exact (Nat.div_lt_iff_lt_mul hp).1 h5
theorem bits_half {u : Nat} (h : 0 < u) : bitsN u = 1 + bitsN (u / 2) := by
  by_cases h1 : u = 1
  · subst h1
    rw [bits_uniq (x := 1) (b := 1) (by omega) (by decide) (by decide), show 1 / 2 = 0 from rfl, bitsN_zero]
  · have := bits_shift (x := u) (m := 1) (by omega)
    rw [Nat.pow_one] at this
    exact this
theorem bits_small {x : Nat} (L : Nat) (h : (dg B9 x).length ≤ L) : bitsN x ≤ 30 * L := by
  rcases Nat.eq_zero_or_pos x with rfl | h0
  · rw [bitsN_zero]; omega
  · obtain ⟨h3, h4, h5⟩ := bitsN_spec h0
    have a1 : x < B9 ^ L := Nat.lt_of_lt_of_le (dg_lt_pow B9_2 x) (Nat.pow_le_pow_right (by rw [B9_eq]; omega) h)
    have a2 : B9 ^ L ≤ (2 ^ 30) ^ L := Nat.pow_le_pow_left (by rw [B9_eq]; decide) L
    rw [← Nat.pow_mul] at a2
    have := (Nat.pow_lt_pow_iff_right (a := 2) (by omega)).1 (Nat.lt_of_le_of_lt h4 (Nat.lt_of_lt_of_le a1 a2))
    omega
/-- What holds between Bits' rounds. -/
structure RBt (w0 w : World) (p : Nat) (A : Option Addr) (l c y : Nat) : Prop where
  nw : New w0 w
  b : Box w p #[.slice A l c] RNat
  v : RefV w (.agg #[.slice A l c]) y
  k : (dg B9 y).length ≤ 400000
theorem RBt.new {w0 w w' : World} {p : Nat} {A : Option Addr} {l c y : Nat} (h : RBt w0 w p A l c y) (hn : New w w') : RBt w0 w' p A l c y := ⟨h.nw.trans hn, h.b.new hn, h.v.new hn, h.k⟩
theorem RBt.turn {w0 w : World} {p : Nat} {A : Option Addr} {l c y : Nat} (h : RBt w0 w p A l c y) {A' : Option Addr} {l' c' z : Nat} (hv : RefV w (.agg #[.slice A' l' c']) z) (hz : z ≤ y) (hp : w0.heap.size ≤ p) : RBt w0 (w.setCell ⟨p, 0, none⟩ (.slice A' l' c')) p A' l' c' z :=
  ⟨h.nw.setCell (p := ⟨p, 0, none⟩) hp _, h.b.set 0 _, hv.set h.b (by decide) _, Nat.le_trans (dg_len_mono B9_2 hz) h.k⟩
set_option maxRecDepth 100000 in
set_option maxHeartbeats 8000000 in
theorem rbits_c {x : Nat} {v : Value} {w : World} (hx : RefV w v x) (hl : (dg B9 x).length ≤ 400000) :
    Calls Tryz.prog 23 #[v] w fun e w' => e = .returned (.int .i64 (bitsN x)) ∧ New w w' := by
  obtain ⟨A, l, c, rfl⟩ := hx.form
  have hbs := bits_small 400000 hl
  have HS := Lib.hid (show RBt w (w.alloc (.cells #[.slice A l c] RNat)) w.heap.size A l c x from ⟨(New.refl w).alloc _, Box.last _ _ _, hx.new ((New.refl w).alloc _), hl⟩)
  have ho1 := fun W => rof_c (n := 4611686018427387904) (by omega) W
  have ho2 := fun W => rof_c (n := 4294967296) (by omega) W
  simp only [show ((4611686018427387904 : Nat) : Int) = 4611686018427387904 from rfl] at ho1
  simp only [show ((4294967296 : Nat) : Int) = 4294967296 from rfl] at ho2
  have HO1 := Lib.hid ho1
  have HO2 := Lib.hid ho2
  clear ho1 ho2
  clear hx hl
  generalize hB : bitsN x = B at *
  have HB := Lib.hid hB
  clear hB
  go_enter Tryz.func23, Tryz.ntmps23
  go_wp2
  go_loopg [3] x (fun g v3 w' => ∃ A l c y n, Hid (RBt w w' w.heap.size A l c y) ∧ v3 = .int .i64 ((n : Nat) : Int) ∧ Hid (B = n + bitsN y) ∧ n ≤ B ∧ y ≤ g)
  case atStart => exact ⟨A, l, c, x, 0, HS.out, rfl, Lib.hid (by rw [HB.out]; omega), by omega, Nat.le_refl _⟩
  case round =>
    clear HS
    obtain ⟨A, l, c, y, n, HS, rfl, HE, hnB, hyk⟩ := hrel
    obtain ⟨c0, f0⟩ := rbox_cell0 HS.out.b
    have HC1 := Lib.hid (fun W u v (h : RefV W u y) (h2 : RefV W v 4611686018427387904) => rcmp_c h h2 (Nat.le_trans HS.out.k (by omega)) (Nat.le_trans (dg_len (L := 3) B9_2 (by rw [B9_eq]; omega)) (by omega)))
    by_cases hy : 4611686018427387904 ≤ y
    · have HD1 := Lib.hid (fun W u v (h : RefV W u y) (h2 : RefV W v 4294967296) => rdivmod_c h h2 HS.out.k (Nat.le_trans (dg_len (L := 2) B9_2 (by rw [B9_eq]; omega)) (by omega)))
      have hcm : 0 ≤ cmpN y 4611686018427387904 := by unfold cmpN; rw [if_neg (by omega)]; split <;> decide
      have hE2 : B = n + 32 + bitsN (y / 4294967296) := by have := HE.out; rw [bits_shift (m := 32) (by omega), show (2 : Nat) ^ 32 = 4294967296 from by decide] at this; omega
      have hlt : y / 4294967296 < y := Nat.div_lt_self (by omega) (by omega)
      have HE2 := Lib.hid hE2
      have HLT := Lib.hid hlt
      have hnB2 : n + 32 ≤ B := by omega
      have hw1 : IntKind.i64.wrap ((n : Int) + 32) = ((n + 32 : Nat) : Int) := by rw [IntWalk.i64_in _ (by omega)]; omega
      generalize cmpN y 4611686018427387904 = sc at *
      generalize y / 4294967296 = z at *
      clear hE2 hlt
      go_wp2
      go_region_law ((rw [if_pos (by rfl)]; (first | go_big_op | go_simp); first
        | (with_reducible (refine (HC1.out _ _ _ st7.v hv7).mono ?_); rintro e w8 ⟨rfl, hn8⟩; have st8 := st7.new hn8; have e0 := (rbox_cell0 st8.b).1; have e1 := (rbox_cell0 st8.b).2)
        | (with_reducible (refine (HO1.out _).mono ?_); rintro e w7 ⟨v7, rfl, hv7, hn7⟩; have st7 := HS.out.new ((New.refl _).drew.trans hn7); have d0 := (rbox_cell0 st7.b).1)))
      all_goals
        clear HS c0 f0
        have HS := Lib.hid st8
        clear st7 st8 hn7 hn8 hv7 d0 HC1
        go_wp2
        go_region_law ((rw [if_pos (by rfl)]; (first | go_big_op | go_simp); first
          | (with_reducible (refine (HD1.out _ _ _ st9.v hv9).mono ?_); rintro e wa ⟨qa, ra, rfl, hqa, hra, hna⟩; obtain ⟨Aq, lq, cq, rfl⟩ := hqa.form; have sta := st9.new hna; have g0 := (rbox_cell0 sta.b).1; have g1 := (rbox_cell0 sta.b).2)
          | (with_reducible (refine (HO2.out _).mono ?_); rintro e w9 ⟨v9, rfl, hv9, hn9⟩; have st9 := HS.out.new ((New.refl _).drew.trans hn9); have d0 := (rbox_cell0 st9.b).1)))
        all_goals
          have HT := Lib.hid (sta.turn hqa (Nat.le_of_lt HLT.out) (Nat.le_refl _))
          clear st9 sta hqa hra hn9 hna hv9 d0 HD1 HS e0 e1 g0 g1
          go_wp2
          go_roundg z
          case measure => have := HLT.out; omega
          case rel => exact ⟨Aq, lq, cq, z, n + 32, HT.out, by go_num, HE2.out, hnB2, Nat.le_refl _⟩
    · have hcm : ¬ 0 ≤ cmpN y 4611686018427387904 := by unfold cmpN; rw [if_pos (by omega)]; decide
      generalize cmpN y 4611686018427387904 = sc at *
      go_wp2
      go_region_law ((rw [if_pos (by rfl)]; (first | go_big_op | go_simp); first
        | (with_reducible (refine (HC1.out _ _ _ st7.v hv7).mono ?_); rintro e w8 ⟨rfl, hn8⟩; have st8 := st7.new hn8; have e0 := (rbox_cell0 st8.b).1; have e1 := (rbox_cell0 st8.b).2)
        | (with_reducible (refine (HO1.out _).mono ?_); rintro e w7 ⟨v7, rfl, hv7, hn7⟩; have st7 := HS.out.new ((New.refl _).drew.trans hn7); have d0 := (rbox_cell0 st7.b).1)))
      all_goals
        clear HS c0 f0
        have HS := Lib.hid st8
        clear st7 st8 hn7 hn8 hv7 d0 HC1
        go_wp2_with fail
        refine (rword_w HS.out.v (by omega) (Nat.le_trans (dg_len (L := 3) B9_2 (by rw [B9_eq]; omega)) (by omega))).mono ?_
        rintro e w9 ⟨rfl, hn9⟩
        have HN9 := Lib.hid (HS.out.nw.trans hn9)
        have hy64 : y < 18446744073709551616 := by omega
        clear hn9 HS e0 e1 hyk hy
        go_wp2
        go_loopw [3, 4] (fun v3 v4 w' => ∃ m u : Nat, v3 = .int .i64 (m : Int) ∧ v4 = .int .u64 (u : Int) ∧ Hid (B = m + bitsN u) ∧ m ≤ B ∧ u < 18446744073709551616 ∧ Hid (New w w')) (fun _ v4 _ => (intOf v4).toNat)
        case atStart => exact ⟨n, y, rfl, rfl, HE.out, hnB, hy64, HN9.out⟩
        case round =>
          clear HE HN9 hnB hy64
          obtain ⟨m, u, rfl, rfl, HE, hmB, hu, HNW⟩ := hrel
          by_cases hu0 : 0 < u
          · have hE2 : B = m + 1 + bitsN (u / 2) := by have := HE.out; rw [bits_half hu0] at this; omega
            have HE2 := Lib.hid hE2
            have hmB2 : m + 1 ≤ B := by omega
            have hw1 : IntKind.i64.wrap ((m : Int) + 1) = ((m + 1 : Nat) : Int) := by rw [IntWalk.i64_in _ (by omega)]; omega
            have hq : Int.tdiv (u : Int) 2 = ((u / 2 : Nat) : Int) := by rw [Int.tdiv_eq_ediv_of_nonneg (by omega)]; omega
            have hw2 : IntKind.u64.wrap ((u / 2 : Nat) : Int) = ((u / 2 : Nat) : Int) := IntWalk.u64_in _ (by omega)
            have hlt : u / 2 < u := by omega
            have hz64 : u / 2 < 18446744073709551616 := by omega
            generalize u / 2 = z at *
            have hui : (0 : Int) < (u : Int) := by omega
            clear hE2
            go_wp2
            go_roundw
            case rel => exact ⟨m + 1, z, by go_num, by go_num, HE2.out, hmB2, hz64, HNW.out⟩
            case measure => simp [intOf]; omega
          · obtain rfl : u = 0 := by omega
            have hE2 := HE.out
            rw [bitsN_zero] at hE2
            obtain rfl : B = m := hE2
            clear hu0 HE
            go_wp2
            go_ret
            exact ⟨rfl, HNW.out⟩
end Go.Proofs.YtkjlmibleoecgaaGreatDoor
