/- DivMod, walked: numbers of two limbs at least. -/
import Derived.Test.YtkjlmibleoecgaaGreatDoorqDivR
import Derived.Test.YtkjlmibleoecgaaGreatDoorM0
import Derived.Deep.RegionHeld3
import Derived.WalkMore
import Derived.Deep.DeepCutAuto
import Derived.StillTailTactics
import Derived.Deep.RegionLaw
namespace Go.Proofs.YtkjlmibleoecgaaGreatDoor
set_option linter.unusedSimpArgs false
set_option linter.unusedVariables false
open Go.RowKit
set_option maxRecDepth 1000000 in
set_option maxHeartbeats 40000000 in
theorem divmod_big {x y : Nat} {u v : Value} {w : World} (hx : NatV w u x) (hy : NatV w v y) (hl : (dg B32 x).length ≤ 1000000) (hle : y ≤ x) (hn2 : 2 ≤ (dg B32 y).length) :
    Calls Tryz.prog 14 #[u, v] w fun e w' => ∃ q r, e = .returned (.tuple #[q, r, .int .i64 0]) ∧ NatV w' q (x / y) ∧ NatV w' r (x % y) ∧ New w w' := by
  have hx0 := hx
  have hy0 := hy
  have hmono := dg_len_mono B32_2 hle
  obtain ⟨_, rfl, A, c, rfl, hc, hmax, hr⟩ := hx
  obtain ⟨_, rfl, A', c', rfl, hc', hmax', hr'⟩ := hy
  have hy1 : 0 < y := by
    rcases Nat.eq_zero_or_pos y with rfl | h
    · rw [dg_zero] at hn2; simp at hn2
    · exact h
  obtain ⟨b', o', C', fr', rfl, hbl', hcell'⟩ := hr' ((dg B32 y).length - 1) (by omega)
  have htl := dg_lt B32_2 y _ (getD_mem (d := 0) (show (dg B32 y).length - 1 < (dg B32 y).length by omega))
  have htp : 0 < (dg B32 y).getD ((dg B32 y).length - 1) 0 := by
    have h1 := dg_last B32_2 y
    have hne : dg B32 y ≠ [] := fun h => by rw [h] at hn2; simp at hn2
    refine Nat.pos_of_ne_zero fun h => h1 _ ?_ h
    rw [List.getLast?_eq_getElem?, List.getElem?_eq_getElem (by omega), getD_lt (by omega)]
    simp
  have HROOM := Lib.hid (fun s (hs : s < 32) => top_room (y := y) (s := s) hy1 hs)
  have HYP : Hid (B32 ^ ((dg B32 y).length - 1) ≤ y) := Lib.hid (pow_le_dg B32_2 hy1)
  have HXP : Hid (x < B32 ^ (dg B32 x).length) := Lib.hid (dg_lt_pow B32_2 x)
  have HYT : Hid (y < B32 ^ (dg B32 y).length) := Lib.hid (dg_lt_pow B32_2 y)
  have HSX := Lib.hid (fun W s (h : New w W) (hs : s < 32) => shifted_c (hx0.new h) hs hl)
  have HSY := Lib.hid (fun W s (h : New w W) (hs : s < 32) => shifted_c (hy0.new h) hs (by omega))
  have HCM := Lib.hid (fun W (h : New w W) => cmp_c (hx0.new h) (hy0.new h) (by omega) (by omega))
  generalize (dg B32 y).getD ((dg B32 y).length - 1) 0 = t at *
  generalize (dg B32 x).length = m at *
  generalize (dg B32 y).length = n at *
  obtain ⟨n1, hn1e⟩ : ∃ n1, n - 1 = n1 := ⟨_, rfl⟩
  rw [hn1e] at hcell'
  have hA4 : (n : Int) - 1 = (n1 : Int) := by omega
  have hm3 : m ≤ 1000000 := hl
  have hn0b : ((n : Int) == 0) = false := by rw [beq_eq_false_iff_ne]; omega
  have hn1b : ((n : Int) == 1) = false := by rw [beq_eq_false_iff_ne]; omega
  have HN3 := Lib.hid (fun o1 o2 o3 o4 => (((New.refl w).alloc o1).alloc o2 |>.alloc o3).alloc o4)
  have HB0 := Lib.hid ((((Box.last w #[.slice A m c] 26).alloc (.cells #[.slice (some ⟨b', o', none⟩) n c'] 26)).alloc (.cells #[.slice none 0 0] 26)).alloc (.cells #[.slice none 0 0] 26))
  have HB1 := Lib.hid (((Box.last2 w (.cells #[.slice A m c] 26) #[.slice (some ⟨b', o', none⟩) n c'] 26).alloc (.cells #[.slice none 0 0] 26)).alloc (.cells #[.slice none 0 0] 26))
  have HB2 := Lib.hid ((Box.last3 w (.cells #[.slice A m c] 26) (.cells #[.slice (some ⟨b', o', none⟩) n c'] 26) #[.slice none 0 0] 26).alloc (.cells #[.slice none 0 0] 26))
  have HB3 := Lib.hid (Box.last3 (w.alloc (.cells #[.slice A m c] 26)) (.cells #[.slice (some ⟨b', o', none⟩) n c'] 26) (.cells #[.slice none 0 0] 26) #[.slice none 0 0] 26)
  have HCELL := Lib.hid hcell'
  clear hr hr' hbl' hcell' hx0 hy0 hl hmax hmax' hc hc'
  go_enter Tryz.func14, Tryz.ntmps14
  go_wp2
  go_step3
  go_wp2_with fail
  refine (HCM.out _ (HN3.out _ _ _ _)).mono ?_
  rintro e w1 ⟨rfl, hn1⟩
  have hdec : decide (cmpN x y < 0) = false := by unfold cmpN; rw [if_neg (by omega)]; split <;> rfl
  generalize cmpN x y = sc at *
  have hb0 := HB0.out.new hn1
  have hb1 := HB1.out.new hn1
  have hb2 := HB2.out.new hn1
  have hb3 := HB3.out.new hn1
  have hnw := (HN3.out _ _ _ _).trans hn1
  simp only [World.size_alloc] at hb0 hb1 hb2 hb3
  obtain ⟨hc0, _⟩ := bx_cell0 hb0
  obtain ⟨hc1, _⟩ := bx_cell0 hb1
  have hct := hnw.still HCELL.out
  have HNW := Lib.hid hnw
  have HB2' := Lib.hid hb2
  have HB3' := Lib.hid hb3
  clear hb0 hb1 hb2 hb3 hn1 HB0 HB1 HB2 HB3 HN3 HCM HCELL hnw
  go_wp2_with fail
  refine (lz_c htp htl _).mono ?_
  rintro e w2 ⟨s, hs32, hroom, rfl, rfl⟩
  have hw1 : IntKind.u64.wrap (s : Int) = (s : Int) := IntWalk.u64_in _ (by omega)
  have HYR := Lib.hid (HROOM.out s hs32 hroom)
  clear hroom HROOM hct
  go_wp2_with fail
  have hs0 : (0 : Int) ≤ (n : Int) := by omega
  have hs1 : (n : Int) ≤ ((n + 1 : Nat) : Int) := by omega
  have hs2 : (n : Int) ≤ (n : Int) + 1 := by omega
  have hs3 : n ≤ n + 1 := by omega
  go_region_held3 (fun V => New w2 V ∧ V.cell? ⟨w.heap.size, 0, none⟩ = some (.slice A m c) ∧ V.cell? ⟨w.heap.size + 1, 0, none⟩ = some (.slice (some ⟨b', o', none⟩) n c'))
    (first
      | exact ⟨(New.refl _).drew, by simpa using hc0, by simpa using hc1⟩
      | (go_split_ands; exact ⟨New.trans (by assumption) (by assumption), New.still (by assumption) (by assumption), New.still (by assumption) (by assumption)⟩)
      | (go_split_ands; exact ⟨by assumption, by assumption, by assumption⟩))
    ((rw [if_pos (by rfl)]; go_big_op; go_split_ands; first
      | (with_reducible (refine (HSY.out _ s (HNW.out.trans (by assumption)) hs32).mono ?_); rintro e w' ⟨gV, V, rfl, hgV, hbV, hlV, hdV, hvV, hnV⟩; dsimp only)
      | (with_reducible (refine (HSX.out _ s (HNW.out.trans (by assumption)) hs32).mono ?_); rintro e w' ⟨gU, U, rfl, hgU, hbU, hlU, hdU, hvU, hnU⟩; dsimp only)))
  go_split_ands
  rename_i hN hd0 hd1
  have hgV1 : w2.heap.size ≤ gV := by first | exact hgV | exact Nat.le_trans (New.le (by assumption)) hgV
  have hbV2 := Box.new hnU hbV
  have hlt1 := hbV.lt
  have hlt2 := hbU.lt
  have hgUV : gV < gU := by first | exact Nat.lt_of_lt_of_le hlt1 hgU | omega
  have hp4 := HB2'.out.lt
  have hp5 := HB3'.out.lt
  have hwle := HNW.out.le
  have HBU := Lib.hid hbU
  have HBV := Lib.hid hbV2
  have HN2 := Lib.hid (HNW.out.trans hN)
  have HB4 := Lib.hid (HB2'.out.new hN)
  have HB5 := Lib.hid (HB3'.out.new hN)
  have HLV := Lib.hid hlV
  have HDV := Lib.hid hdV
  have HVV := Lib.hid hvV
  have HLU := Lib.hid hlU
  have HDU := Lib.hid hdU
  have HVU := Lib.hid hvU
  clear hlV hdV hvV hlU hdU hvU hbU hbV hbV2 hN hnU hnV hgV hgU hd0 hd1 hc0 hc1 HB2' HB3' HNW HSX HSY
  obtain ⟨lq, hlq⟩ : ∃ lq, lq + n = m + 1 := ⟨m + 1 - n, by omega⟩
  have hq : (m : Int) + 1 - (n : Int) = (lq : Int) := by omega
  have hmk := make_u32 lq (by omega)
  go_wp2
  go_step3
  go_wp2
  obtain ⟨Wl, hWl⟩ : ∃ X, X = w'.alloc (.cells (ecells .u32 (List.replicate lq 0)) 89) := ⟨_, rfl⟩
  have hbq := Box.last w' (ecells .u32 (List.replicate lq 0)) 89
  have HD0 : Hid (DSt w Wl (w.heap.size + 1 + 1) (w.heap.size + 1 + 1 + 1) gU gV w'.heap.size V U (List.replicate lq 0)) := Lib.hid (by
    rw [hWl]
    exact ⟨HN2.out.alloc _, HB4.out.alloc _, HB5.out.alloc _, HBU.out.alloc _, HBV.out.alloc _, hbq, ⟨⟨by omega, by omega, by omega⟩, by omega, by omega, by omega, by omega⟩, by omega, HN2.out.le⟩)
  rw [← hWl]
  generalize w'.heap.size = gQ at *
  clear hWl hbq HBU HBV HB4 HB5 HN2 hgV1 hgUV hlt1 hlt2 hp4 hp5 hwle hmk
  obtain ⟨hlv, hdv, hvv, htv⟩ := vs_of B32_2 HLV.out HDV.out HVV.out HYR.out (Nat.le_trans HYP.out (Nat.le_mul_of_pos_left _ (Nat.pow_pos (by omega)))) (by omega)
  have HI0 := Lib.hid (div_start (b := B32) (S := 2 ^ s) B32_2 (by omega) hmono HDU.out HVU.out hvv (Nat.pow_pos (by omega)) HXP.out HYP.out)
  rw [show m + 1 - n = lq by omega] at HI0
  have HVS : Hid (∀ i, i < n → (V.take n).getD i 0 = V.getD i 0) := Lib.hid (fun i hi => getD_take _ _ _ _ hi)
  generalize V.take n = vs at *
  have HLVS := Lib.hid hlv
  have HDVS := Lib.hid hdv
  have HVVS := Lib.hid hvv
  have HTVS := Lib.hid htv
  clear hlv hdv hvv htv
  go_loopw [14] (fun v14 w' => ∃ (k : Nat) (z : Int) (U Q : List Nat), v14 = .int .i64 z ∧ z + 1 = (k : Int) ∧ k ≤ lq ∧ Hid (DSt w w' (w.heap.size + 1 + 1) (w.heap.size + 1 + 1 + 1) gU gV gQ V U Q) ∧ Hid (DivInv B32 n (2 ^ s * x) vs k U Q) ∧ Hid (U.length = m + 1) ∧ Hid (Q.length = lq)) (fun v14 _ => (intOf v14 + 1).toNat)
  case atStart => exact ⟨lq, (lq : Int) - 1, U, List.replicate lq 0, by first | rfl | (congr 1; omega), by omega, Nat.le_refl _, HD0.out, HI0.out, HLU.out, (List.length_replicate : (List.replicate lq 0).length = lq)⟩
  case round =>
    clear HD0 HI0 HLU HDU HVU U
    obtain ⟨k, z, U, Q, rfl, hz, hk, HD, HI, HLU, HLQ⟩ := hrel
    by_cases hk0 : 0 < k
    · obtain ⟨k, rfl⟩ : ∃ k', k = k' + 1 := ⟨k - 1, by omega⟩
      obtain rfl : z = (k : Int) := by omega
      clear hz hk0
      go_upto_block 2 with fail
      refine round_any (divmod_round hn2 hm3 hk hlq hmono HLVS HDVS HTVS HVS HLV HLU HLQ HD HI ?_)
      clear HD HI HLU HLQ
      intro x15 x16 x17 x18 x19 x20 x21 x22 x88 x89 x90 x91 x92 x93 x94 x95 x96 x97 x98 x99 x100 x101 x102 x103 x104 x105 x106 x107 x108 x109 x110 x111 x112 x113 x114 x115 x116 x117 x118 x119 x120 x121 x122 x123 x124 x125 x126 x127 x128 x129 x130 x131 x132 x133 x134 x135 x136 x137 x138 x139 x140 x141 x142 x143 x144 x145 x146 x147 x148 x149 x150 x151 x152 x153 x154 x155 x156 x157 x158 x159 x160 x161 x162 x163 x164 x165 x166 x167 x168 x169 x170 x171 x172 x173 x174 x175 x176 x177 x178 x179 x180 x181 x182 x183 x184 x185 x186 x187 x188 x189 x190 x191 x192 x193 x194 x195 x196 x197 x198 x199 x200 x201 x202 x203 x204 x205 x206 x207 x208 x209 x210 x211 x212 x213 x214 x215 x216 x217 x218 x219 x220 x221 x222 x223 x224 x225 x226 x227 x228 x229 x230 x231 x232 x233 x234 x235 x236 x237 x238 x239 x240 x241 x242 x243 x244 x245 x246 x247 x248 x249 x250 x251 x252 x253 x254 x255 x256 w5 U5 Q5 HD5 HI5 HLU5 HLQ5
      go_wp2
      go_roundw
      case rel => exact ⟨k, (k : Int) - 1, U5, Q5, by go_num, by omega, by omega, HD5.out, HI5.out, HLU5.out, HLQ5.out⟩
      case measure => simp [intOf]; try omega
    · obtain rfl : k = 0 := by omega
      obtain rfl : z = -1 := by omega
      obtain ⟨hdq, hdu⟩ := div_done HI.out HVVS.out (Nat.pow_pos (by omega)) hy1
      have hmk2 := make_u32 n (by omega)
      have HUL := Lib.hid HI.out.ltU
      have HQL := Lib.hid HI.out.ltQ
      have HDQ := Lib.hid hdq
      have HDU2 := Lib.hid hdu
      clear hz hk0 HI hdq hdu
      go_wp2
      obtain ⟨Wl2, hWl2⟩ : ∃ X, X = wr.alloc (.cells (ecells .u32 (List.replicate n 0)) 89) := ⟨_, rfl⟩
      have HR0 : Hid (RSt w Wl2 (w.heap.size + 1 + 1) (w.heap.size + 1 + 1 + 1) gU gQ wr.heap.size U Q (List.replicate n 0)) := Lib.hid (by rw [hWl2]; exact HD.out.rest _)
      rw [← hWl2]
      generalize wr.heap.size = gR at *
      clear hWl2 hmk2 HD
      have HMOD : Hid (x % y < B32 ^ n) := Lib.hid (Nat.lt_trans (Nat.mod_lt _ hy1) HYT.out)
      go_loopw [260] (fun v260 w' => ∃ (i : Nat) (R : List Nat), v260 = .int .i64 (i : Int) ∧ i ≤ n ∧ Hid (R.length = n) ∧ Hid (∀ j, j < i → R.getD j 0 = (U.getD (j + 1) 0 * B32 + U.getD j 0) / 2 ^ s % B32) ∧ Hid (RSt w w' (w.heap.size + 1 + 1) (w.heap.size + 1 + 1 + 1) gU gQ gR U Q R)) (fun v260 _ => n - (intOf v260).toNat)
      case atStart => exact ⟨0, List.replicate n 0, rfl, by omega, (List.length_replicate : (List.replicate n 0).length = n), fun j hj => absurd hj (by omega), HR0.out⟩
      case round =>
        obtain ⟨i, R, rfl, hi, HLR, HRD, HRS⟩ := hrel
        by_cases hin : i < n
        · have hc0 := HRS.out.bu.ecell (i := i) (by rw [HLU.out]; omega)
          have hc1 := HRS.out.bu.ecell (i := i + 1) (by rw [HLU.out]; omega)
          have hl0 := HUL.out _ (getD_mem (d := 0) (show i < U.length by rw [HLU.out]; omega))
          have hl1 := HUL.out _ (getD_mem (d := 0) (show i + 1 < U.length by rw [HLU.out]; omega))
          have HST := Lib.hid (dv_rest_step HLR.out hin HRD.out)
          have hor := or_u64 hl1 hl0
          have hz64 : U.getD (i + 1) 0 * B32 + U.getD i 0 < 18446744073709551616 := by rw [B32_eq] at *; omega
          generalize U.getD (i + 1) 0 * B32 + U.getD i 0 = z at *
          generalize U.getD (i + 1) 0 = a1 at *
          generalize U.getD i 0 = a0 at *
          rw [B32_eq] at hl0 hl1
          have e1 : (z : Int) / 2 ^ s = ((z / 2 ^ s : Nat) : Int) := by rw [Int.natCast_ediv, Int.natCast_pow]; rfl
          have e2 : ((z / 2 ^ s : Nat) : Int) % 4294967296 = ((z / 2 ^ s % B32 : Nat) : Int) := by rw [cast_mod]
          have hq64 : ((z / 2 ^ s : Nat) : Int) ≤ 18446744073709551615 := by have := Nat.div_le_self z (2 ^ s); omega
          generalize z / 2 ^ s % B32 = zr at *
          generalize z / 2 ^ s = zq at *
          have hw1 : IntKind.u64.wrap (a1 : Int) = (a1 : Int) := IntWalk.u64_in _ (by omega)
          have hw2 : IntKind.u64.wrap ((a1 : Int) * 4294967296) = (a1 : Int) * 4294967296 := IntWalk.u64_in _ (by omega)
          have hw3 : IntKind.u64.wrap (a0 : Int) = (a0 : Int) := IntWalk.u64_in _ (by omega)
          have hw4 : IntKind.u64.wrap (zq : Int) = (zq : Int) := IntWalk.u64_in _ (by omega)
          have hx1 : IntKind.i64.wrap ((i : Int) + 1) = (i : Int) + 1 := IntWalk.i64_in _ (by omega)
          have hx2 : (0 : Int) ≤ (i : Int) + 1 := by omega
          have hx3 : ((i : Int) + 1).toNat = i + 1 := by omega
          have hx4 : (i : Int) < (m : Int) := by omega
          have hx5 : i < m := by omega
          have hx6 : (0 : Int) ≤ (i : Int) := by omega
          have hx7 : (i : Int) < (m : Int) + 1 := by omega
          have hx8 : (i : Int) < (n : Int) := by omega
          clear hz64
          go_wp2
          go_still_tail 18, (by kernel_rfl)
          change wpList _ _ _ _ _ wr.drew
          obtain ⟨W9, hW9⟩ : ∃ X, X = wr.drew := ⟨_, rfl⟩
          have HRS3 : Hid (RSt w W9 (w.heap.size + 1 + 1) (w.heap.size + 1 + 1 + 1) gU gQ gR U Q R) := Lib.hid (by rw [hW9]; exact HRS.out.new ((New.refl _).drew))
          rw [← hW9]
          have hcR := HRS3.out.br.ecell (i := i) (by rw [HLR.out]; omega)
          have hfR := HRS3.out.br.frozen i
          generalize R.getD i 0 = ri at hcR
          have HRS2 := Lib.hid (HRS3.out.setR i zr)
          clear hW9 hc0 hc1
          go_wp2
          go_roundw
          case rel => exact ⟨i + 1, R.set i zr, by go_num, by omega, (by rw [List.length_set]; exact HLR.out), HST.out, HRS2.out⟩
          case measure => simp [intOf]; omega
        · obtain rfl : n = i := by omega
          have HV2 := Lib.hid (div_rest hs32 HUL.out HDU2.out HLR.out HMOD.out HRD.out)
          have HRL := Lib.hid (dv_lt_of_getD HLR.out HRD.out)
          have hsQ := Sl.of_block HRS.out.bq (by rw [HLQ.out]; unfold maxLen; omega)
          rw [HLQ.out] at hsQ
          clear hin
          go_wp2_with fail
          refine (trimmed_c hsQ).mono ?_
          rintro e w5 ⟨v5, rfl, hv5, hn5⟩
          have HQ5 := Lib.hid (nat_of hv5 HQL.out HDQ.out)
          have HRS5 := Lib.hid (HRS.out.new hn5)
          have hsR := Sl.of_block HRS5.out.br (by rw [HLR.out]; unfold maxLen; omega)
          rw [HLR.out] at hsR
          clear hv5 hn5 hsQ
          go_wp2_with fail
          refine (trimmed_c hsR).mono ?_
          rintro e w6 ⟨v6, rfl, hv6, hn6⟩
          have HR6 := Lib.hid (nat_of hv6 HRL.out HV2.out)
          have HQ6 := Lib.hid (HQ5.out.new hn6)
          have HRS6 := Lib.hid (HRS5.out.new hn6)
          clear hv6 hn6 hsR
          obtain ⟨A5, l5, c5, e5⟩ := HQ6.out.form
          obtain rfl : v5 = .slice A5 l5 c5 := by simpa using e5
          obtain ⟨A6, l6, c6, e6⟩ := HR6.out.form
          obtain rfl : v6 = .slice A6 l6 c6 := by simpa using e6
          clear e5 e6
          obtain ⟨hc4, hf4⟩ := bx_cell0 HRS6.out.b4
          have hb5' := HRS6.out.b5.far (p := w.heap.size + 1 + 1) (i := 0) (by omega) (.slice A5 l5 c5)
          obtain ⟨hc5, hf5⟩ := bx_cell0 hb5'
          obtain ⟨g4, g5⟩ := dv_two_boxes (u := .slice A5 l5 c5) (v := .slice A6 l6 c6) HRS6.out.b4 HRS6.out.b5 (by omega)
          have HQ7 := Lib.hid ((HQ6.out.set HRS6.out.b4 (by decide) (i := 0) (.slice A5 l5 c5)).set hb5' (by decide) (i := 0) (.slice A6 l6 c6))
          have HR7 := Lib.hid ((HR6.out.set HRS6.out.b4 (by decide) (i := 0) (.slice A5 l5 c5)).set hb5' (by decide) (i := 0) (.slice A6 l6 c6))
          have HN7 := Lib.hid ((HRS6.out.nw.setCell (p := ⟨w.heap.size + 1 + 1, 0, none⟩) (by simp; omega) (.slice A5 l5 c5)).setCell (p := ⟨w.heap.size + 1 + 1 + 1, 0, none⟩) (by simp; omega) (.slice A6 l6 c6))
          obtain ⟨k4, _⟩ := bx_cell0 g4
          obtain ⟨k5, _⟩ := bx_cell0 g5
          clear hb5' g4 g5
          go_wp2
          first | rw [Exit.noGoto_ret] | skip
          refine bodyPost_ret (v := .tuple #[.agg #[.slice A5 l5 c5], .agg #[.slice A6 l6 c6], .int .i64 0]) (by simp [results, Tryz.results14, go_sem, k4, k5]) rfl ⟨_, _, rfl, HQ7.out, HR7.out, HN7.out⟩
end Go.Proofs.YtkjlmibleoecgaaGreatDoor
