/- The reference of nat, part 13: long division. -/
import Derived.Test.YtkjlmibleoecgaaGreatDoorM1
import Derived.BigRegion
import Derived.Deep.RegionLaw
import Derived.RegionTactic
namespace Go.Proofs.YtkjlmibleoecgaaGreatDoor
set_option linter.unusedSimpArgs false
set_option linter.unusedVariables false
open Go.RowKit
theorem div_low {a d y b : Nat} (hy : 0 < y) : (a * b + d) / y = a / y * b + (a % y * b + d) / y ∧ (a * b + d) % y = (a % y * b + d) % y := by
  have e := Nat.div_add_mod a y
  have h : a * b + d = (a % y * b + d) + y * (a / y * b) := by
    conv => lhs; rw [← e]
    rw [Nat.add_mul, Nat.mul_assoc]; omega
  rw [h, Nat.add_mul_div_left _ _ hy, Nat.add_mul_mod_self_left]
  exact ⟨by omega, rfl⟩
/-- What holds between two digits: k digits are left. -/
structure RDiv (xs : List Nat) (y k : Nat) (L : List Nat) (r : Nat) : Prop where
  len : L.length = xs.length
  lt : ∀ d ∈ L, d < B9
  r : r = val B9 (xs.drop k) % y
  q : val B9 (L.drop k) = val B9 (xs.drop k) / y
theorem RDiv.start (xs : List Nat) (y : Nat) : RDiv xs y xs.length (List.replicate xs.length 0) 0 := by
  refine ⟨by simp, fun d hd => ?_, ?_, ?_⟩
  · rw [List.mem_replicate] at hd; rw [hd.2, B9_eq]; omega
  · rw [List.drop_length]; simp [val]
  · rw [List.drop_length, List.drop_of_length_le (by simp)]; simp [val]
theorem RDiv.step {xs L : List Nat} {y k r : Nat} (h : RDiv xs y (k + 1) L r) (hy : 0 < y) (hk : k < xs.length) (hx : xs.getD k 0 < B9) :
    r * B9 + xs.getD k 0 < B9 * y ∧ (r * B9 + xs.getD k 0) / y < B9 ∧ r < y ∧ RDiv xs y k (L.set k ((r * B9 + xs.getD k 0) / y)) ((r * B9 + xs.getD k 0) % y) := by
  have hr : r < y := by rw [h.r]; exact Nat.mod_lt _ hy
  have h1 : (r + 1) * B9 ≤ y * B9 := Nat.mul_le_mul_right _ hr
  rw [Nat.succ_mul, Nat.mul_comm y] at h1
  have h2 : r * B9 + xs.getD k 0 < B9 * y := by omega
  have h3 : (r * B9 + xs.getD k 0) / y < B9 := by rw [Nat.div_lt_iff_lt_mul hy]; exact h2
  have hd : val B9 (xs.drop k) = val B9 (xs.drop (k + 1)) * B9 + xs.getD k 0 := by
    rw [List.drop_eq_getElem_cons hk, val, getD_lt hk, Nat.mul_comm]; omega
  obtain ⟨e1, e2⟩ := div_low (a := val B9 (xs.drop (k + 1))) (d := xs.getD k 0) (b := B9) hy
  rw [← hd, ← h.r] at e1 e2
  refine ⟨h2, h3, hr, by simp [h.len], lt_set h.lt _ h3, e2.symm, ?_⟩
  rw [List.drop_eq_getElem_cons (by rw [List.length_set, h.len]; exact hk), val, List.getElem_set_self, List.drop_set_of_lt (by omega), h.q, e1]
  have := Nat.mul_comm B9 (val B9 (xs.drop (k + 1)) / y)
  omega
theorem RDiv.done {x y r : Nat} {L : List Nat} (h : RDiv (dg B9 x) y 0 L r) : val B9 L = x / y ∧ r = x % y := by
  have h1 := h.r
  have h2 := h.q
  simp only [List.drop_zero] at h1 h2
  rw [dg_val B9_2] at h1 h2
  exact ⟨h2, h1⟩
/-- The world between two digits. -/
structure RD (w0 w : World) (p : Nat) (A : Option Addr) (l c : Nat) (A' : Option Addr) (l' c' : Nat) (L : List Nat) (A2 : Option Addr) (l2 c2 r : Nat) : Prop where
  nw : New w0 w
  b0 : Box w p #[.slice A l c] RNat
  b1 : Box w (p + 1) #[.slice A' l' c'] RNat
  b2 : Box w (p + 1 + 1) #[.slice none 0 0] RNat
  b3 : Box w (p + 1 + 1 + 1) #[.slice none 0 0] RNat
  bl : Box w (p + 1 + 1 + 1 + 1) (ecells .i64 L) 3
  br : Box w (p + 1 + 1 + 1 + 1 + 1) #[.slice A2 l2 c2] RNat
  rv : RefV w (.agg #[.slice A2 l2 c2]) r
  le : w0.heap.size ≤ p
section
variable {w0 w w' : World} {p : Nat} {A : Option Addr} {l c : Nat} {A' : Option Addr} {l' c' : Nat} {L : List Nat} {A2 : Option Addr} {l2 c2 r : Nat}
theorem RD.new (h : RD w0 w p A l c A' l' c' L A2 l2 c2 r) (hn : New w w') : RD w0 w' p A l c A' l' c' L A2 l2 c2 r :=
  ⟨h.nw.trans hn, h.b0.new hn, h.b1.new hn, h.b2.new hn, h.b3.new hn, h.bl.new hn, h.br.new hn, h.rv.new hn, h.le⟩
theorem RD.setR (h : RD w0 w p A l c A' l' c' L A2 l2 c2 r) {A3 : Option Addr} {l3 c3 r' : Nat} (hv : RefV w (.agg #[.slice A3 l3 c3]) r') : RD w0 (w.setCell ⟨p + 1 + 1 + 1 + 1 + 1, 0, none⟩ (.slice A3 l3 c3)) p A l c A' l' c' L A3 l3 c3 r' :=
  ⟨h.nw.setCell (p := ⟨p + 1 + 1 + 1 + 1 + 1, 0, none⟩) (by have := h.le; simp; omega) _, h.b0.far (by omega) _, h.b1.far (by omega) _, h.b2.far (by omega) _, h.b3.far (by omega) _, h.bl.far (by omega) _, h.br.set 0 _, hv.set h.br (by decide) _, h.le⟩
theorem RD.setL (h : RD w0 w p A l c A' l' c' L A2 l2 c2 r) (hf : ∀ ad, A2 = some ad → ad.block ≠ p + 1 + 1 + 1 + 1) (i z : Nat) : RD w0 (w.setCell ⟨p + 1 + 1 + 1 + 1, i, none⟩ (.int .i64 (z : Int))) p A l c A' l' c' (L.set i z) A2 l2 c2 r :=
  ⟨h.nw.setCell (p := ⟨p + 1 + 1 + 1 + 1, i, none⟩) (by have := h.le; simp; omega) _, h.b0.far (by omega) _, h.b1.far (by omega) _, h.b2.far (by omega) _, h.b3.far (by omega) _, (by rw [← ecells_set]; exact h.bl.set i _), h.br.far (by omega) _, h.rv.far hf _, h.le⟩
theorem RD.cell {w0 w : World} {p : Nat} {A : Option Addr} {l c : Nat} {A' : Option Addr} {l' c' : Nat} {L : List Nat} {A2 : Option Addr} {l2 c2 r : Nat} (h : RD w0 w p A l c A' l' c' L A2 l2 c2 r) {i : Nat} (hi : i < L.length) : w.cell? ⟨p + 1 + 1 + 1 + 1, i, none⟩ = some (.int .i64 (L.getD i 0 : Nat)) := by rw [h.bl.cell, ecells_get .i64 hi]
end
set_option maxRecDepth 100000 in
set_option maxHeartbeats 8000000 in
theorem rdivmod_big {x y : Nat} {u v : Value} {w : World} (hx : RefV w u x) (hy : RefV w v y) (hl : (dg B9 x).length ≤ 400000) (hl2 : (dg B9 y).length ≤ 400000) (hn2 : 2 ≤ (dg B9 y).length) :
    Calls Tryz.prog 15 #[u, v] w fun e w' => ∃ q r, e = .returned (.tuple #[q, r, .int .i64 0]) ∧ RefV w' q (x / y) ∧ RefV w' r (x % y) ∧ New w w' := by
  have hx0 := hx
  have hy0 := hy
  obtain ⟨_, rfl, A, c, rfl, hc, hmax, hr⟩ := hx
  obtain ⟨_, rfl, A', c', rfl, hc', hmax', hr'⟩ := hy
  have hy1 : 0 < y := by
    rcases Nat.eq_zero_or_pos y with rfl | h
    · rw [dg_zero] at hn2; simp at hn2
    · exact h
  have hlx : ∀ z, z ≤ y → (dg B9 z).length ≤ 400000 := fun z hz => Nat.le_trans (dg_len_mono B9_2 hz) hl2
  have HS2 := Lib.hid (fun W (v : Value) (r d : Nat) (h : RefV W v r) (hd : d < B9) (hr : r < y) => rsmall2_c h hd (by have := hlx r (by omega); omega))
  have HTM := Lib.hid (fun W (v : Value) (z : Nat) (hW : New w W) (h : RefV W v z) (hz : z < B9 * y) => rtimes_c h (hy0.new hW) hy1 hz (by
    have h1 := dg_len_mono B9_2 (Nat.le_of_lt hz)
    have h2 := dg_len_mul B9_2 B9 y
    have h3 : (dg B9 B9).length ≤ 2 := dg_len B9_2 (by rw [B9_eq]; omega)
    omega) (by omega))
  have HSM := Lib.hid (fun W d (hW : New w W) (hd : d < B9) => rsmall_0 (n := d) (hy0.new hW) hd (by omega))
  have HSB := Lib.hid (fun W (u v : Value) (a b : Nat) (ha : RefV W u a) (hb : RefV W v b) (hA : a < B9 * y) (hB : b < B9 * y) => rsub_c ha hb (by
    have h1 := dg_len_mono B9_2 (Nat.le_of_lt hA)
    have h2 := dg_len_mul B9_2 B9 y
    have h3 : (dg B9 B9).length ≤ 2 := dg_len B9_2 (by rw [B9_eq]; omega)
    omega) (by
    have h1 := dg_len_mono B9_2 (Nat.le_of_lt hB)
    have h2 := dg_len_mul B9_2 B9 y
    have h3 : (dg B9 B9).length ≤ 2 := dg_len B9_2 (by rw [B9_eq]; omega)
    omega))
  have hxl := dg_lt B9_2 x
  have hdone := fun L r => RDiv.done (x := x) (y := y) (r := r) (L := L)
  have hst0 := RDiv.start (dg B9 x) y
  generalize dg B9 x = xs at *
  generalize hm : xs.length = m at *
  generalize (dg B9 y).length = n at *
  have hmk := make_i64 m (by omega)
  have hn0b : ((n : Int) == 0) = false := by rw [beq_eq_false_iff_ne]; omega
  have hn1b : ((n : Int) == 1) = false := by rw [beq_eq_false_iff_ne]; omega
  have HXL := Lib.hid hxl
  have HDN := Lib.hid hdone
  have HST0 := Lib.hid hst0
  have HM := Lib.hid hm
  have HR := Lib.hid hr
  have HY1 := Lib.hid hy1
  clear hxl hdone hst0 hm hr hr' hx0 hy0 hmax hmax' hc hc' hlx hl2
  go_enter Tryz.func15, Tryz.ntmps15
  go_wp2
  obtain ⟨W0, hW0⟩ : ∃ X, X = (((((w.alloc (.cells #[.slice A m c] RNat)).alloc (.cells #[.slice A' n c'] RNat)).alloc (.cells #[.slice none 0 0] RNat)).alloc (.cells #[.slice none 0 0] RNat)).alloc (.cells (ecells .i64 (List.replicate m 0)) 3)).alloc (.cells #[.slice none 0 0] RNat) := ⟨_, rfl⟩
  have HD0 : Hid (RD w W0 w.heap.size A m c A' n c' (List.replicate m 0) none 0 0 0) := Lib.hid (by
    rw [hW0]
    have hb3 := Box.last3 (w.alloc (.cells #[.slice A m c] RNat)) (.cells #[.slice A' n c'] RNat) (.cells #[.slice none 0 0] RNat) #[.slice none 0 0] RNat
    have hb4 := Box.last3 ((w.alloc (.cells #[.slice A m c] RNat)).alloc (.cells #[.slice A' n c'] RNat)) (.cells #[.slice none 0 0] RNat) (.cells #[.slice none 0 0] RNat) (ecells .i64 (List.replicate m 0)) 3
    have hb5 := Box.last3 (((w.alloc (.cells #[.slice A m c] RNat)).alloc (.cells #[.slice A' n c'] RNat)).alloc (.cells #[.slice none 0 0] RNat)) (.cells #[.slice none 0 0] RNat) (.cells (ecells .i64 (List.replicate m 0)) 3) #[.slice none 0 0] RNat
    simp only [World.size_alloc] at hb3 hb4 hb5
    exact ⟨((((((New.refl w).alloc _).alloc _).alloc _).alloc _).alloc _).alloc _, ((((Box.last w _ _).alloc _).alloc _).alloc _ |>.alloc _).alloc _, (((Box.last2 w _ _ _).alloc _).alloc _ |>.alloc _).alloc _, ((Box.last3 w _ _ _ _).alloc _ |>.alloc _).alloc _, (hb3.alloc _).alloc _, hb4.alloc _, hb5, RefV.zero _, Nat.le_refl _⟩)
  rw [← hW0]
  clear hW0 hmk
  go_loopw [11] (fun v11 w' => ∃ (k r : Nat) (L : List Nat) (A2 : Option Addr) (l2 c2 : Nat), v11 = .int .i64 ((k : Int) - 1) ∧ k ≤ m ∧ Hid (RDiv xs y k L r) ∧ Hid (RD w w' w.heap.size A m c A' n c' L A2 l2 c2 r)) (fun v11 _ => (intOf v11 + 1).toNat)
  case atStart => exact ⟨m, 0, List.replicate m 0, none, 0, 0, rfl, Nat.le_refl _, HST0.out, HD0.out⟩
  case round =>
    clear HD0 HST0
    obtain ⟨k, r, L, A2, l2, c2, rfl, hk, HI, HD⟩ := hrel
    obtain ⟨c0, _⟩ := rbox_cell0 HD.out.b0
    obtain ⟨cr, fr⟩ := rbox_cell0 HD.out.br
    by_cases hk0 : 0 < k
    · obtain ⟨j, rfl⟩ : ∃ j, k = j + 1 := ⟨k - 1, by omega⟩
      obtain ⟨b, o, C, fr', rfl, hbl, hcell⟩ := HR.out j (by omega)
      have hcr := HD.out.nw.still hcell
      have hd9 := HXL.out _ (getD_mem (d := 0) (show j < xs.length by rw [HM.out]; omega))
      obtain ⟨s1, s2, s3, s4⟩ := HI.out.step HY1.out (by rw [HM.out]; omega) hd9
      generalize xs.getD j 0 = d at *
      have hj1 : ((j + 1 : Nat) : Int) - 1 = (j : Int) := by omega
      have hj2 : ((j : Int) + 1) - 1 = (j : Int) := by omega
      have HA := Lib.hid (fun W hW => HS2.out W (.agg #[.slice A2 l2 c2]) r d hW hd9 s3)
      have HRV := Lib.hid HD.out.rv
      have hxj1 : (0 : Int) ≤ (j : Int) := by omega
      have hxj2 : (j : Int) < (m : Int) := by omega
      have hxj3 : j < m := by omega
      have HS1 := Lib.hid s1
      have HS4 := Lib.hid s4
      have HS3 := Lib.hid s3
      have HQ9 := Lib.hid s2
      clear hbl hcell s1 s2 s3 s4 hd9 hk0
      go_wp2
      go_region_law ((rw [if_pos (by rfl)]; (first | go_big_op | go_simp); refine (HA.out _ (HRV.out.new (New.refl _).drew)).mono ?_; rintro e w5 ⟨A5, l5, c5, rfl, hv5, hn5, hf5⟩; have hc5 := hn5.still (show wr.drew.cell? ⟨w.heap.size + 1 + 1 + 1 + 1 + 1, 0, none⟩ = _ by simpa using cr); have hfr5 := (HD.out.br.new ((New.refl wr).drew.trans hn5)).frozen 0))
      all_goals
        have hlt4 := HD.out.bl.lt
        have HFR : Hid (∀ ad, A5 = some ad → ad.block ≠ w.heap.size + 1 + 1 + 1 + 1) := Lib.hid (fun ad h => by have := hf5 ad h; have h2 : wr.drew.heap.size = wr.heap.size := rfl; omega)
        have HD6 := Lib.hid ((HD.out.new ((New.refl wr).drew.trans hn5)).setR hv5)
        clear hv5 hn5 hf5 hc5 hfr5 hcr c0 cr fr hlt4 HA HRV
        obtain ⟨W6, hW6⟩ : ∃ X : World, X = w5.setCell ⟨w.heap.size + 1 + 1 + 1 + 1 + 1, 0, none⟩ (.slice A5 l5 c5) := ⟨_, rfl⟩
        rw [← hW6] at HD6 ⊢
        clear hW6
        obtain ⟨cr, _⟩ := rbox_cell0 HD6.out.br
        obtain ⟨c1, _⟩ := rbox_cell0 HD6.out.b1
        obtain ⟨z, hz⟩ : ∃ z, z = r * B9 + d := ⟨_, rfl⟩
        rw [← hz] at HD6 HS1 HS4 HQ9
        obtain ⟨qd, hqd⟩ : ∃ qd, qd = z / y := ⟨_, rfl⟩
        have HT := Lib.hid (HTM.out _ _ z HD6.out.nw HD6.out.rv HS1.out)
        rw [← hqd] at HS4 HQ9 HT
        have HQY : Hid (y * qd < B9 * y ∧ z - y * qd = z % y) := Lib.hid ⟨by rw [Nat.mul_comm]; exact Nat.mul_lt_mul_of_pos_right HQ9.out HY1.out, by rw [hqd]; have := Nat.div_add_mod z y; omega⟩
        have hq9 : qd < 1000000000 := by have := HQ9.out; rw [B9_eq] at this; exact this
        have HLL : Hid (L.length = m) := Lib.hid (by rw [HI.out.len, HM.out])
        clear hz hqd
        go_wp2_with fail
        refine HT.out.mono ?_
        rintro e w7 ⟨rfl, hn7⟩
        have HD7 := Lib.hid (HD6.out.new hn7)
        have hcl := HD7.out.cell (i := j) (by rw [HLL.out]; omega)
        have hfl := HD7.out.bl.frozen j
        generalize L.getD j 0 = lj at hcl
        have HD8 := Lib.hid (HD7.out.setL HFR.out j qd)
        clear cr c1 hn7 HT
        go_wp2_with fail
        obtain ⟨W8, hW8⟩ : ∃ X : World, X = w7.setCell ⟨w.heap.size + 1 + 1 + 1 + 1, j, none⟩ (.int .i64 (qd : Int)) := ⟨_, rfl⟩
        rw [← hW8] at HD8 ⊢
        clear hW8 hcl hfl
        obtain ⟨cr, _⟩ := rbox_cell0 HD8.out.br
        obtain ⟨c1, _⟩ := rbox_cell0 HD8.out.b1
        have hcl := HD8.out.cell (i := j) (by rw [List.length_set, HLL.out]; omega)
        rw [show (L.set j qd).getD j 0 = qd by rw [List.getD_eq_getElem?_getD, List.getElem?_set_self (by rw [HLL.out]; omega), Option.getD_some]] at hcl
        have HD9 := Lib.hid (HD8.out.new (New.refl W8).drew)
        have HA := Lib.hid (HSM.out _ qd HD9.out.nw HQ9.out)
        have HB := Lib.hid (fun W v h1 h2 => HSB.out W (.agg #[.slice A5 l5 c5]) v z (y * qd) h1 h2 HS1.out HQY.out.1)
        go_region_law ((rw [if_pos (by rfl)]; (first | go_big_op | go_simp); first
          | (with_reducible (refine HA.out.mono ?_); rintro e w9 ⟨v9, rfl, hv9, hn9⟩; have cr9 := hn9.still (show W8.drew.cell? ⟨w.heap.size + 1 + 1 + 1 + 1 + 1, 0, none⟩ = _ by simpa using cr))
          | (with_reducible (refine (HB.out _ _ (HD9.out.rv.new hn9) hv9).mono ?_); rintro e w10 ⟨v10, rfl, hv10, hn10⟩; obtain ⟨A10, l10, c10, rfl⟩ := hv10.form; obtain ⟨cr10, fr10⟩ := rbox_cell0 ((HD9.out.br.new hn9).new hn10))))
        all_goals
          rw [HQY.out.2] at hv10
          have HD11 := Lib.hid (((HD9.out.new hn9).new hn10).setR hv10)
          clear hv10 hn10 hv9 hn9 cr10 fr10 cr9 cr c1 hcl HA HB HD9
          go_wp2
          go_roundw
          case rel => exact ⟨j, z % y, L.set j qd, A10, l10, c10, by go_num, by omega, HS4.out, HD11.out⟩
          case measure => simp [intOf]; try omega
    · obtain rfl : k = 0 := by omega
      obtain ⟨hdq, hdr⟩ := HDN.out L r HI.out
      have HDQ := Lib.hid hdq
      have HDR := Lib.hid hdr
      have HLL : Hid (L.length = m) := Lib.hid (by rw [HI.out.len, HM.out])
      have hsl := Sl.of_block (HD.out.bl.new (New.refl wr).drew) (by rw [HLL.out]; unfold maxLen; omega)
      rw [HLL.out] at hsl
      have HT := Lib.hid (rtrim_c hsl)
      have HLT := Lib.hid HI.out.lt
      clear hsl hdq hdr hk0
      go_wp2
      go_region_law ((rw [if_pos (by rfl)]; (first | go_big_op | go_simp); (with_reducible (refine HT.out.mono ?_)); rintro e w5 ⟨v5, rfl, hv5, hn5⟩; have hq5 := RefV.of_sl hv5 HLT.out; obtain ⟨A5, l5, c5, e5⟩ := hq5.form; obtain rfl : v5 = .slice A5 l5 c5 := (by simpa using e5); have hd5 := (HD.out.new (New.refl wr).drew).new hn5; obtain ⟨k2, f2⟩ := rbox_cell0 hd5.b2; obtain ⟨k5, _⟩ := rbox_cell0 hd5.br; have hb3' := hd5.b3.far (p := w.heap.size + 1 + 1) (i := 0) (by omega) (.slice A5 l5 c5); obtain ⟨k3, f3⟩ := rbox_cell0 hb3'; obtain ⟨k6, _⟩ := rbox_cell0 (hd5.br.far (p := w.heap.size + 1 + 1) (i := 0) (by omega) (.slice A5 l5 c5))))
      all_goals
        rw [HDQ.out] at hq5
        have HQ7 := Lib.hid (hq5.set2 hd5.b2 hd5.b3 (by omega) (by decide) (.slice A5 l5 c5) (.slice A2 l2 c2))
        have HR7 := Lib.hid (hd5.rv.set2 hd5.b2 hd5.b3 (by omega) (by decide) (.slice A5 l5 c5) (.slice A2 l2 c2))
        obtain ⟨g4, g5⟩ := r_two_boxes (u := .slice A5 l5 c5) (v := .slice A2 l2 c2) hd5.b2 hd5.b3 (by omega)
        obtain ⟨q4, _⟩ := rbox_cell0 g4
        obtain ⟨q5, _⟩ := rbox_cell0 g5
        have HN7 := Lib.hid ((hd5.nw.setCell (p := ⟨w.heap.size + 1 + 1, 0, none⟩) (by simp; try omega) (.slice A5 l5 c5)).setCell (p := ⟨w.heap.size + 1 + 1 + 1, 0, none⟩) (by simp; try omega) (.slice A2 l2 c2))
        clear g4 g5 hq5 hv5 hn5 hd5 hb3' e5
        go_wp2
        refine bodyPost_ret (v := .tuple #[.agg #[.slice A5 l5 c5], .agg #[.slice A2 l2 c2], .int .i64 0]) (by simp [results, Tryz.results15, go_sem, q4, q5]) rfl ⟨_, _, rfl, HQ7.out, by rw [← HDR.out]; exact HR7.out, HN7.out⟩
end Go.Proofs.YtkjlmibleoecgaaGreatDoor
