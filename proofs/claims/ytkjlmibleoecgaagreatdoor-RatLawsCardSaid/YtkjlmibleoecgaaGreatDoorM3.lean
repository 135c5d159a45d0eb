/- DivMod, whole; Gcd. -/
import Derived.Test.YtkjlmibleoecgaaGreatDoorqDiv3
import Derived.Test.YtkjlmibleoecgaaGreatDoorqDiv4
import Derived.Test.YtkjlmibleoecgaaGreatDoorM2
import Derived.BigRegion
import Derived.BigQuiet
namespace Go.Proofs.YtkjlmibleoecgaaGreatDoor
set_option linter.unusedSimpArgs false
set_option linter.unusedVariables false
open Go.RowKit
/-- DivMod's error, its rest. -/
def divE (y : Nat) : Int := if y = 0 then 12 else 0
def remZ (x y : Nat) : Nat := if y = 0 then 0 else x % y
theorem divmod_c {x y : Nat} {u v : Value} {w : World} (hx : NatV w u x) (hy : NatV w v y) (hl : (dg B32 x).length ≤ 1000000) (hl2 : (dg B32 y).length ≤ 1000000) :
    Calls Tryz.prog 14 #[u, v] w fun e w' => ∃ q r, e = .returned (.tuple #[q, r, .int .i64 (divE y)]) ∧ NatV w' q (x / y) ∧ NatV w' r (remZ x y) ∧ New w w' := by
  by_cases h0 : y = 0
  · subst h0
    rw [Nat.div_zero]
    exact divmod_zero hx hy
  · have e1 : divE y = 0 := by unfold divE; rw [if_neg h0]
    have e2 : remZ x y = x % y := by unfold remZ; rw [if_neg h0]
    rw [e1, e2]
    by_cases h1 : x < y
    · exact divmod_less hx hy hl hl2 h1
    · by_cases h2 : (dg B32 y).length = 1
      · exact divmod_one hx hy hl (by omega) h2
      · have h3 : (dg B32 y).length ≠ 0 := fun h => h0 ((dg_nil B32_2).1 (List.length_eq_zero_iff.1 h))
        exact divmod_big hx hy hl (by omega) (by omega)
/-- What holds between Gcd's rounds. -/
structure GSt (w0 w : World) (p X Y x y : Nat) (A : Option Addr) (l c : Nat) (A' : Option Addr) (l' c' : Nat) : Prop where
  nw : New w0 w
  a : NatV w (.agg #[.slice A l c]) x
  b : NatV w (.agg #[.slice A' l' c']) y
  b0 : Box w p #[.slice A l c] 26
  b1 : Box w (p + 1) #[.slice A' l' c'] 26
  b2 : Box w (p + 1 + 1) #[.slice none 0 0] 26
  la : (dg B32 x).length ≤ 1000000
  lb : (dg B32 y).length ≤ 1000000
  g : Nat.gcd x y = Nat.gcd X Y
theorem GSt.new {w0 w w' : World} {p X Y x y : Nat} {A : Option Addr} {l c : Nat} {A' : Option Addr} {l' c' : Nat} (h : GSt w0 w p X Y x y A l c A' l' c') (hn : New w w') : GSt w0 w' p X Y x y A l c A' l' c' :=
  ⟨h.nw.trans hn, h.a.new hn, h.b.new hn, h.b0.new hn, h.b1.new hn, h.b2.new hn, h.la, h.lb, h.g⟩
/-- The exchange. -/
theorem GSt.turn {w0 w : World} {p X Y x y : Nat} {A : Option Addr} {l c : Nat} {A' : Option Addr} {l' c' : Nat} (h : GSt w0 w p X Y x y A l c A' l' c') {A2 : Option Addr} {l2 c2 : Nat} (hr : NatV w (.agg #[.slice A2 l2 c2]) (x % y)) (hy : 0 < y) (hp : w0.heap.size ≤ p) :
    GSt w0 ((w.setCell ⟨p, 0, none⟩ (.slice A' l' c')).setCell ⟨p + 1, 0, none⟩ (.slice A2 l2 c2)) p X Y y (x % y) A' l' c' A2 l2 c2 := by
  have h1' := h.b1.far (p := p) (i := 0) (by omega) (.slice A' l' c')
  obtain ⟨g0, g1⟩ := dv_two_boxes (u := .slice A' l' c') (v := .slice A2 l2 c2) h.b0 h.b1 (by omega)
  refine ⟨(h.nw.setCell (p := ⟨p, 0, none⟩) hp _).setCell (p := ⟨p + 1, 0, none⟩) (by simp; omega) _, (h.b.set h.b0 (by decide) _).set h1' (by decide) _, (hr.set h.b0 (by decide) _).set h1' (by decide) _, g0, g1, (h.b2.far (by omega) _).far (by omega) _, h.lb, ?_, ?_⟩
  · exact Nat.le_trans (dg_len_mono B32_2 (Nat.le_of_lt (Nat.mod_lt x hy))) h.lb
  · rw [← h.g, Nat.gcd_comm x y, Nat.gcd_rec y x, Nat.gcd_comm]
theorem cell_setCell {w : World} {p : Nat} {v u : Value} {T : TypeId} (h : Box w p #[v] T) : (w.setCell ⟨p, 0, none⟩ u).cell? ⟨p, 0, none⟩ = some u := (h.set 0 u).cell 0
set_option maxRecDepth 100000 in
set_option maxHeartbeats 8000000 in
theorem gcd_c {X Y : Nat} {u v : Value} {w : World} (hx : NatV w u X) (hy : NatV w v Y) (hl : (dg B32 X).length ≤ 1000000) (hl2 : (dg B32 Y).length ≤ 1000000) :
    Calls Tryz.prog 18 #[u, v] w fun e w' => ∃ v, e = .returned v ∧ NatV w' v (Nat.gcd X Y) ∧ New w w' := by
  obtain ⟨A, l, c, rfl⟩ := hx.form
  obtain ⟨A', l', c', rfl⟩ := hy.form
  have hn3 := ((New.refl w).alloc (.cells #[.slice A l c] 26)).alloc (.cells #[.slice A' l' c'] 26) |>.alloc (.cells #[.slice none 0 0] 26)
  have HG := Lib.hid (show GSt w (((w.alloc (.cells #[.slice A l c] 26)).alloc (.cells #[.slice A' l' c'] 26)).alloc (.cells #[.slice none 0 0] 26)) w.heap.size X Y X Y A l c A' l' c' from
    ⟨hn3, hx.new hn3, hy.new hn3, ((Box.last w #[.slice A l c] 26).alloc (.cells #[.slice A' l' c'] 26)).alloc (.cells #[.slice none 0 0] 26), (Box.last2 w (.cells #[.slice A l c] 26) #[.slice A' l' c'] 26).alloc (.cells #[.slice none 0 0] 26), Box.last3 w _ _ _ _, hl, hl2, rfl⟩)
  clear hn3 hx hy hl hl2
  go_enter Tryz.func18, Tryz.ntmps18
  go_wp2
  go_loopg [7] Y (fun k v7 w' => ∃ A l c A' l' c' x y, Hid (GSt w w' w.heap.size X Y x y A l c A' l' c') ∧ y ≤ k)
  case atStart => exact ⟨A, l, c, A', l', c', X, Y, HG.out, Nat.le_refl _⟩
  case round =>
    clear HG
    obtain ⟨A, l, c, A', l', c', x, y, HG, hyk⟩ := hrel
    have hla := HG.out.a.len
    have hlb := HG.out.b.len
    have hc0 := HG.out.b0.cell 0
    have hc1 := HG.out.b1.cell 0
    have hc2 := HG.out.b2.cell 0
    have hf2 := HG.out.b2.frozen 0
    have hla2 := HG.out.la
    have hlb2 := HG.out.lb
    simp only [List.getElem?_toArray, List.getElem?_cons_zero] at hc0 hc1 hc2
    rw [← hla] at hla2
    rw [← hlb] at hlb2
    have HLA := Lib.hid hla
    have HLB := Lib.hid hlb
    clear hla hlb
    by_cases h0 : y = 0
    · have hl0 : l' = 0 := by have := HLB.out; rw [h0, dg_zero] at this; exact this
      have HGC : Hid (Nat.gcd X Y = x) := Lib.hid (by have := HG.out.g; rw [h0, Nat.gcd_zero_right] at this; exact this.symm)
      have HV := Lib.hid (HG.out.a.set HG.out.b2 (by decide) (i := 0) (.slice A l c))
      have hcx := cell_setCell (u := .slice A l c) HG.out.b2
      have HN := Lib.hid (HG.out.nw.setCell (p := ⟨w.heap.size + 1 + 1, 0, none⟩) (by simp; omega) (.slice A l c))
      clear h0 hyk
      subst hl0
      go_wp2
      refine bodyPost_ret (v := .agg #[.slice A l c]) (by simp [results, Tryz.results18, go_sem, hcx]) rfl ⟨_, rfl, by rw [HGC.out]; exact HV.out, HN.out⟩
    · have hl0 : 0 < l' := by
        refine Nat.pos_of_ne_zero fun h => h0 ?_
        have := HLB.out
        rw [h] at this
        exact (dg_nil B32_2).1 (List.length_eq_zero_iff.1 this.symm)
      have hxB : x < 18446744073709551616 ∨ 2 < l := by
        by_cases h : 2 < l
        · exact .inr h
        · left
          have h1 := dg_lt_pow B32_2 x
          have h2 : B32 ^ (dg B32 x).length ≤ B32 ^ 2 := Nat.pow_le_pow_right (by rw [B32_eq]; omega) (by rw [← HLA.out]; omega)
          have h3 : B32 ^ 2 = 18446744073709551616 := by rw [B32_eq]
          omega
      have hyB : y < 18446744073709551616 ∨ 2 < l' := by
        by_cases h : 2 < l'
        · exact .inr h
        · left
          have h1 := dg_lt_pow B32_2 y
          have h2 : B32 ^ (dg B32 y).length ≤ B32 ^ 2 := Nat.pow_le_pow_right (by rw [B32_eq]; omega) (by rw [← HLB.out]; omega)
          have h3 : B32 ^ 2 = 18446744073709551616 := by rw [B32_eq]
          omega
      have HXB := Lib.hid hxB
      have HYB := Lib.hid hyB
      clear hxB hyB
      by_cases h2 : l ≤ 2 ∧ l' ≤ 2
      · obtain ⟨h2a, h2b⟩ := h2
        have HWA := Lib.hid (fun W (h : New wr W) => word_c (HG.out.a.new h) (by rw [← HLA.out]; exact h2a))
        have HWB := Lib.hid (fun W (h : New wr W) => word_c (HG.out.b.new h) (by rw [← HLB.out]; exact h2b))
        have hi1 : (l : Int) ≤ 2 := by omega
        have hi2 : (l' : Int) ≤ 2 := by omega
        go_wp2_with fail
        go_region_held3 (fun V => New wr V ∧ V.cell? ⟨w.heap.size, 0, none⟩ = some (.slice A l c) ∧ V.cell? ⟨w.heap.size + 1, 0, none⟩ = some (.slice A' l' c'))
          (first
            | exact ⟨(New.refl _).drew, by simpa using hc0, by simpa using hc1⟩
            | (go_split_ands; exact ⟨New.trans (by assumption) (by assumption), New.still (by assumption) (by assumption), New.still (by assumption) (by assumption)⟩)
            | (go_split_ands; exact ⟨by assumption, by assumption, by assumption⟩))
          ((rw [if_pos (by rfl)]; go_big_op; go_split_ands; first
            | (with_reducible (refine (HWB.out _ (by first | assumption | exact New.trans (by assumption) (by assumption))).mono ?_); rintro e w' ⟨rfl, hn⟩; dsimp only)
            | (with_reducible (refine (HWA.out _ (by first | assumption | exact New.trans (by assumption) (by assumption))).mono ?_); rintro e w' ⟨rfl, hn⟩; dsimp only)))
        go_split_ands
        rename_i hN hd0 hd1
        have HG2 := Lib.hid (HG.out.new hN)
        have hx64 : x < 18446744073709551616 := by have := HXB.out; omega
        have hy64 : y < 18446744073709551616 := by have := HYB.out; omega
        clear hN hd0 hd1 hn hc0 hc1 hc2 hf2 HWA HWB HG h2a h2b hi1 hi2 HXB HYB
        obtain ⟨W5, hW5⟩ : ∃ X : World, X = w' := ⟨_, rfl⟩
        rw [← hW5] at HG2 ⊢
        clear hW5
        go_wp2
        go_loopw [5, 6] (fun v5 v6 w' => ∃ p q : Nat, v5 = .int .u64 (p : Int) ∧ v6 = .int .u64 (q : Int) ∧ p < 18446744073709551616 ∧ q < 18446744073709551616 ∧ Hid (Nat.gcd p q = Nat.gcd X Y) ∧ Hid (New w w' ∧ Box w' (w.heap.size + 1 + 1) #[.slice none 0 0] 26)) (fun _ v6 _ => (intOf v6).toNat)
        case atStart => exact ⟨x, y, rfl, rfl, hx64, hy64, HG2.out.g, HG2.out.nw, HG2.out.b2⟩
        case round =>
          clear HG2 hx64 hy64
          obtain ⟨p, q, rfl, rfl, hp, hq, HPQ, HWR⟩ := hrel
          by_cases hq0 : 0 < q
          · have hv0 : ¬ (q : Int) = 0 := by omega
            have hqt : Int.tmod (p : Int) (q : Int) = ((p % q : Nat) : Int) := by rw [Int.tmod_eq_emod_of_nonneg (by omega)]; exact (Int.natCast_emod _ _).symm
            have hml := Nat.mod_lt p hq0
            have HPQ2 : Hid (Nat.gcd q (p % q) = Nat.gcd X Y) := Lib.hid (by rw [← HPQ.out, Nat.gcd_comm p q, Nat.gcd_rec q p, Nat.gcd_comm])
            have HML := Lib.hid hml
            generalize p % q = z at *
            have hw1 : IntKind.u64.wrap (z : Int) = (z : Int) := IntWalk.u64_in _ (by omega)
            have hz64 : z < 18446744073709551616 := by omega
            have hqi : (0 : Int) < (q : Int) := by omega
            clear hml
            go_wp2
            go_quiet (fail)
            have HWR2 : Hid (New w (wr.drewN nq) ∧ Box (wr.drewN nq) (w.heap.size + 1 + 1) #[.slice none 0 0] 26) := Lib.hid ⟨HWR.out.1.drewN nq, HWR.out.2.new ((New.refl _).drewN nq)⟩
            go_wp2
            go_roundw
            case rel => exact ⟨q, z, by go_num, by go_num, hq, hz64, HPQ2.out, HWR2.out⟩
            case measure => have := HML.out; simp [intOf]; omega
          · obtain rfl : q = 0 := by omega
            have HPX : Hid (Nat.gcd X Y = p) := Lib.hid (by have := HPQ.out; rw [Nat.gcd_zero_right] at this; exact this.symm)
            clear hq0 hq
            go_wp2_with fail
            refine (of_c hp _).mono ?_
            rintro e w6 ⟨v6, rfl, hv6, hn6⟩
            obtain ⟨A6, l6, c6, rfl⟩ := hv6.form
            have hb6 := HWR.out.2.new hn6
            obtain ⟨hc6, hf6⟩ := bx_cell0 hb6
            have hcx := cell_setCell (u := .slice A6 l6 c6) hb6
            have HV := Lib.hid (hv6.set hb6 (by decide) (i := 0) (.slice A6 l6 c6))
            have HN := Lib.hid ((HWR.out.1.trans hn6).setCell (p := ⟨w.heap.size + 1 + 1, 0, none⟩) (by simp; omega) (.slice A6 l6 c6))
            clear hv6 hn6 hb6
            go_wp2
            refine bodyPost_ret (v := .agg #[.slice A6 l6 c6]) (by simp [results, Tryz.results18, go_sem, hcx]) rfl ⟨_, rfl, by rw [HPX.out]; exact HV.out, HN.out⟩
      · have h2' : (¬ l ≤ 2) ∨ (l ≤ 2 ∧ ¬ l' ≤ 2) := by omega
        have HDM := Lib.hid (divmod_c HG.out.a HG.out.b HG.out.la HG.out.lb)
        have HRZ : Hid (remZ x y = x % y) := Lib.hid (by unfold remZ; rw [if_neg h0])
        have hml := Nat.mod_lt x (show 0 < y by omega)
        have hy0 : 0 < y := by omega
        clear h2 HXB HYB hc2 hf2
        rcases h2' with h2a | ⟨h2a, h2b⟩
        all_goals
          have hi1 : (2 : Int) < (l : Int) ∨ ((l : Int) ≤ 2 ∧ (2 : Int) < (l' : Int)) := by omega
          clear hi1
          go_wp2_with fail
          refine HDM.out.mono ?_
          rintro e w5 ⟨q, r, rfl, hq, hr, hn5⟩
          rw [HRZ.out] at hr
          obtain ⟨A5, l5, c5, rfl⟩ := hq.form
          obtain ⟨A6, l6, c6, rfl⟩ := hr.form
          have hn6 := (hn5.alloc (.cells #[.slice A5 l5 c5] 26)).alloc (.cells #[.slice A6 l6 c6] 26)
          have hr6 := hr.new (((New.refl w5).alloc (.cells #[.slice A5 l5 c5] 26)).alloc (.cells #[.slice A6 l6 c6] 26))
          have hb8 := Box.last2 w5 (.cells #[.slice A5 l5 c5] 26) #[.slice A6 l6 c6] 26
          have HG6 := Lib.hid (HG.out.new hn6)
          have HT := Lib.hid (HG6.out.turn hr6 hy0 (Nat.le_refl _))
          obtain ⟨hd8, _⟩ := bx_cell0 hb8
          have hwl := (HG.out.nw.trans hn5).le
          obtain ⟨hd8', _⟩ := bx_cell0 (hb8.far (p := w.heap.size) (i := 0) (by omega) (.slice A' l' c'))
          clear hwl
          obtain ⟨hd0, hf0⟩ := bx_cell0 HG6.out.b0
          obtain ⟨hd1, hf1⟩ := bx_cell0 HG6.out.b1
          have h1' := HG6.out.b1.far (p := w.heap.size) (i := 0) (by omega) (.slice A' l' c')
          obtain ⟨hd1', hf1'⟩ := bx_cell0 h1'
          have HML := Lib.hid hml
          clear hq hr hn5 hn6 hr6 hb8 h1' hml HG HDM hc0 hc1
          go_wp2
          generalize (w5.alloc (.cells #[.slice A5 l5 c5] 26)).alloc (.cells #[.slice A6 l6 c6] 26) = W6 at *
          go_region
          all_goals
            go_wp2
            go_roundg (x % y)
            case measure => have := HML.out; omega
            case rel => exact ⟨A', l', c', A6, l6, c6, y, x % y, by first | exact HT.out.new (New.refl _).drew | exact HT.out, Nat.le_refl _⟩
end Go.Proofs.YtkjlmibleoecgaaGreatDoor
/- Contracts with sizes of the long division, of the greatest divisor; texts of 0 and 1. -/
namespace Go.Proofs.YtkjlmibleoecgaaGreatDoor
set_option linter.unusedSimpArgs false
set_option linter.unusedVariables false
open Go.RowKit
section
variable {w : World} {u v : Value} {x y k j : Nat}
theorem remZ_le (x y : Nat) : remZ x y ≤ x := by unfold remZ; split; omega; exact Nat.mod_le _ _
theorem divmod_b (hu : NatB w u x k) (hv : NatB w v y j) (hk : k ≤ 100000) (hj : j ≤ 100000) :
    Calls Tryz.prog 14 #[u, v] w fun e w' => ∃ q r, e = .returned (.tuple #[q, r, .int .i64 (divE y)]) ∧ NatB w' q (x / y) k ∧ NatB w' r (remZ x y) k ∧ New w w' :=
  (divmod_c hu.v hv.v (by have := hu.k; omega) (by have := hv.k; omega)).mono fun e w' ⟨q, r, h1, h2, h3, h4⟩ => ⟨q, r, h1, ⟨h2, Nat.le_trans (dg_len_mono B32_2 (Nat.div_le_self x y)) hu.k⟩, ⟨h3, Nat.le_trans (dg_len_mono B32_2 (remZ_le x y)) hu.k⟩, h4⟩
theorem divmod_b0 (hu : NatB w u x k) (hv : NatB w v 0 j) (hk : k ≤ 100000) (hj : j ≤ 100000) :
    Calls Tryz.prog 14 #[u, v] w fun e w' => ∃ q r, e = .returned (.tuple #[q, r, .int .i64 12]) ∧ NatB w' q 0 k ∧ NatB w' r 0 k ∧ New w w' := by
  have := divmod_b hu hv hk hj
  rw [Nat.div_zero] at this
  exact this
theorem divmod_b1 (hu : NatB w u x k) (hv : NatB w v y j) (hk : k ≤ 100000) (hj : j ≤ 100000) (h0 : 0 < y) :
    Calls Tryz.prog 14 #[u, v] w fun e w' => ∃ q r, e = .returned (.tuple #[q, r, .int .i64 0]) ∧ NatB w' q (x / y) k ∧ NatB w' r (x % y) k ∧ New w w' := by
  have h := divmod_b hu hv hk hj
  have e1 : divE y = 0 := by unfold divE; rw [if_neg (by omega)]
  have e2 : remZ x y = x % y := by unfold remZ; rw [if_neg (by omega)]
  rw [e1, e2] at h
  exact h
theorem gcd_le_max (x y : Nat) : Nat.gcd x y ≤ max x y := by
  rcases Nat.eq_zero_or_pos x with rfl | h
  · rw [Nat.gcd_zero_left]; omega
  · have := Nat.gcd_le_left y h; omega
theorem gcd_b (hu : NatB w u x k) (hv : NatB w v y j) (hk : k ≤ 100000) (hj : j ≤ 100000) :
    Calls Tryz.prog 18 #[u, v] w fun e w' => ∃ v, e = .returned v ∧ NatB w' v (Nat.gcd x y) (k + j) ∧ New w w' :=
  (gcd_c hu.v hv.v (by have := hu.k; omega) (by have := hv.k; omega)).mono fun e w' ⟨v, h1, h2, h3⟩ => ⟨v, h1, ⟨h2, by
    have h4 := dg_len_mono B32_2 (gcd_le_max x y)
    have h5 := hu.k
    have h6 := hv.k
    rcases Nat.le_total x y with h | h
    · rw [Nat.max_eq_right h] at h4; omega
    · rw [Nat.max_eq_left h] at h4; omega⟩, h3⟩
theorem cmp_below (hu : NatB w u x k) (hv : NatB w v y j) (hk : k ≤ 100000) (hj : j ≤ 100000) (h : x < y) :
    Calls Tryz.prog 20 #[u, v] w fun e w' => e = .returned (.int .i64 (-1)) ∧ New w w' := by
  have := cmp_b hu hv hk hj
  unfold cmpN at this
  rw [if_pos h] at this
  exact this
end
theorem decS_zero : decS 0 = ⟨#[48]⟩ := by unfold decS; rw [dec_small (by omega)]; rfl
theorem decS_one : decS 1 = ⟨#[49]⟩ := by unfold decS; rw [dec_small (by omega)]; rfl
theorem zero_of_text {s : ByteArray} (h : s.toList = [48]) : s = decS 0 := by
  rw [decS_zero]
  have h2 : s.data.toList = [48] := by rw [← Lib.toList_data]; exact h
  obtain ⟨⟨l⟩⟩ := s
  simp only at h2
  rw [h2]
theorem text_zero {s : ByteArray} {y : Nat} (h : decS y = s) (h0 : y = 0) : s.toList = [48] := by
  rw [← h, h0, decS_zero, Lib.toList_data]
theorem text_pos {s : ByteArray} {y : Nat} (h : decS y = s) (h0 : y ≠ 0) : (s.toList == [48]) = false := by
  rw [beq_eq_false_iff_ne]
  intro h2
  exact h0 (decS_inj (by rw [h, zero_of_text h2]))
end Go.Proofs.YtkjlmibleoecgaaGreatDoor
