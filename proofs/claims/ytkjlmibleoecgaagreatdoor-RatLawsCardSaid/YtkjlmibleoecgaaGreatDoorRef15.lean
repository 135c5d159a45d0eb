/- The reference of nat, part 15: Gcd. -/
import Derived.Test.YtkjlmibleoecgaaGreatDoorqRef14
namespace Go.Proofs.YtkjlmibleoecgaaGreatDoor
set_option linter.unusedSimpArgs false
set_option linter.unusedVariables false
open Go.RowKit
theorem RefV.len9 {w : World} {A : Option Addr} {l c n : Nat} (h : RefV w (.agg #[.slice A l c]) n) : l = (dg B9 n).length := by
  obtain ⟨_, e, A', c', rfl, _⟩ := h
  simp only [Value.agg.injEq, Array.mk.injEq, List.cons.injEq, and_true] at e
  injection e
/-- What holds between Gcd's rounds. -/
structure RGSt (w0 w : World) (p X Y x y : Nat) (A : Option Addr) (l c : Nat) (A' : Option Addr) (l' c' : Nat) : Prop where
  nw : New w0 w
  a : RefV w (.agg #[.slice A l c]) x
  b : RefV w (.agg #[.slice A' l' c']) y
  b0 : Box w p #[.slice A l c] RNat
  b1 : Box w (p + 1) #[.slice A' l' c'] RNat
  b2 : Box w (p + 1 + 1) #[.slice none 0 0] RNat
  la : (dg B9 x).length ≤ 400000
  lb : (dg B9 y).length ≤ 400000
  g : Nat.gcd x y = Nat.gcd X Y
theorem RGSt.new {w0 w w' : World} {p X Y x y : Nat} {A : Option Addr} {l c : Nat} {A' : Option Addr} {l' c' : Nat} (h : RGSt w0 w p X Y x y A l c A' l' c') (hn : New w w') : RGSt w0 w' p X Y x y A l c A' l' c' :=
  ⟨h.nw.trans hn, h.a.new hn, h.b.new hn, h.b0.new hn, h.b1.new hn, h.b2.new hn, h.la, h.lb, h.g⟩
/-- The exchange. -/
theorem RGSt.turn {w0 w : World} {p X Y x y : Nat} {A : Option Addr} {l c : Nat} {A' : Option Addr} {l' c' : Nat} (h : RGSt w0 w p X Y x y A l c A' l' c') {A2 : Option Addr} {l2 c2 : Nat} (hr : RefV w (.agg #[.slice A2 l2 c2]) (x % y)) (hy : 0 < y) (hp : w0.heap.size ≤ p) :
    RGSt w0 ((w.setCell ⟨p, 0, none⟩ (.slice A' l' c')).setCell ⟨p + 1, 0, none⟩ (.slice A2 l2 c2)) p X Y y (x % y) A' l' c' A2 l2 c2 := by
  have h1' := h.b1.far (p := p) (i := 0) (by omega) (.slice A' l' c')
  obtain ⟨g0, g1⟩ := r_two_boxes (u := .slice A' l' c') (v := .slice A2 l2 c2) h.b0 h.b1 (by omega)
  refine ⟨(h.nw.setCell (p := ⟨p, 0, none⟩) hp _).setCell (p := ⟨p + 1, 0, none⟩) (by simp; omega) _, (h.b.set h.b0 (by decide) _).set h1' (by decide) _, (hr.set h.b0 (by decide) _).set h1' (by decide) _, g0, g1, (h.b2.far (by omega) _).far (by omega) _, h.lb, ?_, ?_⟩
  · exact Nat.le_trans (dg_len_mono B9_2 (Nat.le_of_lt (Nat.mod_lt x hy))) h.lb
  · rw [← h.g, Nat.gcd_comm x y, Nat.gcd_rec y x, Nat.gcd_comm]
theorem rcell_setCell {w : World} {p : Nat} {v u : Value} {T : TypeId} (h : Box w p #[v] T) : (w.setCell ⟨p, 0, none⟩ u).cell? ⟨p, 0, none⟩ = some u := (h.set 0 u).cell 0
set_option maxRecDepth 100000 in
set_option maxHeartbeats 8000000 in
theorem rgcd_c {X Y : Nat} {u v : Value} {w : World} (hx : RefV w u X) (hy : RefV w v Y) (hl : (dg B9 X).length ≤ 400000) (hl2 : (dg B9 Y).length ≤ 400000) :
    Calls Tryz.prog 19 #[u, v] w fun e w' => ∃ v, e = .returned v ∧ RefV w' v (Nat.gcd X Y) ∧ New w w' := by
  obtain ⟨A, l, c, rfl⟩ := hx.form
  obtain ⟨A', l', c', rfl⟩ := hy.form
  have hn3 := ((New.refl w).alloc (.cells #[.slice A l c] RNat)).alloc (.cells #[.slice A' l' c'] RNat) |>.alloc (.cells #[.slice none 0 0] RNat)
  have HG := Lib.hid (show RGSt w (((w.alloc (.cells #[.slice A l c] RNat)).alloc (.cells #[.slice A' l' c'] RNat)).alloc (.cells #[.slice none 0 0] RNat)) w.heap.size X Y X Y A l c A' l' c' from
    ⟨hn3, hx.new hn3, hy.new hn3, ((Box.last w #[.slice A l c] RNat).alloc (.cells #[.slice A' l' c'] RNat)).alloc (.cells #[.slice none 0 0] RNat), (Box.last2 w (.cells #[.slice A l c] RNat) #[.slice A' l' c'] RNat).alloc (.cells #[.slice none 0 0] RNat), Box.last3 w _ _ _ _, hl, hl2, rfl⟩)
  clear hn3 hx hy hl hl2
  go_enter Tryz.func19, Tryz.ntmps19
  go_wp2
  go_loopg [7] Y (fun k v7 w' => ∃ A l c A' l' c' x y, Hid (RGSt w w' w.heap.size X Y x y A l c A' l' c') ∧ y ≤ k)
  case atStart => exact ⟨A, l, c, A', l', c', X, Y, HG.out, Nat.le_refl _⟩
  case round =>
    clear HG
    obtain ⟨A, l, c, A', l', c', x, y, HG, hyk⟩ := hrel
    have hla := RefV.len9 HG.out.a
    have hlb := RefV.len9 HG.out.b
    have hc0 := HG.out.b0.cell 0
    have hc1 := HG.out.b1.cell 0
    have hc2 := HG.out.b2.cell 0
    have hf2 := HG.out.b2.frozen 0
    have hla2 := HG.out.la
    have hlb2 := HG.out.lb
    simp only [List.getElem?_toArray, List.getElem?_cons_zero] at hc0 hc1 hc2
    rw [← hla] at hla2
    rw [← hlb] at hlb2
    have HLA := Lib.hid hla
    have HLB := Lib.hid hlb
    clear hla hlb
    by_cases h0 : y = 0
    · have hl0 : l' = 0 := by have := HLB.out; rw [h0, dg_zero] at this; exact this
      have HGC : Hid (Nat.gcd X Y = x) := Lib.hid (by have := HG.out.g; rw [h0, Nat.gcd_zero_right] at this; exact this.symm)
      have HV := Lib.hid (HG.out.a.set HG.out.b2 (by decide) (i := 0) (.slice A l c))
      have hcx := rcell_setCell (u := .slice A l c) HG.out.b2
      have HN := Lib.hid (HG.out.nw.setCell (p := ⟨w.heap.size + 1 + 1, 0, none⟩) (by simp; omega) (.slice A l c))
      clear h0 hyk
      subst hl0
      go_wp2
      refine bodyPost_ret (v := .agg #[.slice A l c]) (by simp [results, Tryz.results19, go_sem, hcx]) rfl ⟨_, rfl, by rw [HGC.out]; exact HV.out, HN.out⟩
    · have hl0 : 0 < l' := by
        refine Nat.pos_of_ne_zero fun h => h0 ?_
        have := HLB.out
        rw [h] at this
        exact (dg_nil B9_2).1 (List.length_eq_zero_iff.1 this.symm)
      have hxB : x < 18446744073709551616 ∨ 2 < l := by
        by_cases h : 2 < l
        · exact .inr h
        · left
          have h1 := dg_lt_pow B9_2 x
          have h2 : B9 ^ (dg B9 x).length ≤ B9 ^ 2 := Nat.pow_le_pow_right (by rw [B9_eq]; omega) (by rw [← HLA.out]; omega)
          have h3 : B9 ^ 2 = 1000000000000000000 := by rw [B9_eq]
          omega
      have hyB : y < 18446744073709551616 ∨ 2 < l' := by
        by_cases h : 2 < l'
        · exact .inr h
        · left
          have h1 := dg_lt_pow B9_2 y
          have h2 : B9 ^ (dg B9 y).length ≤ B9 ^ 2 := Nat.pow_le_pow_right (by rw [B9_eq]; omega) (by rw [← HLB.out]; omega)
          have h3 : B9 ^ 2 = 1000000000000000000 := by rw [B9_eq]
          omega
      have HXB := Lib.hid hxB
      have HYB := Lib.hid hyB
      clear hxB hyB
      by_cases h2 : l ≤ 2 ∧ l' ≤ 2
      · obtain ⟨h2a, h2b⟩ := h2
        have HWA := Lib.hid (fun W (h : New wr W) => rword_c (HG.out.a.new h) (by rw [← HLA.out]; exact h2a))
        have HWB := Lib.hid (fun W (h : New wr W) => rword_c (HG.out.b.new h) (by rw [← HLB.out]; exact h2b))
        have hi1 : (l : Int) ≤ 2 := by omega
        have hi2 : (l' : Int) ≤ 2 := by omega
        have hx64 : x < 18446744073709551616 := by have := HXB.out; omega
        have hy64 : y < 18446744073709551616 := by have := HYB.out; omega
        have hg64 : Nat.gcd x y < 18446744073709551616 := by
          rcases Nat.eq_zero_or_pos x with h | h
          · rw [h, Nat.gcd_zero_left]; exact hy64
          · exact Nat.lt_of_le_of_lt (Nat.gcd_le_left y h) hx64
        have HGW := Lib.hid (fun W => rgcd_w hx64 hy64 W)
        have HOF := Lib.hid (fun W => rof_c hg64 W)
        have HGC : Hid (Nat.gcd x y = Nat.gcd X Y) := Lib.hid HG.out.g
        have HB2 := Lib.hid HG.out.b2
        have HNR := Lib.hid HG.out.nw
        clear HXB HYB hx64 hy64 hg64
        go_wp2_with fail
        go_region_law ((rw [if_pos (by rfl)]; (first | go_big_op | go_simp); first
          | (with_reducible (refine (HWA.out _ (New.refl wr).drew).mono ?_); rintro e w4 ⟨rfl, hn4⟩; have hd4 := (New.refl wr).drew.trans hn4; have cc1 := hd4.still hc1)
          | (with_reducible (refine (HWB.out _ hd4).mono ?_); rintro e w5 ⟨rfl, hn5⟩; have hd5 := hd4.trans hn5)
          | (with_reducible (refine (HGW.out _).mono ?_); rintro e w6 ⟨rfl, hn6⟩; have hd6 := hd5.trans hn6)
          | (with_reducible (refine (HOF.out _).mono ?_); rintro e w7 ⟨v7, rfl, hv7, hn7⟩; obtain ⟨A7, l7, c7, rfl⟩ := hv7.form; have hd7 := hd6.trans hn7; have hb7 := HB2.out.new hd7; obtain ⟨k7, f7⟩ := rbox_cell0 hb7)))
        all_goals
          have hcx := rcell_setCell (u := .slice A7 l7 c7) hb7
          have HV := Lib.hid (hv7.set hb7 (by decide) (i := 0) (.slice A7 l7 c7))
          have HN := Lib.hid ((HNR.out.trans hd7).setCell (p := ⟨w.heap.size + 1 + 1, 0, none⟩) (by simp; omega) (.slice A7 l7 c7))
          clear hv7 hn7 hb7 hd7 hd6 hd5 hd4
          go_wp2
          refine bodyPost_ret (v := .agg #[.slice A7 l7 c7]) (by simp [results, Tryz.results19, go_sem, hcx]) rfl ⟨_, rfl, by rw [← HGC.out]; exact HV.out, HN.out⟩
      · have h2' : (¬ l ≤ 2) ∨ (l ≤ 2 ∧ ¬ l' ≤ 2) := by omega
        have HDM := Lib.hid (rdivmod_c HG.out.a HG.out.b HG.out.la HG.out.lb)
        have HRZ : Hid (remZ9 x y = x % y) := Lib.hid (by unfold remZ9; rw [if_neg h0])
        have hml := Nat.mod_lt x (show 0 < y by omega)
        have hy0 : 0 < y := by omega
        clear h2 HXB HYB hc2 hf2
        rcases h2' with h2a | ⟨h2a, h2b⟩
        all_goals
          have hi1 : (2 : Int) < (l : Int) ∨ ((l : Int) ≤ 2 ∧ (2 : Int) < (l' : Int)) := by omega
          clear hi1
          go_wp2_with fail
          refine HDM.out.mono ?_
          rintro e w5 ⟨q, r, rfl, hq, hr, hn5⟩
          rw [HRZ.out] at hr
          obtain ⟨A5, l5, c5, rfl⟩ := hq.form
          obtain ⟨A6, l6, c6, rfl⟩ := hr.form
          have hn6 := (hn5.alloc (.cells #[.slice A5 l5 c5] RNat)).alloc (.cells #[.slice A6 l6 c6] RNat)
          have hr6 := hr.new (((New.refl w5).alloc (.cells #[.slice A5 l5 c5] RNat)).alloc (.cells #[.slice A6 l6 c6] RNat))
          have hb8 := Box.last2 w5 (.cells #[.slice A5 l5 c5] RNat) #[.slice A6 l6 c6] RNat
          have HG6 := Lib.hid (HG.out.new hn6)
          have HT := Lib.hid (HG6.out.turn hr6 hy0 (Nat.le_refl _))
          obtain ⟨hd8, _⟩ := rbox_cell0 hb8
          have hwl := (HG.out.nw.trans hn5).le
          obtain ⟨hd8', _⟩ := rbox_cell0 (hb8.far (p := w.heap.size) (i := 0) (by omega) (.slice A' l' c'))
          clear hwl
          obtain ⟨hd0, hf0⟩ := rbox_cell0 HG6.out.b0
          obtain ⟨hd1, hf1⟩ := rbox_cell0 HG6.out.b1
          have h1' := HG6.out.b1.far (p := w.heap.size) (i := 0) (by omega) (.slice A' l' c')
          obtain ⟨hd1', hf1'⟩ := rbox_cell0 h1'
          have HML := Lib.hid hml
          clear hq hr hn5 hn6 hr6 hb8 h1' hml HG HDM hc0 hc1
          go_wp2
          go_roundg (x % y)
          case measure => have := HML.out; omega
          case rel => exact ⟨A', l', c', A6, l6, c6, y, x % y, HT.out, Nat.le_refl _⟩
end Go.Proofs.YtkjlmibleoecgaaGreatDoor
