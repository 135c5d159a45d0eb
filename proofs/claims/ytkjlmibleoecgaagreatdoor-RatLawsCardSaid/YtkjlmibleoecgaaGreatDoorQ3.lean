/- The program's rat: Make, walked. (Printed by mkq3.py.) -/
import Derived.Test.YtkjlmibleoecgaaGreatDoorQ2
import Derived.Deep.RegionLaw
namespace Go.Proofs.YtkjlmibleoecgaaGreatDoor
set_option linter.unusedSimpArgs false
set_option linter.unusedVariables false
open Go.RowKit
/-- Behind the greatest divisor. -/
structure MG (w0 w : World) (p P : Nat) (A : Option Addr) (l c : Nat) (b : Bool) (A' : Option Addr) (l' c' : Nat) (b' : Bool) (x y : Int) (k : Nat) (Ag : Option Addr) (lg cg : Nat) (bg : Bool) (g : Int) (j : Nat) : Prop where
  m : MBx w0 w p A l c b A' l' c' b' x y k
  bx : Box w P #[.slice Ag lg cg, .bool bg] NNum
  gv : NumB w (.agg #[.slice Ag lg cg, .bool bg]) g j
  sp : p + 3 ≤ P
section
variable {w0 w : World} {p P : Nat} {A : Option Addr} {l c : Nat} {b : Bool} {A' : Option Addr} {l' c' : Nat} {b' : Bool} {x y : Int} {k : Nat} {Ag : Option Addr} {lg cg : Nat} {bg : Bool} {g : Int} {j : Nat}
theorem MG.new {w' : World} (h : MG w0 w p P A l c b A' l' c' b' x y k Ag lg cg bg g j) (hn : New w w') : MG w0 w' p P A l c b A' l' c' b' x y k Ag lg cg bg g j := ⟨h.m.new hn, h.bx.new hn, h.gv.new hn, h.sp⟩
theorem MBx.name {Q : Prop} (h : MBx w0 w p A l c b A' l' c' b' x y k) (f : ∀ V, V = w → MBx w0 V p A l c b A' l' c' b' x y k → Q) : Q := f w rfl h
theorem MBx.share {G : World → Option Addr → Nat → Nat → Bool → Option Addr → Nat → Nat → Bool → Prop} {Goal : Prop}
    (main : (∀ V A l c b A' l' c' b', MBx w0 V p A l c b A' l' c' b' x y k → G V A l c b A' l' c' b') → Goal)
    (aux : ∀ V A l c b A' l' c' b', MBx w0 V p A l c b A' l' c' b' x y k → G V A l c b A' l' c' b') : Goal := main aux
theorem MBx.lt (h : MBx w0 w p A l c b A' l' c' b' x y k) : p + 3 ≤ w.heap.size := by have := h.br.lt; omega
theorem MBx.gl (h : MBx w0 w p A l c b A' l' c' b' x y k) (hg : NumB w (.agg #[.slice Ag lg cg, .bool bg]) g j) : MG w0 (w.alloc (.cells #[.slice Ag lg cg, .bool bg] NNum)) p w.heap.size A l c b A' l' c' b' x y k Ag lg cg bg g j :=
  ⟨h.new ((New.refl w).alloc _), Box.last _ _ _, hg.new ((New.refl w).alloc _), h.lt⟩
theorem MBx.gs {a0 a1 : Value} (h : MBx w0 w p A l c b A' l' c' b' x y k) (hg : NumB w (.agg #[.slice Ag lg cg, .bool bg]) g j) (hb : Box w P #[a0, a1] NNum) (hP : p + 3 ≤ P) : MG w0 ((w.setCell ⟨P, 0, none⟩ (.slice Ag lg cg)).setCell ⟨P, 1, none⟩ (.bool bg)) p P A l c b A' l' c' b' x y k Ag lg cg bg g j :=
  ⟨⟨New.set2 h.nw (by have := h.p0; omega) _ _, (h.ba.far (by omega) _).far (by omega) _, (h.bb.far (by omega) _).far (by omega) _, (h.br.far (by omega) _).far (by omega) _, h.xv.lay2 hb _ _, h.yv.lay2 hb _ _, h.p0⟩, hb.lay2 _ _, hg.lay2 hb _ _, hP⟩
theorem MG.name {Q : Prop} (h : MG w0 w p P A l c b A' l' c' b' x y k Ag lg cg bg g j) (f : ∀ V, V = w → MG w0 V p P A l c b A' l' c' b' x y k Ag lg cg bg g j → Q) : Q := f w rfl h
theorem MG.name2 {Q : Prop} (h : MG w0 w p P A l c b A' l' c' b' x y k Ag lg cg bg g j) (f : ∀ V, V = w → ∀ P', P' = P → MG w0 V p P' A l c b A' l' c' b' x y k Ag lg cg bg g j → Q) : Q := f w rfl P rfl h
/-- What follows is shown once, whichever way the region went. -/
theorem MG.share {G : World → Nat → Option Addr → Nat → Nat → Value → Value → Value → Prop} {Goal : Prop}
    (main : (∀ V P Ag lg cg v3 v4 v5, MG w0 V p P A l c b A' l' c' b' x y k Ag lg cg false g j → G V P Ag lg cg v3 v4 v5) → Goal)
    (aux : ∀ V P Ag lg cg v3 v4 v5, MG w0 V p P A l c b A' l' c' b' x y k Ag lg cg false g j → G V P Ag lg cg v3 v4 v5) : Goal := main aux
theorem MG.ne (h : MG w0 w p P A l c b A' l' c' b' x y k Ag lg cg bg g j) : ¬ P = p ∧ ¬ P = p + 1 ∧ ¬ P = p + 1 + 1 := by have := h.sp; omega
end
section
variable {w : World} {u v : Value} {x y : Int} {k j : Nat}
set_option maxRecDepth 1000000 in
set_option maxHeartbeats 20000000 in
theorem rmk_p1 (hz : NumB w u x k) (hy : NumB w v y k) (hk : k ≤ 15000) (h0 : 0 < y) (hg : gcdZ x y = 1) :
    Calls Tryz.prog 52 #[u, v] w fun e w' => ∃ r, e = .returned (.tuple #[r, .int .i64 0]) ∧ RatB w' r (mkN x y) (mkD x y) k ∧ New w w' := by
  have e1 : mkN x y = (x).tdiv (gcdZ x y) := by unfold mkN upZ; rw [if_neg (by omega), if_neg (by omega)]
  have e2 : mkD x y = (y).tdiv (gcdZ x y) := by unfold mkD upZ; rw [if_neg (by omega), if_neg (by omega)]
  obtain ⟨A, l, c, rfl, hv⟩ := hz.form
  obtain ⟨A', l', c', rfl, hv'⟩ := hy.form
  have hN := allocs_new [(#[.slice A l c, .bool (decide (x < 0))], NNum), (#[.slice A' l' c', .bool (decide (y < 0))], NNum), (#[.slice none 0 0, .bool false, .slice none 0 0, .bool false], NRat)] w
  have hB := allocs_bxs [(#[.slice A l c, .bool (decide (x < 0))], NNum), (#[.slice A' l' c', .bool (decide (y < 0))], NNum), (#[.slice none 0 0, .bool false, .slice none 0 0, .bool false], NRat)] w
  simp only [allocs] at hN hB
  have M0 := Lib.hid (show MBx w (((w.alloc (.cells #[.slice A l c, .bool (decide (x < 0))] NNum)).alloc (.cells #[.slice A' l' c', .bool (decide (y < 0))] NNum)).alloc (.cells #[.slice none 0 0, .bool false, .slice none 0 0, .bool false] NRat)) w.heap.size A l c (decide (x < 0)) A' l' c' (decide (y < 0)) x y k from
    ⟨hN, hB.three.1, hB.three.2.1, hB.three.2.2, hz.new hN, hy.new hN, Nat.le_refl _⟩)
  have HSG := Lib.hid (fun W v (h : NumB W v y k) => sign_n h (by omega))
  rw [show sgZ y = 1 by unfold sgZ; rw [if_neg (by omega), if_neg (by omega)]] at HSG
  have HNA := Lib.hid (fun W v (h : NumB W v x k) => neg_n h (by omega))
  have HNB := Lib.hid (fun W v (h : NumB W v y k) => neg_n h (by omega))
  have haa := fun W v (h : NumB W v (x) k) => abs_n h
  have hab := fun W v (h : NumB W v (y) k) => abs_n h
  have HAA := Lib.hid haa
  have HAB := Lib.hid hab
  have HGC := Lib.hid (fun W u v (h : NatB W u x.natAbs k) (h2 : NatB W v y.natAbs k) => gcd_b h h2 (by omega) (by omega))
  have hmk := fun W v (h : NatB W v (Nat.gcd x.natAbs y.natAbs) (k + k)) => make_n false h (by omega)
  rw [show sgn false (Nat.gcd x.natAbs y.natAbs) = ((gcdZ x y : Nat) : Int) by unfold sgn gcdZ; simp] at hmk
  have HMK := Lib.hid hmk
  have HON := Lib.hid one_n
  have hcm := fun W u v (h : NumB W u ((gcdZ x y : Nat) : Int) (k + k)) (h2 : NumB W v 1 2) => cmp_n h h2 (by omega) (by omega)
  rw [show cmpZ ((gcdZ x y : Nat) : Int) 1 = 0 by unfold cmpZ; rw [if_neg (by omega), if_neg (by omega)]] at hcm
  have HCM := Lib.hid hcm
  have HD1 : Hid (decide ((1 : Int) < 0) = false) := Lib.hid rfl
  have HDG : Hid (decide (((gcdZ x y : Nat) : Int) < 0) = false) := Lib.hid (decide_eq_false (by omega))
  rw [hg, show ((1 : Nat) : Int) = 1 from rfl, Int.tdiv_one] at e1 e2
  rw [e1, e2]
  clear hg e1 e2 haa hab hmk hcm hv hv' hz hy hN hB
  generalize decide (x < 0) = b at *
  generalize decide (y < 0) = b' at *
  generalize ((gcdZ x y : Nat) : Int) = g at *
  go_enter Tryz.func52, Tryz.ntmps52
  go_wp2_with fail
  refine (HSG.out _ _ M0.out.yv).mono ?_
  rintro e w1 ⟨rfl, hn1⟩
  have M1 := Lib.hid (M0.out.new hn1)
  clear hn1 M0 HSG
  obtain ⟨m0, m1, m2, m3⟩ := M1.out.cells
  obtain ⟨n0, n1, n2, n3⟩ := M1.out.froz
  go_wp2

  have a00 := fun o => ((New.refl w1).alloc o).still m0
  have a01 := fun o => ((New.refl w1).alloc o).still m1
  have a02 := fun o => ((New.refl w1).alloc o).still m2
  have a03 := fun o => ((New.refl w1).alloc o).still m3
  apply MG.share (w0 := w) (p := w.heap.size) (A := A) (l := l) (c := c) (b := b) (A' := A') (l' := l') (c' := c') (b' := b') (x := x) (y := y) (k := k) (g := g) (j := k + k)
  · intro aux
    go_region_law ((rw [if_pos (by rfl)]; (first | go_big_op | go_simp); first
      | (with_reducible (refine (HMK.out _ _ (by first | exact hu5 | exact hu5.new ((New.refl _).alloc _))).mono ?_); rintro e w6 ⟨v6, rfl, hu6, hn6⟩; obtain ⟨Ag, lg, cg, rfl, -⟩ := hu6.form; have hs6 : New w5 w6 := (by first | exact hn6 | exact ((New.refl _).alloc _).trans hn6); have m6 := m5.new hs6; (first | (have hp6 := Box.new hn6 hp5; have k60 := hp6.two.1; have k61 := hp6.two.2.1; have k62 := hp6.two.2.2.1; have k63 := hp6.two.2.2.2) | (have hp6 := Box.new hn6 (Box.last _ #[.slice none 0 0, .bool false] NNum); have k60 := hp6.two.1; have k61 := hp6.two.2.1; have k62 := hp6.two.2.2.1; have k63 := hp6.two.2.2.2) | skip))
      | (with_reducible (refine (HGC.out _ _ _ (by first | exact hu3.new hs4 | exact hu3.new (hs4.alloc _)) (by first | exact hu4 | exact hu4.new ((New.refl _).alloc _))).mono ?_); rintro e w5 ⟨v5, rfl, hu5, hn5⟩; have hs5 : New w4 w5 := (by first | exact hn5 | exact ((New.refl _).alloc _).trans hn5); have m5 := m4.new hs5; (first | (have hp5 := Box.new hn5 hp4; have k50 := hp5.two.1; have k51 := hp5.two.2.1; have k52 := hp5.two.2.2.1; have k53 := hp5.two.2.2.2) | (have hp5 := Box.new hn5 (Box.last _ #[.slice none 0 0, .bool false] NNum); have k50 := hp5.two.1; have k51 := hp5.two.2.1; have k52 := hp5.two.2.2.1; have k53 := hp5.two.2.2.2) | skip))
      | (with_reducible (refine (HAB.out _ _ (by first | exact m3x.yv | exact m3x.yv.new ((New.refl _).alloc _))).mono ?_); rintro e w4 ⟨v4, rfl, hu4, hn4⟩; have hs4 : New w3 w4 := (by first | exact hn4 | exact ((New.refl _).alloc _).trans hn4); have m4 := m3x.new hs4; (first | (have hp4 := Box.new hn4 hp3; have k40 := hp4.two.1; have k41 := hp4.two.2.1; have k42 := hp4.two.2.2.1; have k43 := hp4.two.2.2.2) | (have hp4 := Box.new hn4 (Box.last _ #[.slice none 0 0, .bool false] NNum); have k40 := hp4.two.1; have k41 := hp4.two.2.1; have k42 := hp4.two.2.2.1; have k43 := hp4.two.2.2.2) | skip))
      | (with_reducible (refine (HAA.out _ _ (by first | exact M1.out.xv.new (New.refl _).drew | exact M1.out.xv.new ((New.refl _).alloc _).drew)).mono ?_); rintro e w3 ⟨v3, rfl, hu3, hn3⟩; have hs3 : New w1 w3 := (by first | exact (New.refl _).drew.trans hn3 | exact ((New.refl _).alloc _).drew.trans hn3); have m3x := M1.out.new hs3; have c30 := m3x.cells.1; have c31 := m3x.cells.2.1; have c32 := m3x.cells.2.2.1; have c33 := m3x.cells.2.2.2; have a30 := fun o => ((New.refl w3).alloc o).still c30; have a31 := fun o => ((New.refl w3).alloc o).still c31; have a32 := fun o => ((New.refl w3).alloc o).still c32; have a33 := fun o => ((New.refl w3).alloc o).still c33; (first | (have hp3 := Box.new hn3 (Box.new (New.refl _).drew (Box.last _ #[.slice none 0 0, .bool false] NNum)); have k30 := hp3.two.1; have k31 := hp3.two.2.1; have k32 := hp3.two.2.2.1; have k33 := hp3.two.2.2.2) | skip))))
    all_goals
      rw [HDG.out] at hu6 ⊢
      have hlt := M1.out.lt
      have hl3 := hs3.le
      have hl4 := hs4.le
      have hl5 := hs5.le
      have hl6 := hs6.le
      first
      | (refine (m6.gl hu6).name2 ?_; rintro V hV P hP st; rw [← hV, ← hP])
      | (refine (m6.gs hu6 hp6 (by omega)).name2 ?_; rintro V hV P hP st; rw [← hV, ← hP])
      exact aux V P Ag lg cg v3 v4 v5 st
  · intro V P Ag lg cg v3 v4 v5 st
    have ST := Lib.hid st
    obtain ⟨hne1, hne2, hne3⟩ := st.ne
    clear st HAA HAB HGC HMK m0 m1 m2 m3 a00 a01 a02 a03
    obtain ⟨m0, m1, m2, m3⟩ := ST.out.m.cells
    obtain ⟨m4, m5⟩ := ST.out.bx.cells2
    go_wp2
    go_region_law ((rw [if_pos (by rfl)]; (first | go_big_op | go_simp); first
      | (with_reducible (refine (HCM.out _ _ _ s7.gv hv7).mono ?_); rintro e w8 ⟨rfl, hn8⟩; have s8 := s7.new hn8)
      | (with_reducible (refine (HON.out _).mono ?_); rintro e w7 ⟨v7, rfl, hv7, hn7⟩; have s7 := ST.out.new ((New.refl _).drew.trans hn7); have d4 := s7.bx.cells2.1; have d5 := s7.bx.cells2.2)))
    all_goals
      clear ST m0 m1 m2 m3 m4 m5
      have ST := Lib.hid s8
      clear s7 s8 hn7 hn8 hv7 HCM HON d4 d5
      obtain ⟨m0, m1, m2, m3⟩ := ST.out.m.cells
      obtain ⟨n0, n1, n2, n3⟩ := ST.out.m.froz
      obtain ⟨m4, m5⟩ := ST.out.bx.cells2
      have hFR := ST.out.m.br
      have c20 := hFR.cells4.1
      have c21 := hFR.cells4.2.1
      have c22 := hFR.cells4.2.2.1
      have c23 := hFR.cells4.2.2.2
      have f20 := hFR.frozen 0
      have f21 := hFR.frozen 1
      have f22 := hFR.frozen 2
      have f23 := hFR.frozen 3
      obtain ⟨_, gb, gn, gv⟩ := rat_done ST.out.m (.slice A l c) (.bool b) (.slice A' l' c') (.bool b')
      have GX := Lib.hid (gv ST.out.m.xv)
      have GY := Lib.hid (gv ST.out.m.yv)
      have GN := Lib.hid gn
      obtain ⟨g0, g1, g2, g3⟩ := gb.cells4
      clear hFR gb gn gv ST
      obtain ⟨_, _, _, e1, _⟩ := GX.out.form
      obtain ⟨_, _, _, e2, _⟩ := GY.out.form
      simp only [Value.agg.injEq, Array.mk.injEq, List.cons.injEq, Value.bool.injEq, and_true] at e1 e2
      have hb1 := e1.2
      have hb2 := e2.2
      have hres : RatB _ (.agg #[.slice A l c, .bool b, .slice A' l' c', .bool b']) (x) (y) k := ⟨A, l, c, A', l', c', by rw [hb1, hb2], by rw [← hb1]; exact GX.out, by rw [← hb2]; exact GY.out⟩
      clear m4 m5 hne1 hne2 hne3 n0 n1 n2 n3
      have HRES := Lib.hid hres
      clear hres e1 e2 hb1 hb2
      go_wp2
      refine bodyPost_ret (v := .tuple #[.agg #[.slice A l c, .bool b, .slice A' l' c', .bool b'], .int .i64 0]) (by simp [results, Tryz.results52, go_sem, g0, g1, g2, g3]) rfl ⟨_, rfl, HRES.out, GN.out⟩
set_option maxRecDepth 1000000 in
set_option maxHeartbeats 20000000 in
theorem rmk_pm (hz : NumB w u x k) (hy : NumB w v y k) (hk : k ≤ 15000) (h0 : 0 < y) (hg : 1 < gcdZ x y) :
    Calls Tryz.prog 52 #[u, v] w fun e w' => ∃ r, e = .returned (.tuple #[r, .int .i64 0]) ∧ RatB w' r (mkN x y) (mkD x y) k ∧ New w w' := by
  have e1 : mkN x y = (x).tdiv (gcdZ x y) := by unfold mkN upZ; rw [if_neg (by omega), if_neg (by omega)]
  have e2 : mkD x y = (y).tdiv (gcdZ x y) := by unfold mkD upZ; rw [if_neg (by omega), if_neg (by omega)]
  obtain ⟨A, l, c, rfl, hv⟩ := hz.form
  obtain ⟨A', l', c', rfl, hv'⟩ := hy.form
  have hN := allocs_new [(#[.slice A l c, .bool (decide (x < 0))], NNum), (#[.slice A' l' c', .bool (decide (y < 0))], NNum), (#[.slice none 0 0, .bool false, .slice none 0 0, .bool false], NRat)] w
  have hB := allocs_bxs [(#[.slice A l c, .bool (decide (x < 0))], NNum), (#[.slice A' l' c', .bool (decide (y < 0))], NNum), (#[.slice none 0 0, .bool false, .slice none 0 0, .bool false], NRat)] w
  simp only [allocs] at hN hB
  have M0 := Lib.hid (show MBx w (((w.alloc (.cells #[.slice A l c, .bool (decide (x < 0))] NNum)).alloc (.cells #[.slice A' l' c', .bool (decide (y < 0))] NNum)).alloc (.cells #[.slice none 0 0, .bool false, .slice none 0 0, .bool false] NRat)) w.heap.size A l c (decide (x < 0)) A' l' c' (decide (y < 0)) x y k from
    ⟨hN, hB.three.1, hB.three.2.1, hB.three.2.2, hz.new hN, hy.new hN, Nat.le_refl _⟩)
  have HSG := Lib.hid (fun W v (h : NumB W v y k) => sign_n h (by omega))
  rw [show sgZ y = 1 by unfold sgZ; rw [if_neg (by omega), if_neg (by omega)]] at HSG
  have HNA := Lib.hid (fun W v (h : NumB W v x k) => neg_n h (by omega))
  have HNB := Lib.hid (fun W v (h : NumB W v y k) => neg_n h (by omega))
  have haa := fun W v (h : NumB W v (x) k) => abs_n h
  have hab := fun W v (h : NumB W v (y) k) => abs_n h
  have HAA := Lib.hid haa
  have HAB := Lib.hid hab
  have HGC := Lib.hid (fun W u v (h : NatB W u x.natAbs k) (h2 : NatB W v y.natAbs k) => gcd_b h h2 (by omega) (by omega))
  have hmk := fun W v (h : NatB W v (Nat.gcd x.natAbs y.natAbs) (k + k)) => make_n false h (by omega)
  rw [show sgn false (Nat.gcd x.natAbs y.natAbs) = ((gcdZ x y : Nat) : Int) by unfold sgn gcdZ; simp] at hmk
  have HMK := Lib.hid hmk
  have HON := Lib.hid one_n
  have hcm := fun W u v (h : NumB W u ((gcdZ x y : Nat) : Int) (k + k)) (h2 : NumB W v 1 2) => cmp_n h h2 (by omega) (by omega)
  rw [show cmpZ ((gcdZ x y : Nat) : Int) 1 = 1 by unfold cmpZ; rw [if_neg (by omega), if_pos (by omega)]] at hcm
  have HCM := Lib.hid hcm
  have HD1 : Hid (decide ((1 : Int) < 0) = false) := Lib.hid rfl
  have HDG : Hid (decide (((gcdZ x y : Nat) : Int) < 0) = false) := Lib.hid (decide_eq_false (by omega))
  have hgz : ((gcdZ x y : Nat) : Int) ≠ 0 := by omega
  have HQ1 := Lib.hid (fun W u v (h : NumB W u (x) k) (h2 : NumB W v ((gcdZ x y : Nat) : Int) (k + k)) => quorem_n h h2 (by omega) (by omega))
  have HQ2 := Lib.hid (fun W u v (h : NumB W u (y) k) (h2 : NumB W v ((gcdZ x y : Nat) : Int) (k + k)) => quorem_n h h2 (by omega) (by omega))
  rw [show divI ((gcdZ x y : Nat) : Int) = 0 by unfold divI; rw [if_neg hgz]] at HQ1 HQ2
  rw [e1, e2]
  clear hgz
  clear hg e1 e2 haa hab hmk hcm hv hv' hz hy hN hB
  generalize decide (x < 0) = b at *
  generalize decide (y < 0) = b' at *
  generalize ((gcdZ x y : Nat) : Int) = g at *
  go_enter Tryz.func52, Tryz.ntmps52
  go_wp2_with fail
  refine (HSG.out _ _ M0.out.yv).mono ?_
  rintro e w1 ⟨rfl, hn1⟩
  have M1 := Lib.hid (M0.out.new hn1)
  clear hn1 M0 HSG
  obtain ⟨m0, m1, m2, m3⟩ := M1.out.cells
  obtain ⟨n0, n1, n2, n3⟩ := M1.out.froz
  go_wp2

  have a00 := fun o => ((New.refl w1).alloc o).still m0
  have a01 := fun o => ((New.refl w1).alloc o).still m1
  have a02 := fun o => ((New.refl w1).alloc o).still m2
  have a03 := fun o => ((New.refl w1).alloc o).still m3
  apply MG.share (w0 := w) (p := w.heap.size) (A := A) (l := l) (c := c) (b := b) (A' := A') (l' := l') (c' := c') (b' := b') (x := x) (y := y) (k := k) (g := g) (j := k + k)
  · intro aux
    go_region_law ((rw [if_pos (by rfl)]; (first | go_big_op | go_simp); first
      | (with_reducible (refine (HMK.out _ _ (by first | exact hu5 | exact hu5.new ((New.refl _).alloc _))).mono ?_); rintro e w6 ⟨v6, rfl, hu6, hn6⟩; obtain ⟨Ag, lg, cg, rfl, -⟩ := hu6.form; have hs6 : New w5 w6 := (by first | exact hn6 | exact ((New.refl _).alloc _).trans hn6); have m6 := m5.new hs6; (first | (have hp6 := Box.new hn6 hp5; have k60 := hp6.two.1; have k61 := hp6.two.2.1; have k62 := hp6.two.2.2.1; have k63 := hp6.two.2.2.2) | (have hp6 := Box.new hn6 (Box.last _ #[.slice none 0 0, .bool false] NNum); have k60 := hp6.two.1; have k61 := hp6.two.2.1; have k62 := hp6.two.2.2.1; have k63 := hp6.two.2.2.2) | skip))
      | (with_reducible (refine (HGC.out _ _ _ (by first | exact hu3.new hs4 | exact hu3.new (hs4.alloc _)) (by first | exact hu4 | exact hu4.new ((New.refl _).alloc _))).mono ?_); rintro e w5 ⟨v5, rfl, hu5, hn5⟩; have hs5 : New w4 w5 := (by first | exact hn5 | exact ((New.refl _).alloc _).trans hn5); have m5 := m4.new hs5; (first | (have hp5 := Box.new hn5 hp4; have k50 := hp5.two.1; have k51 := hp5.two.2.1; have k52 := hp5.two.2.2.1; have k53 := hp5.two.2.2.2) | (have hp5 := Box.new hn5 (Box.last _ #[.slice none 0 0, .bool false] NNum); have k50 := hp5.two.1; have k51 := hp5.two.2.1; have k52 := hp5.two.2.2.1; have k53 := hp5.two.2.2.2) | skip))
      | (with_reducible (refine (HAB.out _ _ (by first | exact m3x.yv | exact m3x.yv.new ((New.refl _).alloc _))).mono ?_); rintro e w4 ⟨v4, rfl, hu4, hn4⟩; have hs4 : New w3 w4 := (by first | exact hn4 | exact ((New.refl _).alloc _).trans hn4); have m4 := m3x.new hs4; (first | (have hp4 := Box.new hn4 hp3; have k40 := hp4.two.1; have k41 := hp4.two.2.1; have k42 := hp4.two.2.2.1; have k43 := hp4.two.2.2.2) | (have hp4 := Box.new hn4 (Box.last _ #[.slice none 0 0, .bool false] NNum); have k40 := hp4.two.1; have k41 := hp4.two.2.1; have k42 := hp4.two.2.2.1; have k43 := hp4.two.2.2.2) | skip))
      | (with_reducible (refine (HAA.out _ _ (by first | exact M1.out.xv.new (New.refl _).drew | exact M1.out.xv.new ((New.refl _).alloc _).drew)).mono ?_); rintro e w3 ⟨v3, rfl, hu3, hn3⟩; have hs3 : New w1 w3 := (by first | exact (New.refl _).drew.trans hn3 | exact ((New.refl _).alloc _).drew.trans hn3); have m3x := M1.out.new hs3; have c30 := m3x.cells.1; have c31 := m3x.cells.2.1; have c32 := m3x.cells.2.2.1; have c33 := m3x.cells.2.2.2; have a30 := fun o => ((New.refl w3).alloc o).still c30; have a31 := fun o => ((New.refl w3).alloc o).still c31; have a32 := fun o => ((New.refl w3).alloc o).still c32; have a33 := fun o => ((New.refl w3).alloc o).still c33; (first | (have hp3 := Box.new hn3 (Box.new (New.refl _).drew (Box.last _ #[.slice none 0 0, .bool false] NNum)); have k30 := hp3.two.1; have k31 := hp3.two.2.1; have k32 := hp3.two.2.2.1; have k33 := hp3.two.2.2.2) | skip))))
    all_goals
      rw [HDG.out] at hu6 ⊢
      have hlt := M1.out.lt
      have hl3 := hs3.le
      have hl4 := hs4.le
      have hl5 := hs5.le
      have hl6 := hs6.le
      first
      | (refine (m6.gl hu6).name2 ?_; rintro V hV P hP st; rw [← hV, ← hP])
      | (refine (m6.gs hu6 hp6 (by omega)).name2 ?_; rintro V hV P hP st; rw [← hV, ← hP])
      exact aux V P Ag lg cg v3 v4 v5 st
  · intro V P Ag lg cg v3 v4 v5 st
    have ST := Lib.hid st
    obtain ⟨hne1, hne2, hne3⟩ := st.ne
    clear st HAA HAB HGC HMK m0 m1 m2 m3 a00 a01 a02 a03
    obtain ⟨m0, m1, m2, m3⟩ := ST.out.m.cells
    obtain ⟨m4, m5⟩ := ST.out.bx.cells2
    go_wp2
    go_region_law ((rw [if_pos (by rfl)]; (first | go_big_op | go_simp); first
      | (with_reducible (refine (HCM.out _ _ _ s7.gv hv7).mono ?_); rintro e w8 ⟨rfl, hn8⟩; have s8 := s7.new hn8)
      | (with_reducible (refine (HON.out _).mono ?_); rintro e w7 ⟨v7, rfl, hv7, hn7⟩; have s7 := ST.out.new ((New.refl _).drew.trans hn7); have d4 := s7.bx.cells2.1; have d5 := s7.bx.cells2.2)))
    all_goals
      clear ST m0 m1 m2 m3 m4 m5
      have ST := Lib.hid s8
      clear s7 s8 hn7 hn8 hv7 HCM HON d4 d5
      obtain ⟨m0, m1, m2, m3⟩ := ST.out.m.cells
      obtain ⟨n0, n1, n2, n3⟩ := ST.out.m.froz
      obtain ⟨m4, m5⟩ := ST.out.bx.cells2
      go_wp2_with fail
      refine (HQ1.out _ _ _ ST.out.m.xv ST.out.gv).mono ?_
      rintro e w9 ⟨qa, ra, rfl, hqa, hra, hn9⟩
      obtain ⟨Aq, lq, cq, rfl, _⟩ := hqa.form
      have s9 := ST.out.new hn9
      generalize hbq : decide ((x).tdiv g < 0) = bq at *
      have sA := s9.m.turnA hqa
      have SA := Lib.hid (show MG w _ w.heap.size _ Aq lq cq bq A' l' c' b' ((x).tdiv g) (y) k Ag lg cg false g (k + k) from ⟨sA, (s9.bx.far (by have := s9.sp; omega) _).far (by have := s9.sp; omega) _, s9.gv.lay2 s9.m.ba _ _, s9.sp⟩)
      obtain ⟨m0, m1, m2, m3⟩ := s9.m.cells
      obtain ⟨n0, n1, n2, n3⟩ := s9.m.froz
      obtain ⟨p0, p1, p2, p3⟩ := SA.out.m.cells
      obtain ⟨r0, r1, r2, r3⟩ := SA.out.m.froz
      obtain ⟨p4, p5⟩ := SA.out.bx.cells2
      have hbq0 := hbq
      clear hbq
      have HBQ0 := Lib.hid hbq0
      clear hqa hra hn9 s9 sA ST hbq0 HQ1
      go_wp2_with fail
      refine (HQ2.out _ _ _ SA.out.m.yv SA.out.gv).mono ?_
      rintro e wx ⟨qb, rb, rfl, hqb, hrb, hnx⟩
      obtain ⟨Ar, lr, cr, rfl, _⟩ := hqb.form
      have sx := SA.out.new hnx
      generalize hbr : decide ((y).tdiv g < 0) = br at *
      have SB := Lib.hid (sx.m.turnB hqb)
      clear m0 m1 m2 m3 m4 m5 n0 n1 n2 n3 p0 p1 p2 p3 p4 p5 r0 r1 r2 r3
      obtain ⟨m0, m1, m2, m3⟩ := sx.m.cells
      obtain ⟨n0, n1, n2, n3⟩ := sx.m.froz
      have hFR := SB.out.br
      have c20 := hFR.cells4.1
      have c21 := hFR.cells4.2.1
      have c22 := hFR.cells4.2.2.1
      have c23 := hFR.cells4.2.2.2
      have f20 := hFR.frozen 0
      have f21 := hFR.frozen 1
      have f22 := hFR.frozen 2
      have f23 := hFR.frozen 3
      obtain ⟨p0, p1, p2, p3⟩ := SB.out.cells
      obtain ⟨_, gb, gn, gv⟩ := rat_done SB.out (.slice Aq lq cq) (.bool bq) (.slice Ar lr cr) (.bool br)
      have GX := Lib.hid (gv SB.out.xv)
      have GY := Lib.hid (gv SB.out.yv)
      have GN := Lib.hid gn
      obtain ⟨g0, g1, g2, g3⟩ := gb.cells4
      have HBQ := HBQ0
      have HBR := Lib.hid hbr
      clear hqb hrb hnx sx SA hFR gb gn gv hbr HQ2
      go_wp2
      refine bodyPost_ret (v := .tuple #[.agg #[.slice Aq lq cq, .bool bq, .slice Ar lr cr, .bool br], .int .i64 0]) (by simp [results, Tryz.results52, go_sem, g0, g1, g2, g3]) rfl ⟨_, rfl, ⟨Aq, lq, cq, Ar, lr, cr, by rw [HBQ.out, HBR.out], by rw [HBQ.out]; exact GX.out, by rw [HBR.out]; exact GY.out⟩, GN.out⟩
set_option maxRecDepth 1000000 in
set_option maxHeartbeats 20000000 in
theorem rmk_n1 (hz : NumB w u x k) (hy : NumB w v y k) (hk : k ≤ 15000) (h0 : y < 0) (hg : gcdZ x y = 1) :
    Calls Tryz.prog 52 #[u, v] w fun e w' => ∃ r, e = .returned (.tuple #[r, .int .i64 0]) ∧ RatB w' r (mkN x y) (mkD x y) k ∧ New w w' := by
  have e1 : mkN x y = (-x).tdiv (gcdZ x y) := by unfold mkN upZ; rw [if_neg (by omega), if_pos h0]
  have e2 : mkD x y = (-y).tdiv (gcdZ x y) := by unfold mkD upZ; rw [if_neg (by omega), if_pos h0]
  obtain ⟨A, l, c, rfl, hv⟩ := hz.form
  obtain ⟨A', l', c', rfl, hv'⟩ := hy.form
  have hN := allocs_new [(#[.slice A l c, .bool (decide (x < 0))], NNum), (#[.slice A' l' c', .bool (decide (y < 0))], NNum), (#[.slice none 0 0, .bool false, .slice none 0 0, .bool false], NRat)] w
  have hB := allocs_bxs [(#[.slice A l c, .bool (decide (x < 0))], NNum), (#[.slice A' l' c', .bool (decide (y < 0))], NNum), (#[.slice none 0 0, .bool false, .slice none 0 0, .bool false], NRat)] w
  simp only [allocs] at hN hB
  have M0 := Lib.hid (show MBx w (((w.alloc (.cells #[.slice A l c, .bool (decide (x < 0))] NNum)).alloc (.cells #[.slice A' l' c', .bool (decide (y < 0))] NNum)).alloc (.cells #[.slice none 0 0, .bool false, .slice none 0 0, .bool false] NRat)) w.heap.size A l c (decide (x < 0)) A' l' c' (decide (y < 0)) x y k from
    ⟨hN, hB.three.1, hB.three.2.1, hB.three.2.2, hz.new hN, hy.new hN, Nat.le_refl _⟩)
  have HSG := Lib.hid (fun W v (h : NumB W v y k) => sign_n h (by omega))
  rw [show sgZ y = -1 by unfold sgZ; rw [if_pos h0]] at HSG
  have HNA := Lib.hid (fun W v (h : NumB W v x k) => neg_n h (by omega))
  have HNB := Lib.hid (fun W v (h : NumB W v y k) => neg_n h (by omega))
  have haa := fun W v (h : NumB W v (-x) k) => abs_n h
  have hab := fun W v (h : NumB W v (-y) k) => abs_n h
  rw [Int.natAbs_neg] at haa hab
  have HAA := Lib.hid haa
  have HAB := Lib.hid hab
  have HGC := Lib.hid (fun W u v (h : NatB W u x.natAbs k) (h2 : NatB W v y.natAbs k) => gcd_b h h2 (by omega) (by omega))
  have hmk := fun W v (h : NatB W v (Nat.gcd x.natAbs y.natAbs) (k + k)) => make_n false h (by omega)
  rw [show sgn false (Nat.gcd x.natAbs y.natAbs) = ((gcdZ x y : Nat) : Int) by unfold sgn gcdZ; simp] at hmk
  have HMK := Lib.hid hmk
  have HON := Lib.hid one_n
  have hcm := fun W u v (h : NumB W u ((gcdZ x y : Nat) : Int) (k + k)) (h2 : NumB W v 1 2) => cmp_n h h2 (by omega) (by omega)
  rw [show cmpZ ((gcdZ x y : Nat) : Int) 1 = 0 by unfold cmpZ; rw [if_neg (by omega), if_neg (by omega)]] at hcm
  have HCM := Lib.hid hcm
  have HD1 : Hid (decide ((1 : Int) < 0) = false) := Lib.hid rfl
  have HDG : Hid (decide (((gcdZ x y : Nat) : Int) < 0) = false) := Lib.hid (decide_eq_false (by omega))
  rw [hg, show ((1 : Nat) : Int) = 1 from rfl, Int.tdiv_one] at e1 e2
  rw [e1, e2]
  clear hg e1 e2 haa hab hmk hcm hv hv' hz hy hN hB
  generalize decide (x < 0) = b at *
  generalize decide (y < 0) = b' at *
  generalize ((gcdZ x y : Nat) : Int) = g at *
  go_enter Tryz.func52, Tryz.ntmps52
  go_wp2_with fail
  refine (HSG.out _ _ M0.out.yv).mono ?_
  rintro e w1 ⟨rfl, hn1⟩
  have M1 := Lib.hid (M0.out.new hn1)
  clear hn1 M0 HSG
  obtain ⟨m0, m1, m2, m3⟩ := M1.out.cells
  obtain ⟨n0, n1, n2, n3⟩ := M1.out.froz
  go_wp2
  apply MBx.share (w0 := w) (p := w.heap.size) (x := -x) (y := -y) (k := k)
  · intro aux0
    go_region_law ((rw [if_pos (by rfl)]; (first | go_big_op | go_simp); first
      | (with_reducible (refine (HNB.out _ _ ma.yv).mono ?_); rintro e wb ⟨vb, rfl, hvb, hnb⟩; obtain ⟨Ab, lb, cb, rfl, -⟩ := hvb.form; generalize decide (-y < 0) = bb at *; have mb := ma.new hnb; have q0 := mb.cells.1; have q1 := mb.cells.2.1; have q2 := mb.cells.2.2.1; have q3 := mb.cells.2.2.2; have f0 := mb.froz.1; have f1 := mb.froz.2.1; have f2 := mb.froz.2.2.1; have f3 := mb.froz.2.2.2)
      | (with_reducible (refine (HNA.out _ _ (M1.out.xv.new (New.refl _).drew)).mono ?_); rintro e wa ⟨va, rfl, hva, hna⟩; obtain ⟨Aa, la, ca, rfl, -⟩ := hva.form; generalize decide (-x < 0) = ba at *; have ma := M1.out.new ((New.refl _).drew.trans hna); have p0 := ma.cells.1; have p1 := ma.cells.2.1; have p2 := ma.cells.2.2.1; have p3 := ma.cells.2.2.2)))
    all_goals
      refine (((mb.turnA (hva.new hnb)).turnB (hvb.lay2 mb.ba _ _)).name ?_)
      rintro V hV st
      rw [← hV]
      exact aux0 V Aa la ca ba Ab lb cb bb st
  · intro wz Aa la ca ba Ab lb cb bb st
    have M2 := Lib.hid st
    clear st m0 m1 m2 m3 n0 n1 n2 n3 M1 HNA HNB
    go_wp2
    obtain ⟨m0, m1, m2, m3⟩ := M2.out.cells
    have a00 := fun o => ((New.refl wz).alloc o).still m0
    have a01 := fun o => ((New.refl wz).alloc o).still m1
    have a02 := fun o => ((New.refl wz).alloc o).still m2
    have a03 := fun o => ((New.refl wz).alloc o).still m3
    apply MG.share (w0 := w) (p := w.heap.size) (A := Aa) (l := la) (c := ca) (b := ba) (A' := Ab) (l' := lb) (c' := cb) (b' := bb) (x := -x) (y := -y) (k := k) (g := g) (j := k + k)
    · intro aux
      go_region_law ((rw [if_pos (by rfl)]; (first | go_big_op | go_simp); first
        | (with_reducible (refine (HMK.out _ _ (by first | exact hu5 | exact hu5.new ((New.refl _).alloc _))).mono ?_); rintro e w6 ⟨v6, rfl, hu6, hn6⟩; obtain ⟨Ag, lg, cg, rfl, -⟩ := hu6.form; have hs6 : New w5 w6 := (by first | exact hn6 | exact ((New.refl _).alloc _).trans hn6); have m6 := m5.new hs6; (first | (have hp6 := Box.new hn6 hp5; have k60 := hp6.two.1; have k61 := hp6.two.2.1; have k62 := hp6.two.2.2.1; have k63 := hp6.two.2.2.2) | (have hp6 := Box.new hn6 (Box.last _ #[.slice none 0 0, .bool false] NNum); have k60 := hp6.two.1; have k61 := hp6.two.2.1; have k62 := hp6.two.2.2.1; have k63 := hp6.two.2.2.2) | skip))
        | (with_reducible (refine (HGC.out _ _ _ (by first | exact hu3.new hs4 | exact hu3.new (hs4.alloc _)) (by first | exact hu4 | exact hu4.new ((New.refl _).alloc _))).mono ?_); rintro e w5 ⟨v5, rfl, hu5, hn5⟩; have hs5 : New w4 w5 := (by first | exact hn5 | exact ((New.refl _).alloc _).trans hn5); have m5 := m4.new hs5; (first | (have hp5 := Box.new hn5 hp4; have k50 := hp5.two.1; have k51 := hp5.two.2.1; have k52 := hp5.two.2.2.1; have k53 := hp5.two.2.2.2) | (have hp5 := Box.new hn5 (Box.last _ #[.slice none 0 0, .bool false] NNum); have k50 := hp5.two.1; have k51 := hp5.two.2.1; have k52 := hp5.two.2.2.1; have k53 := hp5.two.2.2.2) | skip))
        | (with_reducible (refine (HAB.out _ _ (by first | exact m3x.yv | exact m3x.yv.new ((New.refl _).alloc _))).mono ?_); rintro e w4 ⟨v4, rfl, hu4, hn4⟩; have hs4 : New w3 w4 := (by first | exact hn4 | exact ((New.refl _).alloc _).trans hn4); have m4 := m3x.new hs4; (first | (have hp4 := Box.new hn4 hp3; have k40 := hp4.two.1; have k41 := hp4.two.2.1; have k42 := hp4.two.2.2.1; have k43 := hp4.two.2.2.2) | (have hp4 := Box.new hn4 (Box.last _ #[.slice none 0 0, .bool false] NNum); have k40 := hp4.two.1; have k41 := hp4.two.2.1; have k42 := hp4.two.2.2.1; have k43 := hp4.two.2.2.2) | skip))
        | (with_reducible (refine (HAA.out _ _ (by first | exact M2.out.xv.new (New.refl _).drew | exact M2.out.xv.new ((New.refl _).alloc _).drew)).mono ?_); rintro e w3 ⟨v3, rfl, hu3, hn3⟩; have hs3 : New wz w3 := (by first | exact (New.refl _).drew.trans hn3 | exact ((New.refl _).alloc _).drew.trans hn3); have m3x := M2.out.new hs3; have c30 := m3x.cells.1; have c31 := m3x.cells.2.1; have c32 := m3x.cells.2.2.1; have c33 := m3x.cells.2.2.2; have a30 := fun o => ((New.refl w3).alloc o).still c30; have a31 := fun o => ((New.refl w3).alloc o).still c31; have a32 := fun o => ((New.refl w3).alloc o).still c32; have a33 := fun o => ((New.refl w3).alloc o).still c33; (first | (have hp3 := Box.new hn3 (Box.new (New.refl _).drew (Box.last _ #[.slice none 0 0, .bool false] NNum)); have k30 := hp3.two.1; have k31 := hp3.two.2.1; have k32 := hp3.two.2.2.1; have k33 := hp3.two.2.2.2) | skip))))
      all_goals
        rw [HDG.out] at hu6 ⊢
        have hlt := M2.out.lt
        have hl3 := hs3.le
        have hl4 := hs4.le
        have hl5 := hs5.le
        have hl6 := hs6.le
        first
        | (refine (m6.gl hu6).name2 ?_; rintro V hV P hP st; rw [← hV, ← hP])
        | (refine (m6.gs hu6 hp6 (by omega)).name2 ?_; rintro V hV P hP st; rw [← hV, ← hP])
        exact aux V P Ag lg cg v3 v4 v5 st
    · intro V P Ag lg cg v3 v4 v5 st
      have ST := Lib.hid st
      obtain ⟨hne1, hne2, hne3⟩ := st.ne
      clear st HAA HAB HGC HMK m0 m1 m2 m3 a00 a01 a02 a03
      obtain ⟨m0, m1, m2, m3⟩ := ST.out.m.cells
      obtain ⟨m4, m5⟩ := ST.out.bx.cells2
      go_wp2
      go_region_law ((rw [if_pos (by rfl)]; (first | go_big_op | go_simp); first
        | (with_reducible (refine (HCM.out _ _ _ s7.gv hv7).mono ?_); rintro e w8 ⟨rfl, hn8⟩; have s8 := s7.new hn8)
        | (with_reducible (refine (HON.out _).mono ?_); rintro e w7 ⟨v7, rfl, hv7, hn7⟩; have s7 := ST.out.new ((New.refl _).drew.trans hn7); have d4 := s7.bx.cells2.1; have d5 := s7.bx.cells2.2)))
      all_goals
        clear ST m0 m1 m2 m3 m4 m5
        have ST := Lib.hid s8
        clear s7 s8 hn7 hn8 hv7 HCM HON d4 d5
        obtain ⟨m0, m1, m2, m3⟩ := ST.out.m.cells
        obtain ⟨n0, n1, n2, n3⟩ := ST.out.m.froz
        obtain ⟨m4, m5⟩ := ST.out.bx.cells2
        have hFR := ST.out.m.br
        have c20 := hFR.cells4.1
        have c21 := hFR.cells4.2.1
        have c22 := hFR.cells4.2.2.1
        have c23 := hFR.cells4.2.2.2
        have f20 := hFR.frozen 0
        have f21 := hFR.frozen 1
        have f22 := hFR.frozen 2
        have f23 := hFR.frozen 3
        obtain ⟨_, gb, gn, gv⟩ := rat_done ST.out.m (.slice Aa la ca) (.bool ba) (.slice Ab lb cb) (.bool bb)
        have GX := Lib.hid (gv ST.out.m.xv)
        have GY := Lib.hid (gv ST.out.m.yv)
        have GN := Lib.hid gn
        obtain ⟨g0, g1, g2, g3⟩ := gb.cells4
        clear hFR gb gn gv ST
        obtain ⟨_, _, _, e1, _⟩ := GX.out.form
        obtain ⟨_, _, _, e2, _⟩ := GY.out.form
        simp only [Value.agg.injEq, Array.mk.injEq, List.cons.injEq, Value.bool.injEq, and_true] at e1 e2
        have hb1 := e1.2
        have hb2 := e2.2
        have hres : RatB _ (.agg #[.slice Aa la ca, .bool ba, .slice Ab lb cb, .bool bb]) (-x) (-y) k := ⟨Aa, la, ca, Ab, lb, cb, by rw [hb1, hb2], by rw [← hb1]; exact GX.out, by rw [← hb2]; exact GY.out⟩
        clear m4 m5 hne1 hne2 hne3 n0 n1 n2 n3
        have HRES := Lib.hid hres
        clear hres e1 e2 hb1 hb2
        go_wp2
        refine bodyPost_ret (v := .tuple #[.agg #[.slice Aa la ca, .bool ba, .slice Ab lb cb, .bool bb], .int .i64 0]) (by simp [results, Tryz.results52, go_sem, g0, g1, g2, g3]) rfl ⟨_, rfl, HRES.out, GN.out⟩
set_option maxRecDepth 1000000 in
set_option maxHeartbeats 20000000 in
theorem rmk_nm (hz : NumB w u x k) (hy : NumB w v y k) (hk : k ≤ 15000) (h0 : y < 0) (hg : 1 < gcdZ x y) :
    Calls Tryz.prog 52 #[u, v] w fun e w' => ∃ r, e = .returned (.tuple #[r, .int .i64 0]) ∧ RatB w' r (mkN x y) (mkD x y) k ∧ New w w' := by
  have e1 : mkN x y = (-x).tdiv (gcdZ x y) := by unfold mkN upZ; rw [if_neg (by omega), if_pos h0]
  have e2 : mkD x y = (-y).tdiv (gcdZ x y) := by unfold mkD upZ; rw [if_neg (by omega), if_pos h0]
  obtain ⟨A, l, c, rfl, hv⟩ := hz.form
  obtain ⟨A', l', c', rfl, hv'⟩ := hy.form
  have hN := allocs_new [(#[.slice A l c, .bool (decide (x < 0))], NNum), (#[.slice A' l' c', .bool (decide (y < 0))], NNum), (#[.slice none 0 0, .bool false, .slice none 0 0, .bool false], NRat)] w
  have hB := allocs_bxs [(#[.slice A l c, .bool (decide (x < 0))], NNum), (#[.slice A' l' c', .bool (decide (y < 0))], NNum), (#[.slice none 0 0, .bool false, .slice none 0 0, .bool false], NRat)] w
  simp only [allocs] at hN hB
  have M0 := Lib.hid (show MBx w (((w.alloc (.cells #[.slice A l c, .bool (decide (x < 0))] NNum)).alloc (.cells #[.slice A' l' c', .bool (decide (y < 0))] NNum)).alloc (.cells #[.slice none 0 0, .bool false, .slice none 0 0, .bool false] NRat)) w.heap.size A l c (decide (x < 0)) A' l' c' (decide (y < 0)) x y k from
    ⟨hN, hB.three.1, hB.three.2.1, hB.three.2.2, hz.new hN, hy.new hN, Nat.le_refl _⟩)
  have HSG := Lib.hid (fun W v (h : NumB W v y k) => sign_n h (by omega))
  rw [show sgZ y = -1 by unfold sgZ; rw [if_pos h0]] at HSG
  have HNA := Lib.hid (fun W v (h : NumB W v x k) => neg_n h (by omega))
  have HNB := Lib.hid (fun W v (h : NumB W v y k) => neg_n h (by omega))
  have haa := fun W v (h : NumB W v (-x) k) => abs_n h
  have hab := fun W v (h : NumB W v (-y) k) => abs_n h
  rw [Int.natAbs_neg] at haa hab
  have HAA := Lib.hid haa
  have HAB := Lib.hid hab
  have HGC := Lib.hid (fun W u v (h : NatB W u x.natAbs k) (h2 : NatB W v y.natAbs k) => gcd_b h h2 (by omega) (by omega))
  have hmk := fun W v (h : NatB W v (Nat.gcd x.natAbs y.natAbs) (k + k)) => make_n false h (by omega)
  rw [show sgn false (Nat.gcd x.natAbs y.natAbs) = ((gcdZ x y : Nat) : Int) by unfold sgn gcdZ; simp] at hmk
  have HMK := Lib.hid hmk
  have HON := Lib.hid one_n
  have hcm := fun W u v (h : NumB W u ((gcdZ x y : Nat) : Int) (k + k)) (h2 : NumB W v 1 2) => cmp_n h h2 (by omega) (by omega)
  rw [show cmpZ ((gcdZ x y : Nat) : Int) 1 = 1 by unfold cmpZ; rw [if_neg (by omega), if_pos (by omega)]] at hcm
  have HCM := Lib.hid hcm
  have HD1 : Hid (decide ((1 : Int) < 0) = false) := Lib.hid rfl
  have HDG : Hid (decide (((gcdZ x y : Nat) : Int) < 0) = false) := Lib.hid (decide_eq_false (by omega))
  have hgz : ((gcdZ x y : Nat) : Int) ≠ 0 := by omega
  have HQ1 := Lib.hid (fun W u v (h : NumB W u (-x) k) (h2 : NumB W v ((gcdZ x y : Nat) : Int) (k + k)) => quorem_n h h2 (by omega) (by omega))
  have HQ2 := Lib.hid (fun W u v (h : NumB W u (-y) k) (h2 : NumB W v ((gcdZ x y : Nat) : Int) (k + k)) => quorem_n h h2 (by omega) (by omega))
  rw [show divI ((gcdZ x y : Nat) : Int) = 0 by unfold divI; rw [if_neg hgz]] at HQ1 HQ2
  rw [e1, e2]
  clear hgz
  clear hg e1 e2 haa hab hmk hcm hv hv' hz hy hN hB
  generalize decide (x < 0) = b at *
  generalize decide (y < 0) = b' at *
  generalize ((gcdZ x y : Nat) : Int) = g at *
  go_enter Tryz.func52, Tryz.ntmps52
  go_wp2_with fail
  refine (HSG.out _ _ M0.out.yv).mono ?_
  rintro e w1 ⟨rfl, hn1⟩
  have M1 := Lib.hid (M0.out.new hn1)
  clear hn1 M0 HSG
  obtain ⟨m0, m1, m2, m3⟩ := M1.out.cells
  obtain ⟨n0, n1, n2, n3⟩ := M1.out.froz
  go_wp2
  apply MBx.share (w0 := w) (p := w.heap.size) (x := -x) (y := -y) (k := k)
  · intro aux0
    go_region_law ((rw [if_pos (by rfl)]; (first | go_big_op | go_simp); first
      | (with_reducible (refine (HNB.out _ _ ma.yv).mono ?_); rintro e wb ⟨vb, rfl, hvb, hnb⟩; obtain ⟨Ab, lb, cb, rfl, -⟩ := hvb.form; generalize decide (-y < 0) = bb at *; have mb := ma.new hnb; have q0 := mb.cells.1; have q1 := mb.cells.2.1; have q2 := mb.cells.2.2.1; have q3 := mb.cells.2.2.2; have f0 := mb.froz.1; have f1 := mb.froz.2.1; have f2 := mb.froz.2.2.1; have f3 := mb.froz.2.2.2)
      | (with_reducible (refine (HNA.out _ _ (M1.out.xv.new (New.refl _).drew)).mono ?_); rintro e wa ⟨va, rfl, hva, hna⟩; obtain ⟨Aa, la, ca, rfl, -⟩ := hva.form; generalize decide (-x < 0) = ba at *; have ma := M1.out.new ((New.refl _).drew.trans hna); have p0 := ma.cells.1; have p1 := ma.cells.2.1; have p2 := ma.cells.2.2.1; have p3 := ma.cells.2.2.2)))
    all_goals
      refine (((mb.turnA (hva.new hnb)).turnB (hvb.lay2 mb.ba _ _)).name ?_)
      rintro V hV st
      rw [← hV]
      exact aux0 V Aa la ca ba Ab lb cb bb st
  · intro wz Aa la ca ba Ab lb cb bb st
    have M2 := Lib.hid st
    clear st m0 m1 m2 m3 n0 n1 n2 n3 M1 HNA HNB
    go_wp2
    obtain ⟨m0, m1, m2, m3⟩ := M2.out.cells
    have a00 := fun o => ((New.refl wz).alloc o).still m0
    have a01 := fun o => ((New.refl wz).alloc o).still m1
    have a02 := fun o => ((New.refl wz).alloc o).still m2
    have a03 := fun o => ((New.refl wz).alloc o).still m3
    apply MG.share (w0 := w) (p := w.heap.size) (A := Aa) (l := la) (c := ca) (b := ba) (A' := Ab) (l' := lb) (c' := cb) (b' := bb) (x := -x) (y := -y) (k := k) (g := g) (j := k + k)
    · intro aux
      go_region_law ((rw [if_pos (by rfl)]; (first | go_big_op | go_simp); first
        | (with_reducible (refine (HMK.out _ _ (by first | exact hu5 | exact hu5.new ((New.refl _).alloc _))).mono ?_); rintro e w6 ⟨v6, rfl, hu6, hn6⟩; obtain ⟨Ag, lg, cg, rfl, -⟩ := hu6.form; have hs6 : New w5 w6 := (by first | exact hn6 | exact ((New.refl _).alloc _).trans hn6); have m6 := m5.new hs6; (first | (have hp6 := Box.new hn6 hp5; have k60 := hp6.two.1; have k61 := hp6.two.2.1; have k62 := hp6.two.2.2.1; have k63 := hp6.two.2.2.2) | (have hp6 := Box.new hn6 (Box.last _ #[.slice none 0 0, .bool false] NNum); have k60 := hp6.two.1; have k61 := hp6.two.2.1; have k62 := hp6.two.2.2.1; have k63 := hp6.two.2.2.2) | skip))
        | (with_reducible (refine (HGC.out _ _ _ (by first | exact hu3.new hs4 | exact hu3.new (hs4.alloc _)) (by first | exact hu4 | exact hu4.new ((New.refl _).alloc _))).mono ?_); rintro e w5 ⟨v5, rfl, hu5, hn5⟩; have hs5 : New w4 w5 := (by first | exact hn5 | exact ((New.refl _).alloc _).trans hn5); have m5 := m4.new hs5; (first | (have hp5 := Box.new hn5 hp4; have k50 := hp5.two.1; have k51 := hp5.two.2.1; have k52 := hp5.two.2.2.1; have k53 := hp5.two.2.2.2) | (have hp5 := Box.new hn5 (Box.last _ #[.slice none 0 0, .bool false] NNum); have k50 := hp5.two.1; have k51 := hp5.two.2.1; have k52 := hp5.two.2.2.1; have k53 := hp5.two.2.2.2) | skip))
        | (with_reducible (refine (HAB.out _ _ (by first | exact m3x.yv | exact m3x.yv.new ((New.refl _).alloc _))).mono ?_); rintro e w4 ⟨v4, rfl, hu4, hn4⟩; have hs4 : New w3 w4 := (by first | exact hn4 | exact ((New.refl _).alloc _).trans hn4); have m4 := m3x.new hs4; (first | (have hp4 := Box.new hn4 hp3; have k40 := hp4.two.1; have k41 := hp4.two.2.1; have k42 := hp4.two.2.2.1; have k43 := hp4.two.2.2.2) | (have hp4 := Box.new hn4 (Box.last _ #[.slice none 0 0, .bool false] NNum); have k40 := hp4.two.1; have k41 := hp4.two.2.1; have k42 := hp4.two.2.2.1; have k43 := hp4.two.2.2.2) | skip))
        | (with_reducible (refine (HAA.out _ _ (by first | exact M2.out.xv.new (New.refl _).drew | exact M2.out.xv.new ((New.refl _).alloc _).drew)).mono ?_); rintro e w3 ⟨v3, rfl, hu3, hn3⟩; have hs3 : New wz w3 := (by first | exact (New.refl _).drew.trans hn3 | exact ((New.refl _).alloc _).drew.trans hn3); have m3x := M2.out.new hs3; have c30 := m3x.cells.1; have c31 := m3x.cells.2.1; have c32 := m3x.cells.2.2.1; have c33 := m3x.cells.2.2.2; have a30 := fun o => ((New.refl w3).alloc o).still c30; have a31 := fun o => ((New.refl w3).alloc o).still c31; have a32 := fun o => ((New.refl w3).alloc o).still c32; have a33 := fun o => ((New.refl w3).alloc o).still c33; (first | (have hp3 := Box.new hn3 (Box.new (New.refl _).drew (Box.last _ #[.slice none 0 0, .bool false] NNum)); have k30 := hp3.two.1; have k31 := hp3.two.2.1; have k32 := hp3.two.2.2.1; have k33 := hp3.two.2.2.2) | skip))))
      all_goals
        rw [HDG.out] at hu6 ⊢
        have hlt := M2.out.lt
        have hl3 := hs3.le
        have hl4 := hs4.le
        have hl5 := hs5.le
        have hl6 := hs6.le
        first
        | (refine (m6.gl hu6).name2 ?_; rintro V hV P hP st; rw [← hV, ← hP])
        | (refine (m6.gs hu6 hp6 (by omega)).name2 ?_; rintro V hV P hP st; rw [← hV, ← hP])
        exact aux V P Ag lg cg v3 v4 v5 st
    · intro V P Ag lg cg v3 v4 v5 st
      have ST := Lib.hid st
      obtain ⟨hne1, hne2, hne3⟩ := st.ne
      clear st HAA HAB HGC HMK m0 m1 m2 m3 a00 a01 a02 a03
      obtain ⟨m0, m1, m2, m3⟩ := ST.out.m.cells
      obtain ⟨m4, m5⟩ := ST.out.bx.cells2
      go_wp2
      go_region_law ((rw [if_pos (by rfl)]; (first | go_big_op | go_simp); first
        | (with_reducible (refine (HCM.out _ _ _ s7.gv hv7).mono ?_); rintro e w8 ⟨rfl, hn8⟩; have s8 := s7.new hn8)
        | (with_reducible (refine (HON.out _).mono ?_); rintro e w7 ⟨v7, rfl, hv7, hn7⟩; have s7 := ST.out.new ((New.refl _).drew.trans hn7); have d4 := s7.bx.cells2.1; have d5 := s7.bx.cells2.2)))
      all_goals
        clear ST m0 m1 m2 m3 m4 m5
        have ST := Lib.hid s8
        clear s7 s8 hn7 hn8 hv7 HCM HON d4 d5
        obtain ⟨m0, m1, m2, m3⟩ := ST.out.m.cells
        obtain ⟨n0, n1, n2, n3⟩ := ST.out.m.froz
        obtain ⟨m4, m5⟩ := ST.out.bx.cells2
        go_wp2_with fail
        refine (HQ1.out _ _ _ ST.out.m.xv ST.out.gv).mono ?_
        rintro e w9 ⟨qa, ra, rfl, hqa, hra, hn9⟩
        obtain ⟨Aq, lq, cq, rfl, _⟩ := hqa.form
        have s9 := ST.out.new hn9
        generalize hbq : decide ((-x).tdiv g < 0) = bq at *
        have sA := s9.m.turnA hqa
        have SA := Lib.hid (show MG w _ w.heap.size _ Aq lq cq bq Ab lb cb bb ((-x).tdiv g) (-y) k Ag lg cg false g (k + k) from ⟨sA, (s9.bx.far (by have := s9.sp; omega) _).far (by have := s9.sp; omega) _, s9.gv.lay2 s9.m.ba _ _, s9.sp⟩)
        obtain ⟨m0, m1, m2, m3⟩ := s9.m.cells
        obtain ⟨n0, n1, n2, n3⟩ := s9.m.froz
        obtain ⟨p0, p1, p2, p3⟩ := SA.out.m.cells
        obtain ⟨r0, r1, r2, r3⟩ := SA.out.m.froz
        obtain ⟨p4, p5⟩ := SA.out.bx.cells2
        have hbq0 := hbq
        clear hbq
        have HBQ0 := Lib.hid hbq0
        clear hqa hra hn9 s9 sA ST hbq0 HQ1
        go_wp2_with fail
        refine (HQ2.out _ _ _ SA.out.m.yv SA.out.gv).mono ?_
        rintro e wx ⟨qb, rb, rfl, hqb, hrb, hnx⟩
        obtain ⟨Ar, lr, cr, rfl, _⟩ := hqb.form
        have sx := SA.out.new hnx
        generalize hbr : decide ((-y).tdiv g < 0) = br at *
        have SB := Lib.hid (sx.m.turnB hqb)
        clear m0 m1 m2 m3 m4 m5 n0 n1 n2 n3 p0 p1 p2 p3 p4 p5 r0 r1 r2 r3
        obtain ⟨m0, m1, m2, m3⟩ := sx.m.cells
        obtain ⟨n0, n1, n2, n3⟩ := sx.m.froz
        have hFR := SB.out.br
        have c20 := hFR.cells4.1
        have c21 := hFR.cells4.2.1
        have c22 := hFR.cells4.2.2.1
        have c23 := hFR.cells4.2.2.2
        have f20 := hFR.frozen 0
        have f21 := hFR.frozen 1
        have f22 := hFR.frozen 2
        have f23 := hFR.frozen 3
        obtain ⟨p0, p1, p2, p3⟩ := SB.out.cells
        obtain ⟨_, gb, gn, gv⟩ := rat_done SB.out (.slice Aq lq cq) (.bool bq) (.slice Ar lr cr) (.bool br)
        have GX := Lib.hid (gv SB.out.xv)
        have GY := Lib.hid (gv SB.out.yv)
        have GN := Lib.hid gn
        obtain ⟨g0, g1, g2, g3⟩ := gb.cells4
        have HBQ := HBQ0
        have HBR := Lib.hid hbr
        clear hqb hrb hnx sx SA hFR gb gn gv hbr HQ2
        go_wp2
        refine bodyPost_ret (v := .tuple #[.agg #[.slice Aq lq cq, .bool bq, .slice Ar lr cr, .bool br], .int .i64 0]) (by simp [results, Tryz.results52, go_sem, g0, g1, g2, g3]) rfl ⟨_, rfl, ⟨Aq, lq, cq, Ar, lr, cr, by rw [HBQ.out, HBR.out], by rw [HBQ.out]; exact GX.out, by rw [HBR.out]; exact GY.out⟩, GN.out⟩
end
end Go.Proofs.YtkjlmibleoecgaaGreatDoor
