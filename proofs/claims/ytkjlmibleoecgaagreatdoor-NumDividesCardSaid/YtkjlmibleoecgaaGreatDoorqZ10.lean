/- The program's num: DivMod. (Printed by mkz10.py.) -/
import Derived.Test.YtkjlmibleoecgaaGreatDoorqZ9
namespace Go.Proofs.YtkjlmibleoecgaaGreatDoor
set_option linter.unusedSimpArgs false
set_option linter.unusedVariables false
open Go.RowKit
/-- Is the quotient to be one less? -/
def stepZ (z y : Int) : Bool := !decide (remI z y = 0) && !(decide (remI z y < 0) == decide (y < 0))
def fq (z y : Int) : Int := if stepZ z y = true then z.tdiv y - 1 else z.tdiv y
def fr (z y : Int) : Int := if stepZ z y = true then remI z y + y else remI z y
/-- DivMod's boxes behind QuoRem. -/
structure DZt (w0 w : World) (p s : Nat) (A' : Option Addr) (l' c' : Nat) (b' : Bool) (A5 : Option Addr) (l5 c5 : Nat) (b5 : Bool) (A6 : Option Addr) (l6 c6 : Nat) (b6 : Bool) (y q r : Int) (j k i : Nat) : Prop where
  nw : New w0 w
  bb : Box w (p + 1) #[.slice A' l' c', .bool b'] NNum
  b2 : Box w (p + 1 + 1) #[.slice none 0 0, .bool false] NNum
  b3 : Box w (p + 1 + 1 + 1) #[.slice none 0 0, .bool false] NNum
  bq : Box w s #[.slice A5 l5 c5, .bool b5] NNum
  br : Box w (s + 1) #[.slice A6 l6 c6, .bool b6] NNum
  yv : NumB w (.agg #[.slice A' l' c', .bool b']) y j
  qv : NumB w (.agg #[.slice A5 l5 c5, .bool b5]) q k
  rv : NumB w (.agg #[.slice A6 l6 c6, .bool b6]) r i
  sp : p + 4 ≤ s
  p0 : w0.heap.size ≤ p
section
variable {w0 w : World} {p s : Nat} {A' : Option Addr} {l' c' : Nat} {b' : Bool} {A5 : Option Addr} {l5 c5 : Nat} {b5 : Bool} {A6 : Option Addr} {l6 c6 : Nat} {b6 : Bool} {y q r : Int} {j k i : Nat}
theorem DZt.new {w' : World} (h : DZt w0 w p s A' l' c' b' A5 l5 c5 b5 A6 l6 c6 b6 y q r j k i) (hn : New w w') : DZt w0 w' p s A' l' c' b' A5 l5 c5 b5 A6 l6 c6 b6 y q r j k i :=
  ⟨h.nw.trans hn, h.bb.new hn, h.b2.new hn, h.b3.new hn, h.bq.new hn, h.br.new hn, h.yv.new hn, h.qv.new hn, h.rv.new hn, h.sp, h.p0⟩
/-- Behind the stores of other numbers. -/
theorem DZt.turn (h : DZt w0 w p s A' l' c' b' A5 l5 c5 b5 A6 l6 c6 b6 y q r j k i) {A7 : Option Addr} {l7 c7 : Nat} {b7 : Bool} {A8 : Option Addr} {l8 c8 : Nat} {b8 : Bool} {q' r' : Int} {k' i' : Nat} (hq : NumB w (.agg #[.slice A7 l7 c7, .bool b7]) q' k') (hr : NumB w (.agg #[.slice A8 l8 c8, .bool b8]) r' i') :
    DZt w0 ((((w.setCell ⟨s, 0, none⟩ (.slice A7 l7 c7)).setCell ⟨s, 1, none⟩ (.bool b7)).setCell ⟨s + 1, 0, none⟩ (.slice A8 l8 c8)).setCell ⟨s + 1, 1, none⟩ (.bool b8)) p s A' l' c' b' A7 l7 c7 b7 A8 l8 c8 b8 y q' r' j k' i' := by
  have hs := h.sp
  have hp := h.p0
  have r2 := (h.br.far (p := s) (i := 0) (by omega) (.slice A7 l7 c7)).far (p := s) (i := 1) (by omega) (.bool b7)
  have q2 := h.bq.lay2 (.slice A7 l7 c7) (.bool b7)
  have far : ∀ {P : Nat} {C : Array Value} {T : TypeId}, Box w P C T → P < s → Box ((((w.setCell ⟨s, 0, none⟩ (.slice A7 l7 c7)).setCell ⟨s, 1, none⟩ (.bool b7)).setCell ⟨s + 1, 0, none⟩ (.slice A8 l8 c8)).setCell ⟨s + 1, 1, none⟩ (.bool b8)) P C T := fun hb hlt =>
    (((hb.far (by omega) _).far (by omega) _).far (by omega) _).far (by omega) _
  refine ⟨New.set2 (New.set2 h.nw (by omega) _ _) (by omega) _ _, far h.bb (by omega), far h.b2 (by omega), far h.b3 (by omega), (q2.far (by omega) _).far (by omega) _, r2.lay2 _ _, (h.yv.lay2 h.bq _ _).lay2 r2 _ _, (hq.lay2 h.bq _ _).lay2 r2 _ _, (hr.lay2 h.bq _ _).lay2 r2 _ _, h.sp, h.p0⟩
end
section
variable {w : World} {u v : Value} {z y : Int} {k j : Nat}
set_option maxRecDepth 100000 in
set_option maxHeartbeats 8000000 in
theorem divmod_n (hz : NumB w u z k) (hy : NumB w v y j) (hk : k ≤ 30000) (hj : j ≤ 30000) :
    Calls Tryz.prog 47 #[u, v] w fun e w' => ∃ q r, e = .returned (.tuple #[q, r, .int .i64 (divI y)]) ∧ NumB w' q (fq z y) (k + 3) ∧ NumB w' r (fr z y) (k + j + 1) ∧ New w w' := by
  obtain ⟨A, l, c, rfl, hv⟩ := hz.form
  obtain ⟨A', l', c', rfl, hv'⟩ := hy.form
  have hqr := fun W (h : New w W) => quorem_n (hz.new h) (hy.new h) (by omega) (by omega)
  have HYB := Lib.hid (fun W (h : New w W) => hy.new h)
  have hzr := fun W v (h : NumB W v (remI z y) k) => zero_n h (by omega)
  have HD1 : Hid (decide ((1 : Int) < 0) = false) := Lib.hid rfl
  have HOF := Lib.hid (fun W => of_n 1 (by omega) (by omega) W)
  have HSB := Lib.hid (fun W u v (h : NumB W u (z.tdiv y) k) (h2 : NumB W v 1 2) => sub_n h h2 (by omega) (by omega))
  have HAD := Lib.hid (fun W u v (h : NumB W u (remI z y) k) (h2 : NumB W v y j) => add_n h h2 (by omega) (by omega))
  have HN := Lib.hid (allocs_new [(#[.slice A l c, .bool (decide (z < 0))], NNum), (#[.slice A' l' c', .bool (decide (y < 0))], NNum), (#[.slice none 0 0, .bool false], NNum), (#[.slice none 0 0, .bool false], NNum)] w)
  have HB := Lib.hid (allocs_bxs [(#[.slice A l c, .bool (decide (z < 0))], NNum), (#[.slice A' l' c', .bool (decide (y < 0))], NNum), (#[.slice none 0 0, .bool false], NNum), (#[.slice none 0 0, .bool false], NNum)] w)
  simp only [allocs] at HN HB
  have hcase : (y = 0 ∧ remI z y = 0) ∨ (y ≠ 0 ∧ remI z y = 0) ∨ (y ≠ 0 ∧ remI z y ≠ 0 ∧ (decide (remI z y < 0) == decide (y < 0)) = true) ∨ (y ≠ 0 ∧ remI z y ≠ 0 ∧ (decide (remI z y < 0) == decide (y < 0)) = false) := by
    by_cases h1 : y = 0
    · exact .inl ⟨h1, by unfold remI; rw [if_pos h1]⟩
    · by_cases h2 : remI z y = 0
      · exact .inr (.inl ⟨h1, h2⟩)
      · cases h3 : (decide (remI z y < 0) == decide (y < 0)) <;> simp [h1, h2]
  rcases hcase with ⟨h1, h2⟩ | ⟨h1, h2⟩ | ⟨h1, h2, h3⟩ | ⟨h1, h2, h3⟩
  · have e0 : stepZ z y = false := by unfold stepZ; rw [h2]; rfl
    have e2 : fq z y = z.tdiv y := by unfold fq; rw [if_neg (by rw [e0]; decide)]
    have e3 : fr z y = 0 := by unfold fr; rw [if_neg (by rw [e0]; decide)] ; exact h2
    rw [e2, e3]
    clear e0 e2 e3
    rw [show divI y = 12 by unfold divI; rw [if_pos h1]] at hqr ⊢
    rw [h2] at hqr hzr
    clear HOF HSB HAD h1 h2
    have HQR := Lib.hid hqr
    have HZR := Lib.hid hzr
    clear hqr hzr hv hv' hz hy
    generalize decide (z < 0) = b at *
    generalize decide (y < 0) = b' at *
    go_enter Tryz.func47, Tryz.ntmps47
    go_wp2_with fail
    refine (HQR.out _ HN.out).mono ?_
    rintro e w5 ⟨q5, r5, rfl, hq5, hr5, hn5⟩
    obtain ⟨A5, l5, c5, rfl, _⟩ := hq5.form
    obtain ⟨A6, l6, c6, rfl, _⟩ := hr5.form
    generalize decide (z.tdiv y < 0) = b5 at *
    generalize hb6 : decide ((0 : Int) < 0) = b6 at *
    clear hb6
    have hs5' := (HB.out.new hn5).lt (by simp)
    simp only [List.length_cons, List.length_nil] at hs5'
    have hn6 := (hn5.alloc (.cells #[.slice A5 l5 c5, .bool b5] NNum)).alloc (.cells #[.slice A6 l6 c6, .bool b6] NNum)
    have hn6' := ((New.refl w5).alloc (.cells #[.slice A5 l5 c5, .bool b5] NNum)).alloc (.cells #[.slice A6 l6 c6, .bool b6] NNum)
    have ST := Lib.hid (show DZt w ((w5.alloc (.cells #[.slice A5 l5 c5, .bool b5] NNum)).alloc (.cells #[.slice A6 l6 c6, .bool b6] NNum)) w.heap.size w5.heap.size A' l' c' b' A5 l5 c5 b5 A6 l6 c6 b6 y (z.tdiv y) 0 j k k from
      let hb := HB.out.new hn6
      ⟨HN.out.trans hn6, hb.2.1, hb.2.2.1, hb.2.2.2.1, (Box.last w5 _ _).alloc _, Box.last2 w5 _ _ _, HYB.out _ (HN.out.trans hn6), hq5.new hn6', hr5.new hn6', by omega, Nat.le_refl _⟩)
    clear hq5 hr5 hn6 hn6' HN HB HQR HYB hn5 hs5'
    generalize hW : (w5.alloc (.cells #[.slice A5 l5 c5, .bool b5] NNum)).alloc (.cells #[.slice A6 l6 c6, .bool b6] NNum) = W at *
    obtain ⟨m0, m1⟩ := ST.out.bb.cells2
    obtain ⟨m4, m5, m6, m7⟩ := ST.out.bq.two
    obtain ⟨m12, m13, m14, m15⟩ := ST.out.b2.two
    obtain ⟨m16, m17, m18, m19⟩ := ST.out.b3.two
    obtain ⟨m8, m9, m10, m11⟩ := ST.out.br.two
    go_wp2_with fail
    first | rw [hW] | skip
    clear hW
    have hne1 := ST.out.sp
    have hm1 : ¬ w5.heap.size = w.heap.size + 1 + 1 := by omega
    have hm2 : ¬ w5.heap.size + 1 = w.heap.size + 1 + 1 := by omega
    have hm3 : ¬ w5.heap.size = w.heap.size + 1 + 1 + 1 := by omega
    have hm4 : ¬ w5.heap.size + 1 = w.heap.size + 1 + 1 + 1 := by omega
    clear hne1
    obtain ⟨gv, gn, g0, g1, g2, g3, g4, g5⟩ := lay_pair ST.out.b2 ST.out.b3 (by omega) (by omega) (by omega) ST.out.nw (.slice A5 l5 c5) (.bool b5) (.slice A6 l6 c6) (.bool b6)
    have GQ := Lib.hid (gv ST.out.qv)
    have GR := Lib.hid (gv ST.out.rv)
    have GN := Lib.hid gn
    clear gv gn
    go_region
    all_goals
      go_wp2
      refine bodyPost_ret (v := .tuple #[.agg #[.slice A5 l5 c5, .bool b5], .agg #[.slice A6 l6 c6, .bool b6], .int .i64 12]) (by simp [results, Tryz.results47, go_sem, g2, g3, g4, g5]) rfl ⟨_, _, rfl, by first | exact NumB.more GQ.out (by omega) | exact NumB.more (GQ.out.new (New.refl _).drew) (by omega), by first | exact NumB.more GR.out (by omega) | exact NumB.more (GR.out.new (New.refl _).drew) (by omega), by first | exact GN.out | exact GN.out.drew⟩
  · have e0 : stepZ z y = false := by unfold stepZ; rw [h2]; rfl
    have e2 : fq z y = z.tdiv y := by unfold fq; rw [if_neg (by rw [e0]; decide)]
    have e3 : fr z y = 0 := by unfold fr; rw [if_neg (by rw [e0]; decide)] ; exact h2
    rw [e2, e3]
    clear e0 e2 e3
    rw [show divI y = 0 by unfold divI; rw [if_neg h1]] at hqr ⊢
    rw [h2] at hqr hzr
    rw [show decide ((0 : Int) = 0) = true from rfl] at hzr
    clear HOF HSB HAD h1 h2
    have HQR := Lib.hid hqr
    have HZR := Lib.hid hzr
    clear hqr hzr hv hv' hz hy
    generalize decide (z < 0) = b at *
    generalize decide (y < 0) = b' at *
    go_enter Tryz.func47, Tryz.ntmps47
    go_wp2_with fail
    refine (HQR.out _ HN.out).mono ?_
    rintro e w5 ⟨q5, r5, rfl, hq5, hr5, hn5⟩
    obtain ⟨A5, l5, c5, rfl, _⟩ := hq5.form
    obtain ⟨A6, l6, c6, rfl, _⟩ := hr5.form
    generalize decide (z.tdiv y < 0) = b5 at *
    generalize hb6 : decide ((0 : Int) < 0) = b6 at *
    clear hb6
    have hs5' := (HB.out.new hn5).lt (by simp)
    simp only [List.length_cons, List.length_nil] at hs5'
    have hn6 := (hn5.alloc (.cells #[.slice A5 l5 c5, .bool b5] NNum)).alloc (.cells #[.slice A6 l6 c6, .bool b6] NNum)
    have hn6' := ((New.refl w5).alloc (.cells #[.slice A5 l5 c5, .bool b5] NNum)).alloc (.cells #[.slice A6 l6 c6, .bool b6] NNum)
    have ST := Lib.hid (show DZt w ((w5.alloc (.cells #[.slice A5 l5 c5, .bool b5] NNum)).alloc (.cells #[.slice A6 l6 c6, .bool b6] NNum)) w.heap.size w5.heap.size A' l' c' b' A5 l5 c5 b5 A6 l6 c6 b6 y (z.tdiv y) 0 j k k from
      let hb := HB.out.new hn6
      ⟨HN.out.trans hn6, hb.2.1, hb.2.2.1, hb.2.2.2.1, (Box.last w5 _ _).alloc _, Box.last2 w5 _ _ _, HYB.out _ (HN.out.trans hn6), hq5.new hn6', hr5.new hn6', by omega, Nat.le_refl _⟩)
    clear hq5 hr5 hn6 hn6' HN HB HQR HYB hn5 hs5'
    generalize hW : (w5.alloc (.cells #[.slice A5 l5 c5, .bool b5] NNum)).alloc (.cells #[.slice A6 l6 c6, .bool b6] NNum) = W at *
    obtain ⟨m0, m1⟩ := ST.out.bb.cells2
    obtain ⟨m4, m5, m6, m7⟩ := ST.out.bq.two
    obtain ⟨m8, m9, m10, m11⟩ := ST.out.br.two
    go_wp2_with fail
    first | rw [hW] | skip
    clear hW
    refine (HZR.out _ _ ST.out.rv).mono ?_
    rintro e w7 ⟨rfl, hn7⟩
    replace ST := Lib.hid (ST.out.new hn7)
    clear m0 m1 m4 m5 m6 m7 m8 m9 m10 m11 hn7 HZR
    obtain ⟨m0, m1⟩ := ST.out.bb.cells2
    obtain ⟨m4, m5, m6, m7⟩ := ST.out.bq.two
    obtain ⟨m8, m9, m10, m11⟩ := ST.out.br.two
    obtain ⟨m12, m13, m14, m15⟩ := ST.out.b2.two
    obtain ⟨m16, m17, m18, m19⟩ := ST.out.b3.two
    go_wp2_with fail
    have hne1 := ST.out.sp
    have hm1 : ¬ w5.heap.size = w.heap.size + 1 + 1 := by omega
    have hm2 : ¬ w5.heap.size + 1 = w.heap.size + 1 + 1 := by omega
    have hm3 : ¬ w5.heap.size = w.heap.size + 1 + 1 + 1 := by omega
    have hm4 : ¬ w5.heap.size + 1 = w.heap.size + 1 + 1 + 1 := by omega
    clear hne1
    obtain ⟨gv, gn, g0, g1, g2, g3, g4, g5⟩ := lay_pair ST.out.b2 ST.out.b3 (by omega) (by omega) (by omega) ST.out.nw (.slice A5 l5 c5) (.bool b5) (.slice A6 l6 c6) (.bool b6)
    have GQ := Lib.hid (gv ST.out.qv)
    have GR := Lib.hid (gv ST.out.rv)
    have GN := Lib.hid gn
    clear gv gn
    go_region
    all_goals
      go_wp2
      refine bodyPost_ret (v := .tuple #[.agg #[.slice A5 l5 c5, .bool b5], .agg #[.slice A6 l6 c6, .bool b6], .int .i64 0]) (by simp [results, Tryz.results47, go_sem, g2, g3, g4, g5]) rfl ⟨_, _, rfl, by first | exact NumB.more GQ.out (by omega) | exact NumB.more (GQ.out.new (New.refl _).drew) (by omega), by first | exact NumB.more GR.out (by omega) | exact NumB.more (GR.out.new (New.refl _).drew) (by omega), by first | exact GN.out | exact GN.out.drew⟩
  · have e0 : stepZ z y = false := by unfold stepZ; rw [h3]; simp
    have e2 : fq z y = z.tdiv y := by unfold fq; rw [if_neg (by rw [e0]; decide)]
    have e3 : fr z y = remI z y := by unfold fr; rw [if_neg (by rw [e0]; decide)]
    rw [e2, e3]
    clear e0 e2 e3
    rw [show divI y = 0 by unfold divI; rw [if_neg h1]] at hqr ⊢
    rw [decide_eq_false h2] at hzr
    clear HOF HSB HAD h1 h2
    have HQR := Lib.hid hqr
    have HZR := Lib.hid hzr
    clear hqr hzr hv hv' hz hy
    generalize decide (z < 0) = b at *
    generalize decide (y < 0) = b' at *
    generalize hb6 : decide (remI z y < 0) = b6 at *
    have HB6 := Lib.hid hb6
    clear hb6
    go_enter Tryz.func47, Tryz.ntmps47
    go_wp2_with fail
    refine (HQR.out _ HN.out).mono ?_
    rintro e w5 ⟨q5, r5, rfl, hq5, hr5, hn5⟩
    obtain ⟨A5, l5, c5, rfl, _⟩ := hq5.form
    obtain ⟨A6, l6, c6, rfl, _⟩ := hr5.form
    rw [HB6.out] at hr5 ⊢
    generalize decide (z.tdiv y < 0) = b5 at *
    have hs5' := (HB.out.new hn5).lt (by simp)
    simp only [List.length_cons, List.length_nil] at hs5'
    have hn6 := (hn5.alloc (.cells #[.slice A5 l5 c5, .bool b5] NNum)).alloc (.cells #[.slice A6 l6 c6, .bool b6] NNum)
    have hn6' := ((New.refl w5).alloc (.cells #[.slice A5 l5 c5, .bool b5] NNum)).alloc (.cells #[.slice A6 l6 c6, .bool b6] NNum)
    have ST := Lib.hid (show DZt w ((w5.alloc (.cells #[.slice A5 l5 c5, .bool b5] NNum)).alloc (.cells #[.slice A6 l6 c6, .bool b6] NNum)) w.heap.size w5.heap.size A' l' c' b' A5 l5 c5 b5 A6 l6 c6 b6 y (z.tdiv y) (remI z y) j k k from
      let hb := HB.out.new hn6
      ⟨HN.out.trans hn6, hb.2.1, hb.2.2.1, hb.2.2.2.1, (Box.last w5 _ _).alloc _, Box.last2 w5 _ _ _, HYB.out _ (HN.out.trans hn6), hq5.new hn6', hr5.new hn6', by omega, Nat.le_refl _⟩)
    clear hq5 hr5 hn6 hn6' HN HB HQR HYB hn5 hs5'
    generalize hW : (w5.alloc (.cells #[.slice A5 l5 c5, .bool b5] NNum)).alloc (.cells #[.slice A6 l6 c6, .bool b6] NNum) = W at *
    obtain ⟨m0, m1⟩ := ST.out.bb.cells2
    obtain ⟨m4, m5, m6, m7⟩ := ST.out.bq.two
    obtain ⟨m8, m9, m10, m11⟩ := ST.out.br.two
    go_wp2_with fail
    first | rw [hW] | skip
    clear hW
    refine (HZR.out _ _ ST.out.rv).mono ?_
    rintro e w7 ⟨rfl, hn7⟩
    replace ST := Lib.hid (ST.out.new hn7)
    clear m0 m1 m4 m5 m6 m7 m8 m9 m10 m11 hn7 HZR
    obtain ⟨m0, m1⟩ := ST.out.bb.cells2
    obtain ⟨m4, m5, m6, m7⟩ := ST.out.bq.two
    obtain ⟨m8, m9, m10, m11⟩ := ST.out.br.two
    obtain ⟨m12, m13, m14, m15⟩ := ST.out.b2.two
    obtain ⟨m16, m17, m18, m19⟩ := ST.out.b3.two
    go_wp2_with fail
    have hne1 := ST.out.sp
    have hm1 : ¬ w5.heap.size = w.heap.size + 1 + 1 := by omega
    have hm2 : ¬ w5.heap.size + 1 = w.heap.size + 1 + 1 := by omega
    have hm3 : ¬ w5.heap.size = w.heap.size + 1 + 1 + 1 := by omega
    have hm4 : ¬ w5.heap.size + 1 = w.heap.size + 1 + 1 + 1 := by omega
    clear hne1
    obtain ⟨gv, gn, g0, g1, g2, g3, g4, g5⟩ := lay_pair ST.out.b2 ST.out.b3 (by omega) (by omega) (by omega) ST.out.nw (.slice A5 l5 c5) (.bool b5) (.slice A6 l6 c6) (.bool b6)
    have GQ := Lib.hid (gv ST.out.qv)
    have GR := Lib.hid (gv ST.out.rv)
    have GN := Lib.hid gn
    clear gv gn
    go_region
    all_goals
      go_wp2
      refine bodyPost_ret (v := .tuple #[.agg #[.slice A5 l5 c5, .bool b5], .agg #[.slice A6 l6 c6, .bool b6], .int .i64 0]) (by simp [results, Tryz.results47, go_sem, g2, g3, g4, g5]) rfl ⟨_, _, rfl, by first | exact NumB.more GQ.out (by omega) | exact NumB.more (GQ.out.new (New.refl _).drew) (by omega), by first | exact NumB.more GR.out (by omega) | exact NumB.more (GR.out.new (New.refl _).drew) (by omega), by first | exact GN.out | exact GN.out.drew⟩
  · have e0 : stepZ z y = true := by unfold stepZ; rw [h3, decide_eq_false h2]; rfl
    have e2 : fq z y = z.tdiv y - 1 := by unfold fq; rw [if_pos e0]
    have e3 : fr z y = remI z y + y := by unfold fr; rw [if_pos e0]
    rw [e2, e3]
    clear e0 e2 e3
    rw [show divI y = 0 by unfold divI; rw [if_neg h1]] at hqr ⊢
    rw [decide_eq_false h2] at hzr
    clear h1 h2
    have HQR := Lib.hid hqr
    have HZR := Lib.hid hzr
    clear hqr hzr hv hv' hz hy
    generalize decide (z < 0) = b at *
    generalize decide (y < 0) = b' at *
    generalize hb6 : decide (remI z y < 0) = b6 at *
    have HB6 := Lib.hid hb6
    clear hb6
    go_enter Tryz.func47, Tryz.ntmps47
    go_wp2_with fail
    refine (HQR.out _ HN.out).mono ?_
    rintro e w5 ⟨q5, r5, rfl, hq5, hr5, hn5⟩
    obtain ⟨A5, l5, c5, rfl, _⟩ := hq5.form
    obtain ⟨A6, l6, c6, rfl, _⟩ := hr5.form
    rw [HB6.out] at hr5 ⊢
    generalize decide (z.tdiv y < 0) = b5 at *
    have hs5' := (HB.out.new hn5).lt (by simp)
    simp only [List.length_cons, List.length_nil] at hs5'
    have hn6 := (hn5.alloc (.cells #[.slice A5 l5 c5, .bool b5] NNum)).alloc (.cells #[.slice A6 l6 c6, .bool b6] NNum)
    have hn6' := ((New.refl w5).alloc (.cells #[.slice A5 l5 c5, .bool b5] NNum)).alloc (.cells #[.slice A6 l6 c6, .bool b6] NNum)
    have ST := Lib.hid (show DZt w ((w5.alloc (.cells #[.slice A5 l5 c5, .bool b5] NNum)).alloc (.cells #[.slice A6 l6 c6, .bool b6] NNum)) w.heap.size w5.heap.size A' l' c' b' A5 l5 c5 b5 A6 l6 c6 b6 y (z.tdiv y) (remI z y) j k k from
      let hb := HB.out.new hn6
      ⟨HN.out.trans hn6, hb.2.1, hb.2.2.1, hb.2.2.2.1, (Box.last w5 _ _).alloc _, Box.last2 w5 _ _ _, HYB.out _ (HN.out.trans hn6), hq5.new hn6', hr5.new hn6', by omega, Nat.le_refl _⟩)
    clear hq5 hr5 hn6 hn6' HN HB HQR HYB hn5 hs5'
    generalize hW : (w5.alloc (.cells #[.slice A5 l5 c5, .bool b5] NNum)).alloc (.cells #[.slice A6 l6 c6, .bool b6] NNum) = W at *
    obtain ⟨m0, m1⟩ := ST.out.bb.cells2
    obtain ⟨m4, m5, m6, m7⟩ := ST.out.bq.two
    obtain ⟨m8, m9, m10, m11⟩ := ST.out.br.two
    go_wp2_with fail
    first | rw [hW] | skip
    clear hW
    refine (HZR.out _ _ ST.out.rv).mono ?_
    rintro e w7 ⟨rfl, hn7⟩
    replace ST := Lib.hid (ST.out.new hn7)
    clear m0 m1 m4 m5 m6 m7 m8 m9 m10 m11 hn7 HZR
    obtain ⟨m0, m1⟩ := ST.out.bb.cells2
    obtain ⟨m4, m5, m6, m7⟩ := ST.out.bq.two
    obtain ⟨m8, m9, m10, m11⟩ := ST.out.br.two
    obtain ⟨m12, m13, m14, m15⟩ := ST.out.b2.two
    obtain ⟨m16, m17, m18, m19⟩ := ST.out.b3.two
    go_wp2_with fail
    go_region_law ((rw [if_pos (by rfl)]; (first | go_big_op | go_simp); first
      | (with_reducible (refine (HOF.out _).mono ?_); rintro e w8 ⟨v8, rfl, hv8, hn8⟩; obtain ⟨A8, l8, c8, rfl, _⟩ := hv8.form; rw [HD1.out] at hv8; have st8 := ST.out.new (((New.refl _).drew).trans hn8); obtain ⟨r0, r1⟩ := st8.bb.cells2; obtain ⟨r4, r5, r6, r7⟩ := st8.bq.two; obtain ⟨r8, r9, r10, r11⟩ := st8.br.two)
      | (with_reducible (refine (HSB.out _ _ _ st8.qv hv8).mono ?_); rintro e w9 ⟨v9, rfl, hv9, hn9⟩; obtain ⟨A9, l9, c9, rfl, _⟩ := hv9.form; have st9 := st8.new hn9; obtain ⟨s0, s1⟩ := st9.bb.cells2; obtain ⟨s4, s5, s6, s7⟩ := st9.bq.two; obtain ⟨s8, s9, s10, s11⟩ := st9.br.two)
      | (with_reducible (refine (HAD.out _ _ _ st9.rv st9.yv).mono ?_); rintro e w10 ⟨v10, rfl, hv10, hn10⟩; obtain ⟨A10, l10, c10, rfl, _⟩ := hv10.form; have st10 := st9.new hn10; obtain ⟨t0, t1⟩ := st10.bb.cells2; obtain ⟨t4, t5, t6, t7⟩ := st10.bq.two; obtain ⟨t8, t9, t10, t11⟩ := st10.br.two)))
    all_goals
      generalize decide (z.tdiv y - 1 < 0) = b9 at *
      generalize decide (remI z y + y < 0) = b10 at *
      have st11 := st10.turn (hv9.new hn10) hv10
      clear ST
      have ST := Lib.hid st11
      obtain ⟨m4, m5, m6, m7⟩ := ST.out.bq.two
      obtain ⟨m8, m9, m10, m11⟩ := ST.out.br.two
      obtain ⟨m12, m13, m14, m15⟩ := ST.out.b2.two
      obtain ⟨m16, m17, m18, m19⟩ := ST.out.b3.two
      clear st8 st9 st10 st11 hv8 hv9 hv10 hn8 hn9 hn10 HOF HSB HAD
      clear r0 r1 r4 r5 r6 r7 r8 r9 r10 r11 s0 s1 s4 s5 s6 s7 s8 s9 s10 s11 t0 t1 t4 t5 t6 t7 t8 t9 t10 t11
      go_wp2
      generalize hV : (((w10.setCell ⟨w5.heap.size, 0, none⟩ (.slice A9 l9 c9)).setCell ⟨w5.heap.size, 1, none⟩ (.bool b9)).setCell ⟨w5.heap.size + 1, 0, none⟩ (.slice A10 l10 c10)).setCell ⟨w5.heap.size + 1, 1, none⟩ (.bool b10) = V at *
      clear hV
      clear m0 m1
      have hne1 := ST.out.sp
      have hm1 : ¬ w5.heap.size = w.heap.size + 1 + 1 := by omega
      have hm2 : ¬ w5.heap.size + 1 = w.heap.size + 1 + 1 := by omega
      have hm3 : ¬ w5.heap.size = w.heap.size + 1 + 1 + 1 := by omega
      have hm4 : ¬ w5.heap.size + 1 = w.heap.size + 1 + 1 + 1 := by omega
      clear hne1
      obtain ⟨gv, gn, g0, g1, g2, g3, g4, g5⟩ := lay_pair ST.out.b2 ST.out.b3 (by omega) (by omega) (by omega) ST.out.nw (.slice A9 l9 c9) (.bool b9) (.slice A10 l10 c10) (.bool b10)
      have GQ := Lib.hid (gv ST.out.qv)
      have GR := Lib.hid (gv ST.out.rv)
      have GN := Lib.hid gn
      clear gv gn
      go_region
      all_goals
        go_wp2
        refine bodyPost_ret (v := .tuple #[.agg #[.slice A9 l9 c9, .bool b9], .agg #[.slice A10 l10 c10, .bool b10], .int .i64 0]) (by simp [results, Tryz.results47, go_sem, g2, g3, g4, g5]) rfl ⟨_, _, rfl, by first | exact NumB.more GQ.out (by omega) | exact NumB.more (GQ.out.new (New.refl _).drew) (by omega), by first | exact NumB.more GR.out (by omega) | exact NumB.more (GR.out.new (New.refl _).drew) (by omega), by first | exact GN.out | exact GN.out.drew⟩
end
end Go.Proofs.YtkjlmibleoecgaaGreatDoor
