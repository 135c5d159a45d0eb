/- The reference of nat, part 14: DivMod, whole. -/
import Derived.Test.YtkjlmibleoecgaaGreatDoorqRef13
namespace Go.Proofs.YtkjlmibleoecgaaGreatDoor
set_option linter.unusedSimpArgs false
set_option linter.unusedVariables false
open Go.RowKit
set_option maxRecDepth 100000 in
set_option maxHeartbeats 4000000 in
theorem rdivmod_zero {x : Nat} {u v : Value} {w : World} (hx : RefV w u x) (hy : RefV w v 0) :
    Calls Tryz.prog 15 #[u, v] w fun e w' => ∃ q r, e = .returned (.tuple #[q, r, .int .i64 12]) ∧ RefV w' q 0 ∧ RefV w' r 0 ∧ New w w' := by
  obtain ⟨A, l, c, rfl⟩ := hx.form
  obtain ⟨_, rfl, A', c', rfl, hc', hmax', hr'⟩ := hy
  rw [dg_zero] at hc' hr' ⊢
  simp only [List.length_nil] at *
  have HN3 := Lib.hid (fun o1 o2 o3 o4 => (((New.refl w).alloc o1).alloc o2 |>.alloc o3).alloc o4)
  clear hr' hmax' hc' hx
  go_enter Tryz.func15, Tryz.ntmps15
  go_wp2
  exact bodyPost_ret (v := .tuple #[.agg #[.slice none 0 0], .agg #[.slice none 0 0], .int .i64 12]) (by simp [results, Tryz.results15, go_sem]) rfl ⟨_, _, rfl, RefV.zero _, RefV.zero _, HN3.out _ _ _ _⟩
/-- Behind the allocs: the boxes of quotient and rest. -/
structure R1St (w0 w : World) (p s7 s8 : Nat) (q r : Nat) (A5 : Option Addr) (l5 c5 : Nat) (A6 : Option Addr) (l6 c6 : Nat) : Prop where
  nw : New w0 w
  b2 : Box w (p + 1 + 1) #[.slice none 0 0] RNat
  b3 : Box w (p + 1 + 1 + 1) #[.slice none 0 0] RNat
  b7 : Box w s7 #[.slice A5 l5 c5] RNat
  b8 : Box w s8 #[.slice A6 l6 c6] RNat
  qv : RefV w (.agg #[.slice A5 l5 c5]) q
  rv : RefV w (.agg #[.slice A6 l6 c6]) r
  h7 : p + 4 ≤ s7
  h8 : p + 4 ≤ s8
/-- Ahead of them. -/
structure R1Be (w0 w : World) (p : Nat) (q r : Nat) (A5 : Option Addr) (l5 c5 : Nat) (A6 : Option Addr) (l6 c6 : Nat) : Prop where
  nw : New w0 w
  b2 : Box w (p + 1 + 1) #[.slice none 0 0] RNat
  b3 : Box w (p + 1 + 1 + 1) #[.slice none 0 0] RNat
  qv : RefV w (.agg #[.slice A5 l5 c5]) q
  rv : RefV w (.agg #[.slice A6 l6 c6]) r
  p0 : w0.heap.size ≤ p
section
variable {w0 w : World} {p q r : Nat} {A5 : Option Addr} {l5 c5 : Nat} {A6 : Option Addr} {l6 c6 : Nat}
theorem R1Be.lt (h : R1Be w0 w p q r A5 l5 c5 A6 l6 c6) : p + 4 ≤ w.heap.size := by have := h.b3.lt; omega
theorem R1Be.new {w' : World} (h : R1Be w0 w p q r A5 l5 c5 A6 l6 c6) (hn : New w w') : R1Be w0 w' p q r A5 l5 c5 A6 l6 c6 := ⟨h.nw.trans hn, h.b2.new hn, h.b3.new hn, h.qv.new hn, h.rv.new hn, h.p0⟩
theorem R1Be.set {x v : Value} {s : Nat} (h : R1Be w0 w p q r A5 l5 c5 A6 l6 c6) (hs : p + 4 ≤ s) (hb : Box w s #[x] RNat) : R1Be w0 (w.setCell ⟨s, 0, none⟩ v) p q r A5 l5 c5 A6 l6 c6 :=
  ⟨h.nw.setCell (p := ⟨s, 0, none⟩) (by have := h.p0; simp; omega) _, h.b2.far (by omega) _, h.b3.far (by omega) _, h.qv.set hb (by decide) _, h.rv.set hb (by decide) _, h.p0⟩
theorem R1Be.st {s7 s8 : Nat} (h : R1Be w0 w p q r A5 l5 c5 A6 l6 c6) (h7 : p + 4 ≤ s7) (h8 : p + 4 ≤ s8) (b7 : Box w s7 #[.slice A5 l5 c5] RNat) (b8 : Box w s8 #[.slice A6 l6 c6] RNat) : R1St w0 w p s7 s8 q r A5 l5 c5 A6 l6 c6 := ⟨h.nw, h.b2, h.b3, b7, b8, h.qv, h.rv, h7, h8⟩
theorem R1Be.aa (h : R1Be w0 w p q r A5 l5 c5 A6 l6 c6) : R1St w0 ((w.alloc (.cells #[.slice A5 l5 c5] RNat)).alloc (.cells #[.slice A6 l6 c6] RNat)) p w.heap.size (w.heap.size + 1) q r A5 l5 c5 A6 l6 c6 :=
  (h.new (((New.refl w).alloc _).alloc _)).st h.lt (by have := h.lt; omega) ((Box.last w _ _).alloc _) (Box.last2 w _ _ _)
theorem R1Be.ab (h : R1Be w0 w p q r A5 l5 c5 A6 l6 c6) : R1St w0 ((w.alloc (.cells #[.slice A6 l6 c6] RNat)).alloc (.cells #[.slice A5 l5 c5] RNat)) p (w.heap.size + 1) w.heap.size q r A5 l5 c5 A6 l6 c6 :=
  (h.new (((New.refl w).alloc _).alloc _)).st (by have := h.lt; omega) h.lt (Box.last2 w _ _ _) ((Box.last w _ _).alloc _)
theorem R1Be.sa {x : Value} {s : Nat} (h : R1Be w0 w p q r A5 l5 c5 A6 l6 c6) (hb : Box w s #[x] RNat) (hs : p + 4 ≤ s) : R1St w0 ((w.setCell ⟨s, 0, none⟩ (.slice A5 l5 c5)).alloc (.cells #[.slice A6 l6 c6] RNat)) p s w.heap.size q r A5 l5 c5 A6 l6 c6 :=
  ((h.set hs hb).new ((New.refl _).alloc _)).st hs h.lt ((hb.set 0 _).alloc _) (by have := Box.last (w.setCell ⟨s, 0, none⟩ (.slice A5 l5 c5)) #[.slice A6 l6 c6] RNat; simpa using this)
theorem R1Be.sb {x : Value} {s : Nat} (h : R1Be w0 w p q r A5 l5 c5 A6 l6 c6) (hb : Box w s #[x] RNat) (hs : p + 4 ≤ s) : R1St w0 ((w.setCell ⟨s, 0, none⟩ (.slice A6 l6 c6)).alloc (.cells #[.slice A5 l5 c5] RNat)) p w.heap.size s q r A5 l5 c5 A6 l6 c6 :=
  ((h.set hs hb).new ((New.refl _).alloc _)).st h.lt hs (by have := Box.last (w.setCell ⟨s, 0, none⟩ (.slice A6 l6 c6)) #[.slice A5 l5 c5] RNat; simpa using this) ((hb.set 0 _).alloc _)
theorem R1Be.ss {x x' : Value} {s s' : Nat} (h : R1Be w0 w p q r A5 l5 c5 A6 l6 c6) (hb : Box w s #[x] RNat) (hb' : Box w s' #[x'] RNat) (hs : p + 4 ≤ s) (hs' : p + 4 ≤ s') (hne : s ≠ s') : R1St w0 ((w.setCell ⟨s, 0, none⟩ (.slice A5 l5 c5)).setCell ⟨s', 0, none⟩ (.slice A6 l6 c6)) p s s' q r A5 l5 c5 A6 l6 c6 :=
  ((h.set hs hb).set hs' (hb'.far hne.symm _)).st hs hs' ((hb.set 0 _).far hne _) ((hb'.far hne.symm _).set 0 _)
theorem R1St.name {s7 s8 : Nat} {Q : Prop} (h : R1St w0 w p s7 s8 q r A5 l5 c5 A6 l6 c6) (k : ∀ V, V = w → R1St w0 V p s7 s8 q r A5 l5 c5 A6 l6 c6 → Q) : Q := k w rfl h
theorem R1St.ne {s7 s8 : Nat} (h : R1St w0 w p s7 s8 q r A5 l5 c5 A6 l6 c6) : ¬ s7 = p + 1 + 1 ∧ ¬ s7 = p + 1 + 1 + 1 ∧ ¬ s8 = p + 1 + 1 ∧ ¬ s8 = p + 1 + 1 + 1 := by have := h.h7; have := h.h8; omega
end
set_option maxRecDepth 1000000 in
set_option maxHeartbeats 4000000 in
theorem rdivmod_one {x y : Nat} {u v : Value} {w : World} (hx : RefV w u x) (hy : RefV w v y) (hl : (dg B9 x).length ≤ 400000) (hn : (dg B9 y).length = 1) :
    Calls Tryz.prog 15 #[u, v] w fun e w' => ∃ q r, e = .returned (.tuple #[q, r, .int .i64 0]) ∧ RefV w' q (x / y) ∧ RefV w' r (x % y) ∧ New w w' := by
  obtain ⟨A, m, c, rfl⟩ := hx.form
  have hx0 := hx
  obtain ⟨_, rfl, A', c', rfl, hc', hmax', hr'⟩ := hy
  have hyv : (dg B9 y).getD 0 0 = y := by
    have h1 := dg_val B9_2 y
    match h : dg B9 y, hn with
    | [d], _ => rw [h] at h1; simpa [val] using h1
  obtain ⟨b', o', C', fr', rfl, hbl', hcell'⟩ := hr' 0 (by omega)
  have hyB : y < B9 := by rw [← hyv]; exact dg_lt B9_2 y _ (getD_mem (by omega))
  have hy1 : 0 < y := by
    rcases Nat.eq_zero_or_pos y with rfl | h
    · rw [dg_zero] at hn; cases hn
    · exact h
  rw [hyv, Nat.add_zero] at hcell'
  rw [hn]
  have HPT := Lib.hid (fun W (h : New w W) => rone_c (hx0.new h) hy1 hyB (by omega))
  have HN3 := Lib.hid ((((New.refl w).alloc (.cells #[.slice A m c] RNat)).alloc (.cells #[.slice (some ⟨b', o', none⟩) 1 c'] RNat) |>.alloc (.cells #[.slice none 0 0] RNat)).alloc (.cells #[.slice none 0 0] RNat))
  have HB0 := Lib.hid ((((Box.last w #[.slice A m c] RNat).alloc (.cells #[.slice (some ⟨b', o', none⟩) 1 c'] RNat)).alloc (.cells #[.slice none 0 0] RNat)).alloc (.cells #[.slice none 0 0] RNat))
  have HB1 := Lib.hid (((Box.last2 w (.cells #[.slice A m c] RNat) #[.slice (some ⟨b', o', none⟩) 1 c'] RNat).alloc (.cells #[.slice none 0 0] RNat)).alloc (.cells #[.slice none 0 0] RNat))
  have HB2 := Lib.hid ((Box.last3 w (.cells #[.slice A m c] RNat) (.cells #[.slice (some ⟨b', o', none⟩) 1 c'] RNat) #[.slice none 0 0] RNat).alloc (.cells #[.slice none 0 0] RNat))
  have HB3 := Lib.hid (Box.last3 (w.alloc (.cells #[.slice A m c] RNat)) (.cells #[.slice (some ⟨b', o', none⟩) 1 c'] RNat) (.cells #[.slice none 0 0] RNat) #[.slice none 0 0] RNat)
  have HCELL := Lib.hid hcell'
  clear hr' hbl' hcell' hx0 hx hl hmax' hc' hyv
  go_enter Tryz.func15, Tryz.ntmps15
  go_wp2
  generalize hW : (((w.alloc (.cells #[.slice A m c] RNat)).alloc (.cells #[.slice (some ⟨b', o', none⟩) 1 c'] RNat)).alloc (.cells #[.slice none 0 0] RNat)).alloc (.cells #[.slice none 0 0] RNat) = W at *
  have hb0 := HB0.out
  have hb1 := HB1.out
  obtain ⟨c0, _⟩ := rbox_cell0 hb0
  obtain ⟨c1, _⟩ := rbox_cell0 hb1
  have cc := HN3.out.still HCELL.out
  clear hW hb0 hb1
  have cca := fun o1 => ((New.refl W).alloc o1).still cc
  have c0a := fun o1 => ((New.refl W).alloc o1).still c0
  have c0b := fun o1 o2 => (((New.refl W).alloc o1).alloc o2).still c0
  have c1a := fun o1 => ((New.refl W).alloc o1).still c1
  have c1b := fun o1 o2 => (((New.refl W).alloc o1).alloc o2).still c1
  have ccb := fun o1 o2 => (((New.refl W).alloc o1).alloc o2).still cc
  go_region_law ((rw [if_pos (by rfl)]; (first | go_big_op | go_simp); (with_reducible (refine (HPT.out _ (HN3.out.trans (by first | exact (New.refl _).drew | exact ((New.refl _).alloc _).drew | exact (((New.refl _).alloc _).alloc _).drew))).mono ?_)); rintro e w5 ⟨q5, r5, rfl, hq5, hr5, hn5⟩; obtain ⟨A5, l5, c5, rfl⟩ := hq5.form; obtain ⟨A6, l6, c6, rfl⟩ := hr5.form; first
      | (have hb7 := Box.new hn5 (Box.new (New.refl _).drew ((Box.last W #[.slice none 0 0] RNat).alloc (.cells #[.slice none 0 0] RNat))); have hb8 := Box.new hn5 (Box.new (New.refl _).drew (Box.last2 W (.cells #[.slice none 0 0] RNat) #[.slice none 0 0] RNat)); have c7 := (rbox_cell0 hb7).1; have f7 := (rbox_cell0 hb7).2; have c8 := (rbox_cell0 hb8).1; have f8 := (rbox_cell0 hb8).2)
      | (have hb7 := Box.new hn5 (Box.new (New.refl _).drew (Box.last W #[.slice none 0 0] RNat)); have c7 := (rbox_cell0 hb7).1; have hl7 := hb7.lt; have c7a := fun o => (rbox_cell0 (hb7.alloc (.cells o RNat))).1; have f7a := fun o => (rbox_cell0 (hb7.alloc (.cells o RNat))).2)
      | skip))
  all_goals
    have hbe : R1Be w w5 w.heap.size (x / y) (x % y) A5 l5 c5 A6 l6 c6 := by
      have hX : New W w5 := by first | exact (New.refl _).drew.trans hn5 | exact ((New.refl _).alloc _).drew.trans hn5 | exact (((New.refl _).alloc _).alloc _).drew.trans hn5
      have hb3 := HB3.out.new hX
      simp only [World.size_alloc] at hb3
      exact ⟨HN3.out.trans hX, HB2.out.new hX, hb3, hq5, hr5, Nat.le_refl _⟩
    have hWs : w.heap.size + 4 ≤ W.heap.size := by have := HB3.out.lt; simp only [World.size_alloc] at this; omega
    first
    | (refine hbe.aa.name ?_; rintro V hV hst; rw [← hV])
    | (refine hbe.ab.name ?_; rintro V hV hst; rw [← hV])
    | (refine (hbe.sa hb7 hWs).name ?_; rintro V hV hst; rw [← hV])
    | (refine (hbe.sb hb7 hWs).name ?_; rintro V hV hst; rw [← hV])
    | (refine (hbe.ss hb7 hb8 hWs (by omega) (by omega)).name ?_; rintro V hV hst; rw [← hV])
    | (refine (hbe.ss hb8 hb7 (by omega) hWs (by omega)).name ?_; rintro V hV hst; rw [← hV])
    clear hV
    have ST := Lib.hid hst
    obtain ⟨hm3, hm4, hm5, hm6⟩ := hst.ne
    clear hbe hst hn5 hq5 hr5 hWs
    obtain ⟨m2, n2⟩ := rbox_cell0 ST.out.b2
    obtain ⟨m3, n3⟩ := rbox_cell0 ST.out.b3
    obtain ⟨m7, n7⟩ := rbox_cell0 ST.out.b7
    obtain ⟨m8, n8⟩ := rbox_cell0 ST.out.b8
    obtain ⟨g2, g3⟩ := r_two_boxes (u := .slice A5 l5 c5) (v := .slice A6 l6 c6) ST.out.b2 ST.out.b3 (by omega)
    have k2 := (rbox_cell0 g2).1
    have k3 := (rbox_cell0 g3).1
    have HQ := Lib.hid (ST.out.qv.set2 ST.out.b2 ST.out.b3 (by omega) (by decide) (.slice A5 l5 c5) (.slice A6 l6 c6))
    have HR := Lib.hid (ST.out.rv.set2 ST.out.b2 ST.out.b3 (by omega) (by decide) (.slice A5 l5 c5) (.slice A6 l6 c6))
    have HW := Lib.hid ((ST.out.nw.setCell (p := ⟨w.heap.size + 1 + 1, 0, none⟩) (by simp; omega) (.slice A5 l5 c5)).setCell (p := ⟨w.heap.size + 1 + 1 + 1, 0, none⟩) (by simp; omega) (.slice A6 l6 c6))
    clear g2 g3
    go_wp2
    go_region
    all_goals
      go_wp2
      refine bodyPost_ret (v := .tuple #[.agg #[.slice A5 l5 c5], .agg #[.slice A6 l6 c6], .int .i64 0]) (by simp [results, Tryz.results15, go_sem, k2, k3]) rfl ⟨_, _, rfl, by first | exact HQ.out | exact HQ.out.new (New.refl _).drew, by first | exact HR.out | exact HR.out.new (New.refl _).drew, by first | exact HW.out | exact HW.out.drew⟩
def divE9 (y : Nat) : Int := if y = 0 then 12 else 0
def remZ9 (x y : Nat) : Nat := if y = 0 then 0 else x % y
theorem rdivmod_c {x y : Nat} {u v : Value} {w : World} (hx : RefV w u x) (hy : RefV w v y) (hl : (dg B9 x).length ≤ 400000) (hl2 : (dg B9 y).length ≤ 400000) :
    Calls Tryz.prog 15 #[u, v] w fun e w' => ∃ q r, e = .returned (.tuple #[q, r, .int .i64 (divE9 y)]) ∧ RefV w' q (x / y) ∧ RefV w' r (remZ9 x y) ∧ New w w' := by
  by_cases h0 : y = 0
  · subst h0
    rw [Nat.div_zero]
    exact rdivmod_zero hx hy
  · have e1 : divE9 y = 0 := by unfold divE9; rw [if_neg h0]
    have e2 : remZ9 x y = x % y := by unfold remZ9; rw [if_neg h0]
    rw [e1, e2]
    by_cases h2 : (dg B9 y).length = 1
    · exact rdivmod_one hx hy hl h2
    · have h3 : (dg B9 y).length ≠ 0 := fun h => h0 ((dg_nil B9_2).1 (List.length_eq_zero_iff.1 h))
      exact rdivmod_big hx hy hl hl2 (by omega)
end Go.Proofs.YtkjlmibleoecgaaGreatDoor
