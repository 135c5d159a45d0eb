/- The reference's rat: values, Den, Sign, Make's boxes. (Printed by mkrq1.py.) -/
import Derived.Test.YtkjlmibleoecgaaGreatDoorQ2
import Derived.Test.YtkjlmibleoecgaaGreatDoorqRZ2
import Derived.Test.YtkjlmibleoecgaaGreatDoorRef15
namespace Go.Proofs.YtkjlmibleoecgaaGreatDoor
set_option linter.unusedSimpArgs false
set_option linter.unusedVariables false
open Go.RowKit
abbrev RRat : TypeId := 76
/-- v is the reference's fraction of n and d (d = 0: the zero value's), of k limbs each at most. -/
def RRatB (w : World) (v : Value) (n d : Int) (k : Nat) : Prop := ∃ A l c A' l' c', v = .agg #[.bool (decide (n < 0)), .slice A l c, .bool (decide (d < 0)), .slice A' l' c'] ∧ RNumB w (.agg #[.bool (decide (n < 0)), .slice A l c]) n k ∧ RNumB w (.agg #[.bool (decide (d < 0)), .slice A' l' c']) d k
theorem RRatB.new {w w' : World} {v : Value} {n d : Int} {k : Nat} (h : RRatB w v n d k) (hn : New w w') : RRatB w' v n d k := by
  obtain ⟨A, l, c, A', l', c', rfl, h1, h2⟩ := h
  exact ⟨A, l, c, A', l', c', rfl, h1.new hn, h2.new hn⟩
theorem RRatB.more {w : World} {v : Value} {n d : Int} {k j : Nat} (h : RRatB w v n d k) (hk : k ≤ j) : RRatB w v n d j := by
  obtain ⟨A, l, c, A', l', c', rfl, h1, h2⟩ := h
  exact ⟨A, l, c, A', l', c', rfl, h1.more hk, h2.more hk⟩
section
variable {w : World} {u v : Value} {n d : Int} {k j : Nat}
set_option maxHeartbeats 1000000 in
theorem rden_n (hz : RRatB w v n d k) (hk : k ≤ 100000) (hk2 : 3 ≤ k) :
    Calls Tryz.prog 57 #[v] w fun e w' => ∃ u, e = .returned u ∧ RNumB w' u (denZ d) k ∧ New w w' := by
  obtain ⟨A, l, c, A', l', c', rfl, hv, hv'⟩ := hz
  have HN := Lib.hid (((New.refl w).alloc (.cells #[.bool (decide (n < 0)), .slice A l c, .bool (decide (d < 0)), .slice A' l' c'] RRat)).alloc (.cells #[.bool false, .slice none 0 0] RNum))
  have HB0 := Lib.hid ((Box.last w #[.bool (decide (n < 0)), .slice A l c, .bool (decide (d < 0)), .slice A' l' c'] RRat).alloc (.cells #[.bool false, .slice none 0 0] RNum))
  have HB1 := Lib.hid (Box.last2 w (.cells #[.bool (decide (n < 0)), .slice A l c, .bool (decide (d < 0)), .slice A' l' c'] RRat) #[.bool false, .slice none 0 0] RNum)
  have HV := Lib.hid (fun W (h : New w W) => hv'.new h)
  have HS := Lib.hid (fun W (h : New w W) => rsign_n (hv'.new h))
  have HO := Lib.hid (fun W => rof_n 1 (by omega) (by omega) W)
  clear hv hv'
  by_cases h : d = 0
  · have e1 : denZ d = 1 := by unfold denZ; rw [if_pos h]
    have e2 : sgZ d = 0 := by rw [h]; rfl
    have HD : Hid (decide ((1 : Int) < 0) = false) := Lib.hid rfl
    rw [e1]
    rw [e2] at HS
    clear e1 e2 h HV
    generalize decide (n < 0) = b at *
    generalize decide (d < 0) = b' at *
    go_enter Tryz.func57, Tryz.ntmps57
    go_wp2_with fail
    refine (HS.out _ HN.out).mono ?_
    rintro e w1 ⟨rfl, hn1⟩
    have HB11 := Lib.hid (HB1.out.new hn1)
    have HN1 := Lib.hid (HN.out.trans hn1)
    clear hn1 HB1 HB0
    go_wp2_with fail
    refine (HO.out _).mono ?_
    rintro e w2 ⟨v1, rfl, hv1, hn2⟩
    obtain ⟨A1, l1, c1, rfl, _⟩ := hv1.form
    rw [HD.out] at *
    have hb := HB11.out.new hn2
    obtain ⟨f0, f1, f2, f3⟩ := hb.two
    obtain ⟨g0, g1, g2, g3⟩ := rn_done hb (HN1.out.trans hn2) (by omega) hv1
    have HVV := Lib.hid (RNumB.more g2 hk2)
    have HW := Lib.hid g3
    clear g2 g3 hv1 hn2 hb
    go_wp2
    refine bodyPost_ret (v := .agg #[.bool false, .slice A1 l1 c1]) (by simp [results, Tryz.results57, go_sem, g0, g1]) rfl ⟨_, rfl, HVV.out, HW.out⟩
  · have e1 : denZ d = d := by unfold denZ; rw [if_neg h]
    obtain ⟨s, hs⟩ : ∃ s, sgZ d = s := ⟨_, rfl⟩
    have hs0 : (s == 0) = false := by rw [beq_eq_false_iff_ne, ← hs]; unfold sgZ; (repeat' split) <;> omega
    rw [e1]
    rw [hs] at HS
    clear e1 h hs HO
    generalize decide (n < 0) = b at *
    generalize decide (d < 0) = b' at *
    go_enter Tryz.func57, Tryz.ntmps57
    go_wp2_with fail
    refine (HS.out _ HN.out).mono ?_
    rintro e w1 ⟨rfl, hn1⟩
    have hb := HB1.out.new hn1
    obtain ⟨f0, f1, f2, f3⟩ := hb.two
    obtain ⟨m0, m1, m2, m3⟩ := (HB0.out.new hn1).cells4
    obtain ⟨g0, g1, g2, g3⟩ := rn_done hb (HN.out.trans hn1) (by omega) (HV.out _ (HN.out.trans hn1))
    have HVV := Lib.hid g2
    have HW := Lib.hid g3
    clear g2 g3 hn1 hb HV
    go_wp2
    refine bodyPost_ret (v := .agg #[.bool b', .slice A' l' c']) (by simp [results, Tryz.results57, go_sem, g0, g1]) rfl ⟨_, rfl, HVV.out, HW.out⟩
end
/-- Make's boxes: two numbers, the result. -/
structure RMx (w0 w : World) (p : Nat) (A : Option Addr) (l c : Nat) (b : Bool) (A' : Option Addr) (l' c' : Nat) (b' : Bool) (x y : Int) (k : Nat) : Prop where
  nw : New w0 w
  ba : Box w p #[.bool b, .slice A l c] RNum
  bb : Box w (p + 1) #[.bool b', .slice A' l' c'] RNum
  br : Box w (p + 1 + 1) #[.bool false, .slice none 0 0, .bool false, .slice none 0 0] RRat
  xv : RNumB w (.agg #[.bool b, .slice A l c]) x k
  yv : RNumB w (.agg #[.bool b', .slice A' l' c']) y k
  p0 : w0.heap.size ≤ p
section
variable {w0 w : World} {p : Nat} {A : Option Addr} {l c : Nat} {b : Bool} {A' : Option Addr} {l' c' : Nat} {b' : Bool} {x y : Int} {k : Nat}
theorem RMx.new {w' : World} (h : RMx w0 w p A l c b A' l' c' b' x y k) (hn : New w w') : RMx w0 w' p A l c b A' l' c' b' x y k :=
  ⟨h.nw.trans hn, h.ba.new hn, h.bb.new hn, h.br.new hn, h.xv.new hn, h.yv.new hn, h.p0⟩
theorem RMx.cells (h : RMx w0 w p A l c b A' l' c' b' x y k) : w.cell? ⟨p, 0, none⟩ = some (.bool b) ∧ w.cell? ⟨p, 1, none⟩ = some (.slice A l c) ∧ w.cell? ⟨p + 1, 0, none⟩ = some (.bool b') ∧ w.cell? ⟨p + 1, 1, none⟩ = some (.slice A' l' c') := ⟨h.ba.cell 0, h.ba.cell 1, h.bb.cell 0, h.bb.cell 1⟩
theorem RMx.froz (h : RMx w0 w p A l c b A' l' c' b' x y k) : w.frozen? ⟨p, 0, none⟩ = false ∧ w.frozen? ⟨p, 1, none⟩ = false ∧ w.frozen? ⟨p + 1, 0, none⟩ = false ∧ w.frozen? ⟨p + 1, 1, none⟩ = false := ⟨h.ba.frozen 0, h.ba.frozen 1, h.bb.frozen 0, h.bb.frozen 1⟩
theorem RNumB.set {w : World} {v : Value} {z : Int} {k : Nat} (h : RNumB w v z k) {p i : Nat} {C : Array Value} {T : TypeId} (hp : Box w p C T) (ht : T ≠ 3) (u : Value) : RNumB (w.setCell ⟨p, i, none⟩ u) v z k := by
  obtain ⟨⟨A, l, c, rfl, h1⟩, h2⟩ := h
  exact ⟨⟨A, l, c, rfl, h1.set hp ht u⟩, h2⟩
theorem RNumB.far2 {w : World} {v : Value} {z : Int} {k : Nat} (h : RNumB w v z k) {q : Nat} {C : Array Value} {T : TypeId} (hb : Box w q C T) (ht : T ≠ 3) (a d : Value) : RNumB ((w.setCell ⟨q, 0, none⟩ a).setCell ⟨q, 1, none⟩ d) v z k := (h.set hb ht a).set (hb.set 0 a) ht d
/-- Another first number is laid down. -/
theorem RMx.turnA (h : RMx w0 w p A l c b A' l' c' b' x y k) {A2 : Option Addr} {l2 c2 : Nat} {b2 : Bool} {x2 : Int} (hv : RNumB w (.agg #[.bool b2, .slice A2 l2 c2]) x2 k) :
    RMx w0 ((w.setCell ⟨p, 0, none⟩ (.bool b2)).setCell ⟨p, 1, none⟩ (.slice A2 l2 c2)) p A2 l2 c2 b2 A' l' c' b' x2 y k :=
  ⟨New.set2 h.nw h.p0 _ _, h.ba.lay2 _ _, (h.bb.far (by omega) _).far (by omega) _, (h.br.far (by omega) _).far (by omega) _, hv.lay2 h.ba _ _, h.yv.lay2 h.ba _ _, h.p0⟩
theorem RMx.turnB (h : RMx w0 w p A l c b A' l' c' b' x y k) {A2 : Option Addr} {l2 c2 : Nat} {b2 : Bool} {y2 : Int} (hv : RNumB w (.agg #[.bool b2, .slice A2 l2 c2]) y2 k) :
    RMx w0 ((w.setCell ⟨p + 1, 0, none⟩ (.bool b2)).setCell ⟨p + 1, 1, none⟩ (.slice A2 l2 c2)) p A l c b A2 l2 c2 b2 x y2 k :=
  ⟨New.set2 h.nw (by have := h.p0; omega) _ _, (h.ba.far (by omega) _).far (by omega) _, h.bb.lay2 _ _, (h.br.far (by omega) _).far (by omega) _, h.xv.lay2 h.bb _ _, hv.lay2 h.bb _ _, h.p0⟩
/-- A result of four cells is laid down. -/
theorem rrat_done (h : RMx w0 w p A l c b A' l' c' b' x y k) (a0 a1 a2 a3 : Value) :
    (((w.setCell ⟨p + 1 + 1, 0, none⟩ a0).setCell ⟨p + 1 + 1, 1, none⟩ a1).setCell ⟨p + 1 + 1, 2, none⟩ a2).setCell ⟨p + 1 + 1, 3, none⟩ a3 = (((w.setCell ⟨p + 1 + 1, 0, none⟩ a0).setCell ⟨p + 1 + 1, 1, none⟩ a1).setCell ⟨p + 1 + 1, 2, none⟩ a2).setCell ⟨p + 1 + 1, 3, none⟩ a3 ∧
    Box ((((w.setCell ⟨p + 1 + 1, 0, none⟩ a0).setCell ⟨p + 1 + 1, 1, none⟩ a1).setCell ⟨p + 1 + 1, 2, none⟩ a2).setCell ⟨p + 1 + 1, 3, none⟩ a3) (p + 1 + 1) #[a0, a1, a2, a3] RRat ∧
    New w0 ((((w.setCell ⟨p + 1 + 1, 0, none⟩ a0).setCell ⟨p + 1 + 1, 1, none⟩ a1).setCell ⟨p + 1 + 1, 2, none⟩ a2).setCell ⟨p + 1 + 1, 3, none⟩ a3) ∧
    (∀ {v : Value} {z : Int} {k : Nat}, RNumB w v z k → RNumB ((((w.setCell ⟨p + 1 + 1, 0, none⟩ a0).setCell ⟨p + 1 + 1, 1, none⟩ a1).setCell ⟨p + 1 + 1, 2, none⟩ a2).setCell ⟨p + 1 + 1, 3, none⟩ a3) v z k) := by
  have hp := h.p0
  have b1 := h.br.set 0 a0
  have b2 := b1.set 1 a1
  have b3 := b2.set 2 a2
  have b4 := b3.set 3 a3
  refine ⟨rfl, b4, ?_, fun hv => (((hv.set h.br (by decide) a0).set b1 (by decide) a1).set b2 (by decide) a2).set b3 (by decide) a3⟩
  exact ((((h.nw.setCell (p := ⟨p + 1 + 1, 0, none⟩) (by simp; omega) a0).setCell (p := ⟨p + 1 + 1, 1, none⟩) (by simp; omega) a1).setCell (p := ⟨p + 1 + 1, 2, none⟩) (by simp; omega) a2).setCell (p := ⟨p + 1 + 1, 3, none⟩) (by simp; omega) a3)
end
end Go.Proofs.YtkjlmibleoecgaaGreatDoor
