/- The program's num: contracts, part 1. -/
import Derived.Test.YtkjlmibleoecgaaGreatDoorZ0
import Derived.Deep.RegionHeld3
import Derived.RegionTactic
import Derived.BigRegion
import Derived.Deep.RegionLaw
namespace Go.Proofs.YtkjlmibleoecgaaGreatDoor
set_option linter.unusedSimpArgs false
set_option linter.unusedVariables false
open Go.RowKit
abbrev NNum : TypeId := 45
abbrev NNat : TypeId := 26
/-- v is the program's whole number z. -/
def NumV (w : World) (v : Value) (z : Int) : Prop := ∃ A l c, v = .agg #[.slice A l c, .bool (decide (z < 0))] ∧ NatV w (.agg #[.slice A l c]) z.natAbs
structure NumB (w : World) (v : Value) (z : Int) (k : Nat) : Prop where
  v : NumV w v z
  k : (dg B32 z.natAbs).length ≤ k
theorem NumB.new {w w' : World} {v : Value} {z : Int} {k : Nat} (h : NumB w v z k) (hn : New w w') : NumB w' v z k := by
  obtain ⟨⟨A, l, c, rfl, h1⟩, h2⟩ := h
  exact ⟨⟨A, l, c, rfl, h1.new hn⟩, h2⟩
theorem NumB.form {w : World} {v : Value} {z : Int} {k : Nat} (h : NumB w v z k) : ∃ A l c, v = .agg #[.slice A l c, .bool (decide (z < 0))] ∧ NatB w (.agg #[.slice A l c]) z.natAbs k := by
  obtain ⟨⟨A, l, c, rfl, h1⟩, h2⟩ := h
  exact ⟨A, l, c, rfl, h1, h2⟩
theorem NumB.set {w : World} {v : Value} {z : Int} {k : Nat} (h : NumB w v z k) {p i : Nat} {C : Array Value} {T : TypeId} (hp : Box w p C T) (ht : T ≠ 89) (u : Value) : NumB (w.setCell ⟨p, i, none⟩ u) v z k := by
  obtain ⟨⟨A, l, c, rfl, h1⟩, h2⟩ := h
  exact ⟨⟨A, l, c, rfl, h1.set hp ht u⟩, h2⟩
theorem NumB.mk' {w : World} {A : Option Addr} {l c x k : Nat} {b : Bool} (h : NatB w (.agg #[.slice A l c]) x k) : NumB w (.agg #[.slice A l c, .bool (b && decide (0 < x))]) (sgn b x) k :=
  ⟨⟨A, l, c, by rw [sgn_neg], by rw [sgn_abs]; exact h.v⟩, by rw [sgn_abs]; exact h.k⟩
theorem bits_dec (x : Nat) : decide (0 < bitsN x) = decide (0 < x) := by
  by_cases h : x = 0
  · subst h; rfl
  · have := (bitsN_spec (x := x) (by omega)).1
    rw [decide_eq_true this, decide_eq_true (by omega : 0 < x)]
theorem bits_b {w : World} {u : Value} {x k : Nat} (hu : NatB w u x k) (hk : k ≤ 100000) : Calls Tryz.prog 22 #[u] w fun e w' => e = .returned (.int .i64 (bitsN x)) ∧ New w w' :=
  bits_c hu.v (by have := hu.k; omega)
theorem bits_pos (x : Nat) : ((0 : Int) < (bitsN x : Int)) = (0 < x) := by
  by_cases h : x = 0
  · subst h; simp [bitsN_zero]
  · have := (bitsN_spec (x := x) (by omega)).1
    simp; omega
/-- A box of a whole number, whatever it holds. -/
def BoxAny (V : World) (p : Nat) : Prop := ∃ v0 v1, Box V p #[v0, v1] NNum
def cellAt (V : World) (p i : Nat) : Value := (V.cell? ⟨p, i, none⟩).getD (.bool false)
theorem BoxAny.last2 (w : World) (o : Obj) : BoxAny ((w.alloc o).alloc (.cells #[.slice none 0 0, .bool false] NNum)) (w.heap.size + 1) := ⟨_, _, Box.last2 w o _ _⟩
theorem BoxAny.new {w w' : World} (hn : New w w') {p : Nat} (h : BoxAny w p) : BoxAny w' p := by
  obtain ⟨v0, v1, h⟩ := h; exact ⟨v0, v1, h.new hn⟩
theorem BoxAny.cell0 {w : World} {p : Nat} (h : BoxAny w p) : w.cell? ⟨p, 0, none⟩ = some (cellAt w p 0) := by
  obtain ⟨v0, v1, h⟩ := h
  have := h.cell 0
  unfold cellAt; rw [this]; rfl
theorem BoxAny.cell1 {w : World} {p : Nat} (h : BoxAny w p) : w.cell? ⟨p, 1, none⟩ = some (cellAt w p 1) := by
  obtain ⟨v0, v1, h⟩ := h
  have := h.cell 1
  unfold cellAt; rw [this]; rfl
theorem BoxAny.frozen {w : World} {p : Nat} (h : BoxAny w p) (i : Nat) : w.frozen? ⟨p, i, none⟩ = false := by
  obtain ⟨v0, v1, h⟩ := h; exact h.frozen i
theorem BoxAny.store2 {w : World} {p : Nat} (h : BoxAny w p) (a b : Value) : Box ((w.setCell ⟨p, 0, none⟩ a).setCell ⟨p, 1, none⟩ b) p #[a, b] NNum := by
  obtain ⟨v0, v1, h⟩ := h; exact (h.set 0 a).set 1 b
theorem BoxAny.set2 {w : World} {p : Nat} (h : BoxAny w p) (a b : Value) : BoxAny ((w.setCell ⟨p, 0, none⟩ a).setCell ⟨p, 1, none⟩ b) p := ⟨_, _, h.store2 a b⟩
theorem BoxAny.far2 {w : World} {p q : Nat} (h : BoxAny w p) (hq : p ≠ q) (a b : Value) : BoxAny ((w.setCell ⟨q, 0, none⟩ a).setCell ⟨q, 1, none⟩ b) p := by
  obtain ⟨v0, v1, h⟩ := h; exact ⟨_, _, (h.far hq a).far hq b⟩
theorem NatB.set2 {w : World} {v : Value} {n k : Nat} (h : NatB w v n k) {p : Nat} (hp : BoxAny w p) (a b : Value) : NatB ((w.setCell ⟨p, 0, none⟩ a).setCell ⟨p, 1, none⟩ b) v n k := by
  obtain ⟨v0, v1, hp⟩ := hp; exact (h.set hp (by decide) a).set (hp.set 0 a) (by decide) b
theorem NumB.set2 {w : World} {v : Value} {z : Int} {k : Nat} (h : NumB w v z k) {p : Nat} (hp : BoxAny w p) (a b : Value) : NumB ((w.setCell ⟨p, 0, none⟩ a).setCell ⟨p, 1, none⟩ b) v z k := by
  obtain ⟨v0, v1, hp⟩ := hp; exact (h.set hp (by decide) a).set (hp.set 0 a) (by decide) b
theorem New.set2 {a b : World} (h : New a b) {p : Nat} (hp : a.heap.size ≤ p) (x y : Value) : New a ((b.setCell ⟨p, 0, none⟩ x).setCell ⟨p, 1, none⟩ y) := (h.setCell (p := ⟨p, 0, none⟩) hp x).setCell (p := ⟨p, 1, none⟩) hp y
theorem Box.cell0' {w : World} {p : Nat} {a b : Value} {T : TypeId} (h : Box w p #[a, b] T) : w.cell? ⟨p, 0, none⟩ = some a := h.cell 0
theorem Box.cell1' {w : World} {p : Nat} {a b : Value} {T : TypeId} (h : Box w p #[a, b] T) : w.cell? ⟨p, 1, none⟩ = some b := h.cell 1
theorem Box.two {w : World} {p : Nat} {a b : Value} {T : TypeId} (h : Box w p #[a, b] T) : w.cell? ⟨p, 0, none⟩ = some a ∧ w.cell? ⟨p, 1, none⟩ = some b ∧ w.frozen? ⟨p, 0, none⟩ = false ∧ w.frozen? ⟨p, 1, none⟩ = false := ⟨h.cell 0, h.cell 1, h.frozen 0, h.frozen 1⟩
/-- A whole number is laid into its result's box. -/
theorem Box.lay2 {w : World} {p : Nat} {a b : Value} {T : TypeId} (h : Box w p #[a, b] T) (x y : Value) : Box ((w.setCell ⟨p, 0, none⟩ x).setCell ⟨p, 1, none⟩ y) p #[x, y] T := (h.set 0 x).set 1 y
theorem NatB.lay2 {w : World} {v : Value} {n k : Nat} (h : NatB w v n k) {p : Nat} {a b : Value} (hp : Box w p #[a, b] NNum) (x y : Value) : NatB ((w.setCell ⟨p, 0, none⟩ x).setCell ⟨p, 1, none⟩ y) v n k := (h.set hp (by decide) x).set (hp.set 0 x) (by decide) y
theorem NumB.lay2 {w : World} {v : Value} {z : Int} {k : Nat} (h : NumB w v z k) {p : Nat} {a b : Value} (hp : Box w p #[a, b] NNum) (x y : Value) : NumB ((w.setCell ⟨p, 0, none⟩ x).setCell ⟨p, 1, none⟩ y) v z k := (h.set hp (by decide) x).set (hp.set 0 x) (by decide) y
set_option maxRecDepth 100000 in
set_option maxHeartbeats 1000000 in
theorem make_n {w : World} {u : Value} {x k : Nat} (b : Bool) (hu : NatB w u x k) (hk : k ≤ 100000) :
    Calls Tryz.prog 91 #[.bool b, u] w fun e w' => ∃ v, e = .returned v ∧ NumB w' v (sgn b x) k ∧ New w w' := by
  obtain ⟨A, l, c, rfl⟩ := hu.form
  have HB3 := Lib.hid ((Box.last w #[.slice A l c] NNat).alloc (.cells #[.slice none 0 0, .bool false] NNum))
  have HB4 := Lib.hid (Box.last2 w (.cells #[.slice A l c] NNat) #[.slice none 0 0, .bool false] NNum)
  have HN := Lib.hid (((New.refl w).alloc (.cells #[.slice A l c] NNat)).alloc (.cells #[.slice none 0 0, .bool false] NNum))
  have HU := Lib.hid hu
  have HBI := Lib.hid (fun W (h : New w W) => bits_b (hu.new h) hk)
  clear hu
  cases b
  · go_enter Tryz.func91, Tryz.ntmps91
    go_wp2
    generalize (w.alloc (.cells #[.slice A l c] NNat)).alloc (.cells #[.slice none 0 0, .bool false] NNum) = W at *
    have c3 : W.cell? ⟨w.heap.size, 0, none⟩ = some (.slice A l c) := HB3.out.cell 0
    obtain ⟨c4, c5, f4, f5⟩ := HB4.out.two
    have HV := Lib.hid ((HU.out.new HN.out).lay2 HB4.out (.slice A l c) (.bool false))
    have HST := Lib.hid (HB4.out.lay2 (.slice A l c) (.bool false))
    have HNW := Lib.hid (New.set2 HN.out (show w.heap.size ≤ w.heap.size + 1 by omega) (.slice A l c) (.bool false))
    go_region
    go_wp2
    have hdn := New.drew (New.refl ((W.setCell ⟨w.heap.size + 1, 0, none⟩ (.slice A l c)).setCell ⟨w.heap.size + 1, 1, none⟩ (.bool false)))
    have g0 := (HST.out.new hdn).cell0'
    have g1 := (HST.out.new hdn).cell1'
    refine bodyPost_ret (v := .agg #[.slice A l c, .bool false]) (by simp [results, Tryz.results91, go_sem, g0, g1]) rfl ⟨_, rfl, NumB.mk' (b := false) (HV.out.new hdn), HNW.out.trans hdn⟩
  · have hbb : ∃ bb : Bool, (true && decide (0 < x)) = bb ∧ decide (0 < bitsN x) = bb := ⟨_, rfl, by rw [bits_dec]; rfl⟩
    obtain ⟨bb, hb1, hb2⟩ := hbb
    have HMK : Hid (∀ W, NatB W (.agg #[.slice A l c]) x k → NumB W (.agg #[.slice A l c, .bool bb]) (sgn true x) k) := Lib.hid (fun W h => hb1 ▸ NumB.mk' h)
    generalize bitsN x = bz at *
    clear hb1
    go_enter Tryz.func91, Tryz.ntmps91
    go_wp2
    generalize (w.alloc (.cells #[.slice A l c] NNat)).alloc (.cells #[.slice none 0 0, .bool false] NNum) = W at *
    have c3 : W.cell? ⟨w.heap.size, 0, none⟩ = some (.slice A l c) := HB3.out.cell 0
    go_region_law ((rw [if_pos (by rfl)]; (first | go_big_op | go_simp); (with_reducible (refine (HBI.out _ HN.out.drew).mono ?_)); rintro e w5 ⟨rfl, hn5⟩; have hnd := ((New.refl W).drew).trans hn5; have d3 := hnd.still c3; have hb5 := HB4.out.new hnd; obtain ⟨c4, c5, f4, f5⟩ := hb5.two))
    all_goals
      have HV := Lib.hid (HMK.out _ (((HU.out.new HN.out).new hnd).lay2 hb5 (.slice A l c) (.bool bb)))
      have g0 := (hb5.lay2 (.slice A l c) (.bool bb)).cell0'
      have g1 := (hb5.lay2 (.slice A l c) (.bool bb)).cell1'
      have HNW := Lib.hid (New.set2 (HN.out.trans hnd) (show w.heap.size ≤ w.heap.size + 1 by omega) (.slice A l c) (.bool bb))
      clear hb5 hn5 hnd
      go_wp2
      refine bodyPost_ret (v := .agg #[.slice A l c, .bool bb]) (by simp [results, Tryz.results91, go_sem, g0, g1]) rfl ⟨_, rfl, HV.out, HNW.out⟩
end Go.Proofs.YtkjlmibleoecgaaGreatDoor
