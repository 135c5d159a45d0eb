/- The program's rat: Make. (Printed by mkq2.py.) -/
import Derived.Test.YtkjlmibleoecgaaGreatDoorQ1
namespace Go.Proofs.YtkjlmibleoecgaaGreatDoor
set_option linter.unusedSimpArgs false
set_option linter.unusedVariables false
open Go.RowKit
/-- Make's fraction. -/
def gcdZ (a b : Int) : Nat := Nat.gcd a.natAbs b.natAbs
def upZ (a b : Int) : Int := if b < 0 then -a else a
def mkN (a b : Int) : Int := if b = 0 then 0 else (upZ a b).tdiv (gcdZ a b)
def mkD (a b : Int) : Int := if b = 0 then 0 else (upZ b b).tdiv (gcdZ a b)
/-- Make's boxes: two numbers, the result. -/
structure MBx (w0 w : World) (p : Nat) (A : Option Addr) (l c : Nat) (b : Bool) (A' : Option Addr) (l' c' : Nat) (b' : Bool) (x y : Int) (k : Nat) : Prop where
  nw : New w0 w
  ba : Box w p #[.slice A l c, .bool b] NNum
  bb : Box w (p + 1) #[.slice A' l' c', .bool b'] NNum
  br : Box w (p + 1 + 1) #[.slice none 0 0, .bool false, .slice none 0 0, .bool false] NRat
  xv : NumB w (.agg #[.slice A l c, .bool b]) x k
  yv : NumB w (.agg #[.slice A' l' c', .bool b']) y k
  p0 : w0.heap.size ≤ p
section
variable {w0 w : World} {p : Nat} {A : Option Addr} {l c : Nat} {b : Bool} {A' : Option Addr} {l' c' : Nat} {b' : Bool} {x y : Int} {k : Nat}
theorem MBx.new {w' : World} (h : MBx w0 w p A l c b A' l' c' b' x y k) (hn : New w w') : MBx w0 w' p A l c b A' l' c' b' x y k :=
  ⟨h.nw.trans hn, h.ba.new hn, h.bb.new hn, h.br.new hn, h.xv.new hn, h.yv.new hn, h.p0⟩
theorem MBx.cells (h : MBx w0 w p A l c b A' l' c' b' x y k) : w.cell? ⟨p, 0, none⟩ = some (.slice A l c) ∧ w.cell? ⟨p, 1, none⟩ = some (.bool b) ∧ w.cell? ⟨p + 1, 0, none⟩ = some (.slice A' l' c') ∧ w.cell? ⟨p + 1, 1, none⟩ = some (.bool b') := ⟨h.ba.cell 0, h.ba.cell 1, h.bb.cell 0, h.bb.cell 1⟩
theorem MBx.froz (h : MBx w0 w p A l c b A' l' c' b' x y k) : w.frozen? ⟨p, 0, none⟩ = false ∧ w.frozen? ⟨p, 1, none⟩ = false ∧ w.frozen? ⟨p + 1, 0, none⟩ = false ∧ w.frozen? ⟨p + 1, 1, none⟩ = false := ⟨h.ba.frozen 0, h.ba.frozen 1, h.bb.frozen 0, h.bb.frozen 1⟩
theorem NumB.far2 {w : World} {v : Value} {z : Int} {k : Nat} (h : NumB w v z k) {q : Nat} {C : Array Value} {T : TypeId} (hb : Box w q C T) (ht : T ≠ 89) (a d : Value) : NumB ((w.setCell ⟨q, 0, none⟩ a).setCell ⟨q, 1, none⟩ d) v z k := (h.set hb ht a).set (hb.set 0 a) ht d
/-- Another first number is laid down. -/
theorem MBx.turnA (h : MBx w0 w p A l c b A' l' c' b' x y k) {A2 : Option Addr} {l2 c2 : Nat} {b2 : Bool} {x2 : Int} (hv : NumB w (.agg #[.slice A2 l2 c2, .bool b2]) x2 k) :
    MBx w0 ((w.setCell ⟨p, 0, none⟩ (.slice A2 l2 c2)).setCell ⟨p, 1, none⟩ (.bool b2)) p A2 l2 c2 b2 A' l' c' b' x2 y k :=
  ⟨New.set2 h.nw h.p0 _ _, h.ba.lay2 _ _, (h.bb.far (by omega) _).far (by omega) _, (h.br.far (by omega) _).far (by omega) _, hv.lay2 h.ba _ _, h.yv.lay2 h.ba _ _, h.p0⟩
theorem MBx.turnB (h : MBx w0 w p A l c b A' l' c' b' x y k) {A2 : Option Addr} {l2 c2 : Nat} {b2 : Bool} {y2 : Int} (hv : NumB w (.agg #[.slice A2 l2 c2, .bool b2]) y2 k) :
    MBx w0 ((w.setCell ⟨p + 1, 0, none⟩ (.slice A2 l2 c2)).setCell ⟨p + 1, 1, none⟩ (.bool b2)) p A l c b A2 l2 c2 b2 x y2 k :=
  ⟨New.set2 h.nw (by have := h.p0; omega) _ _, (h.ba.far (by omega) _).far (by omega) _, h.bb.lay2 _ _, (h.br.far (by omega) _).far (by omega) _, h.xv.lay2 h.bb _ _, hv.lay2 h.bb _ _, h.p0⟩
/-- A result of four cells is laid down. -/
theorem rat_done (h : MBx w0 w p A l c b A' l' c' b' x y k) (a0 a1 a2 a3 : Value) :
    (((w.setCell ⟨p + 1 + 1, 0, none⟩ a0).setCell ⟨p + 1 + 1, 1, none⟩ a1).setCell ⟨p + 1 + 1, 2, none⟩ a2).setCell ⟨p + 1 + 1, 3, none⟩ a3 = (((w.setCell ⟨p + 1 + 1, 0, none⟩ a0).setCell ⟨p + 1 + 1, 1, none⟩ a1).setCell ⟨p + 1 + 1, 2, none⟩ a2).setCell ⟨p + 1 + 1, 3, none⟩ a3 ∧
    Box ((((w.setCell ⟨p + 1 + 1, 0, none⟩ a0).setCell ⟨p + 1 + 1, 1, none⟩ a1).setCell ⟨p + 1 + 1, 2, none⟩ a2).setCell ⟨p + 1 + 1, 3, none⟩ a3) (p + 1 + 1) #[a0, a1, a2, a3] NRat ∧
    New w0 ((((w.setCell ⟨p + 1 + 1, 0, none⟩ a0).setCell ⟨p + 1 + 1, 1, none⟩ a1).setCell ⟨p + 1 + 1, 2, none⟩ a2).setCell ⟨p + 1 + 1, 3, none⟩ a3) ∧
    (∀ {v : Value} {z : Int} {k : Nat}, NumB w v z k → NumB ((((w.setCell ⟨p + 1 + 1, 0, none⟩ a0).setCell ⟨p + 1 + 1, 1, none⟩ a1).setCell ⟨p + 1 + 1, 2, none⟩ a2).setCell ⟨p + 1 + 1, 3, none⟩ a3) v z k) := by
  have hp := h.p0
  have b1 := h.br.set 0 a0
  have b2 := b1.set 1 a1
  have b3 := b2.set 2 a2
  have b4 := b3.set 3 a3
  refine ⟨rfl, b4, ?_, fun hv => (((hv.set h.br (by decide) a0).set b1 (by decide) a1).set b2 (by decide) a2).set b3 (by decide) a3⟩
  exact ((((h.nw.setCell (p := ⟨p + 1 + 1, 0, none⟩) (by simp; omega) a0).setCell (p := ⟨p + 1 + 1, 1, none⟩) (by simp; omega) a1).setCell (p := ⟨p + 1 + 1, 2, none⟩) (by simp; omega) a2).setCell (p := ⟨p + 1 + 1, 3, none⟩) (by simp; omega) a3)
end
end Go.Proofs.YtkjlmibleoecgaaGreatDoor
