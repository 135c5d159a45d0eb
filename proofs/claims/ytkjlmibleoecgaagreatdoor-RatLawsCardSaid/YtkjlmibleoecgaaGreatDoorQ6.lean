/- The program's rat: boxes of two fractions. (Printed by mkq6.py.) -/
import Derived.Test.YtkjlmibleoecgaaGreatDoorQ5
import Derived.Test.YtkjlmibleoecgaaGreatDoorB5
namespace Go.Proofs.YtkjlmibleoecgaaGreatDoor
set_option linter.unusedSimpArgs false
set_option linter.unusedVariables false
open Go.RowKit
/-- Two fractions' boxes, and the result's. -/
structure Q2x (w0 w : World) (p : Nat) (A : Option Addr) (l c : Nat) (b : Bool) (A' : Option Addr) (l' c' : Nat) (b' : Bool) (C : Option Addr) (m e : Nat) (f : Bool) (C' : Option Addr) (m' e' : Nat) (f' : Bool) (n d n2 d2 : Int) (k : Nat) : Prop where
  nw : New w0 w
  ba : Box w p #[.slice A l c, .bool b, .slice A' l' c', .bool b'] NRat
  bb : Box w (p + 1) #[.slice C m e, .bool f, .slice C' m' e', .bool f'] NRat
  br : Box w (p + 1 + 1) #[.slice none 0 0, .bool false, .slice none 0 0, .bool false] NRat
  xv : RatB w (.agg #[.slice A l c, .bool b, .slice A' l' c', .bool b']) n d k
  yv : RatB w (.agg #[.slice C m e, .bool f, .slice C' m' e', .bool f']) n2 d2 k
  xn : NumB w (.agg #[.slice A l c, .bool b]) n k
  yn : NumB w (.agg #[.slice C m e, .bool f]) n2 k
  p0 : w0.heap.size ≤ p
section
variable {w0 w : World} {p P : Nat} {A : Option Addr} {l c : Nat} {b : Bool} {A' : Option Addr} {l' c' : Nat} {b' : Bool} {C : Option Addr} {m e : Nat} {f : Bool} {C' : Option Addr} {m' e' : Nat} {f' : Bool} {n d n2 d2 N D : Int} {k j : Nat}
theorem Q2x.new {w' : World} (h : Q2x w0 w p A l c b A' l' c' b' C m e f C' m' e' f' n d n2 d2 k) (hn : New w w') : Q2x w0 w' p A l c b A' l' c' b' C m e f C' m' e' f' n d n2 d2 k :=
  ⟨h.nw.trans hn, h.ba.new hn, h.bb.new hn, h.br.new hn, h.xv.new hn, h.yv.new hn, h.xn.new hn, h.yn.new hn, h.p0⟩
theorem Q2x.lt (h : Q2x w0 w p A l c b A' l' c' b' C m e f C' m' e' f' n d n2 d2 k) : p + 3 ≤ w.heap.size := by have := h.br.lt; omega
theorem Q2x.start {u v : Value} (hx : RatB w u n d k) (hy : RatB w v n2 d2 k) : ∃ A l c b A' l' c' b' C m e f C' m' e' f', u = .agg #[.slice A l c, .bool b, .slice A' l' c', .bool b'] ∧ v = .agg #[.slice C m e, .bool f, .slice C' m' e', .bool f'] ∧
    Q2x w (((w.alloc (.cells #[.slice A l c, .bool b, .slice A' l' c', .bool b'] NRat)).alloc (.cells #[.slice C m e, .bool f, .slice C' m' e', .bool f'] NRat)).alloc (.cells #[.slice none 0 0, .bool false, .slice none 0 0, .bool false] NRat)) w.heap.size A l c b A' l' c' b' C m e f C' m' e' f' n d n2 d2 k := by
  obtain ⟨A, l, c, A', l', c', rfl, h1, h2⟩ := id hx
  obtain ⟨C, m, e, C', m', e', rfl, h3, h4⟩ := id hy
  refine ⟨A, l, c, decide (n < 0), A', l', c', decide (d < 0), C, m, e, decide (n2 < 0), C', m', e', decide (d2 < 0), rfl, rfl, ?_⟩
  have hN := allocs_new [(#[.slice A l c, .bool (decide (n < 0)), .slice A' l' c', .bool (decide (d < 0))], NRat), (#[.slice C m e, .bool (decide (n2 < 0)), .slice C' m' e', .bool (decide (d2 < 0))], NRat), (#[.slice none 0 0, .bool false, .slice none 0 0, .bool false], NRat)] w
  have hB := allocs_bxs [(#[.slice A l c, .bool (decide (n < 0)), .slice A' l' c', .bool (decide (d < 0))], NRat), (#[.slice C m e, .bool (decide (n2 < 0)), .slice C' m' e', .bool (decide (d2 < 0))], NRat), (#[.slice none 0 0, .bool false, .slice none 0 0, .bool false], NRat)] w
  simp only [allocs] at hN hB
  exact ⟨hN, hB.three.1, hB.three.2.1, hB.three.2.2, hx.new hN, hy.new hN, h1.new hN, h3.new hN, Nat.le_refl _⟩
theorem RatB.form {v : Value} (h : RatB w v n d k) : ∃ A l c A' l' c', v = .agg #[.slice A l c, .bool (decide (n < 0)), .slice A' l' c', .bool (decide (d < 0))] := by
  obtain ⟨A, l, c, A', l', c', rfl, -, -⟩ := h
  exact ⟨A, l, c, A', l', c', rfl⟩
/-- The result is laid down. -/
theorem Q2x.done (h : Q2x w0 w p A l c b A' l' c' b' C m e f C' m' e' f' n d n2 d2 k) (a0 a1 a2 a3 : Value) :
    Box ((((w.setCell ⟨p + 1 + 1, 0, none⟩ a0).setCell ⟨p + 1 + 1, 1, none⟩ a1).setCell ⟨p + 1 + 1, 2, none⟩ a2).setCell ⟨p + 1 + 1, 3, none⟩ a3) (p + 1 + 1) #[a0, a1, a2, a3] NRat ∧
    New w0 ((((w.setCell ⟨p + 1 + 1, 0, none⟩ a0).setCell ⟨p + 1 + 1, 1, none⟩ a1).setCell ⟨p + 1 + 1, 2, none⟩ a2).setCell ⟨p + 1 + 1, 3, none⟩ a3) ∧
    (∀ {v : Value} {z z' : Int} {k : Nat}, RatB w v z z' k → RatB ((((w.setCell ⟨p + 1 + 1, 0, none⟩ a0).setCell ⟨p + 1 + 1, 1, none⟩ a1).setCell ⟨p + 1 + 1, 2, none⟩ a2).setCell ⟨p + 1 + 1, 3, none⟩ a3) v z z' k) := by
  have hp := h.p0
  have b1 := h.br.set 0 a0
  have b2 := b1.set 1 a1
  have b3 := b2.set 2 a2
  have b4 := b3.set 3 a3
  refine ⟨b4, ((((h.nw.setCell (p := ⟨p + 1 + 1, 0, none⟩) (by simp; omega) a0).setCell (p := ⟨p + 1 + 1, 1, none⟩) (by simp; omega) a1).setCell (p := ⟨p + 1 + 1, 2, none⟩) (by simp; omega) a2).setCell (p := ⟨p + 1 + 1, 3, none⟩) (by simp; omega) a3), ?_⟩
  rintro v z z' k ⟨A, l, c, A', l', c', rfl, h1, h2⟩
  exact ⟨A, l, c, A', l', c', rfl, (((h1.set h.br (by decide) a0).set b1 (by decide) a1).set b2 (by decide) a2).set b3 (by decide) a3, (((h2.set h.br (by decide) a0).set b1 (by decide) a1).set b2 (by decide) a2).set b3 (by decide) a3⟩
/-- And a box of one's own behind them. -/
structure Q2r (w0 w : World) (p P : Nat) (A : Option Addr) (l c : Nat) (b : Bool) (A' : Option Addr) (l' c' : Nat) (b' : Bool) (C : Option Addr) (m e : Nat) (f : Bool) (C' : Option Addr) (m' e' : Nat) (f' : Bool) (n d n2 d2 : Int) (k : Nat) (R : Option Addr) (rl rc : Nat) (rb : Bool) (R' : Option Addr) (rl' rc' : Nat) (rb' : Bool) (N D : Int) (j : Nat) : Prop where
  q : Q2x w0 w p A l c b A' l' c' b' C m e f C' m' e' f' n d n2 d2 k
  bx : Box w P #[.slice R rl rc, .bool rb, .slice R' rl' rc', .bool rb'] NRat
  rv : RatB w (.agg #[.slice R rl rc, .bool rb, .slice R' rl' rc', .bool rb']) N D j
  sp : p + 3 ≤ P
variable {R : Option Addr} {rl rc : Nat} {rb : Bool} {R' : Option Addr} {rl' rc' : Nat} {rb' : Bool}
theorem Q2x.gl (h : Q2x w0 w p A l c b A' l' c' b' C m e f C' m' e' f' n d n2 d2 k) (hr : RatB w (.agg #[.slice R rl rc, .bool rb, .slice R' rl' rc', .bool rb']) N D j) :
    Q2r w0 (w.alloc (.cells #[.slice R rl rc, .bool rb, .slice R' rl' rc', .bool rb'] NRat)) p w.heap.size A l c b A' l' c' b' C m e f C' m' e' f' n d n2 d2 k R rl rc rb R' rl' rc' rb' N D j :=
  ⟨h.new ((New.refl w).alloc _), Box.last _ _ _, hr.new ((New.refl w).alloc _), h.lt⟩
theorem RatB.lay4 {v : Value} (hv : RatB w v N D j) {a0 a1 a2 a3 : Value} (hb : Box w P #[a0, a1, a2, a3] NRat) (x0 x1 x2 x3 : Value) :
    RatB ((((w.setCell ⟨P, 0, none⟩ x0).setCell ⟨P, 1, none⟩ x1).setCell ⟨P, 2, none⟩ x2).setCell ⟨P, 3, none⟩ x3) v N D j := by
  have b1 := hb.set 0 x0
  have b2 := b1.set 1 x1
  have b3 := b2.set 2 x2
  obtain ⟨A, l, c, A', l', c', rfl, h1, h2⟩ := hv
  exact ⟨A, l, c, A', l', c', rfl, (((h1.set hb (by decide) x0).set b1 (by decide) x1).set b2 (by decide) x2).set b3 (by decide) x3, (((h2.set hb (by decide) x0).set b1 (by decide) x1).set b2 (by decide) x2).set b3 (by decide) x3⟩
theorem NumB.lay4 {v : Value} (hv : NumB w v N j) {a0 a1 a2 a3 : Value} (hb : Box w P #[a0, a1, a2, a3] NRat) (x0 x1 x2 x3 : Value) :
    NumB ((((w.setCell ⟨P, 0, none⟩ x0).setCell ⟨P, 1, none⟩ x1).setCell ⟨P, 2, none⟩ x2).setCell ⟨P, 3, none⟩ x3) v N j := by
  have b1 := hb.set 0 x0
  have b2 := b1.set 1 x1
  have b3 := b2.set 2 x2
  exact (((hv.set hb (by decide) x0).set b1 (by decide) x1).set b2 (by decide) x2).set b3 (by decide) x3
theorem Box.lay4 {a0 a1 a2 a3 : Value} {T : TypeId} (hb : Box w P #[a0, a1, a2, a3] T) (x0 x1 x2 x3 : Value) :
    Box ((((w.setCell ⟨P, 0, none⟩ x0).setCell ⟨P, 1, none⟩ x1).setCell ⟨P, 2, none⟩ x2).setCell ⟨P, 3, none⟩ x3) P #[x0, x1, x2, x3] T := (((hb.set 0 x0).set 1 x1).set 2 x2).set 3 x3
theorem Box.far4 {q : Nat} {X : Array Value} {T : TypeId} (hb : Box w q X T) (hq : q ≠ P) (x0 x1 x2 x3 : Value) :
    Box ((((w.setCell ⟨P, 0, none⟩ x0).setCell ⟨P, 1, none⟩ x1).setCell ⟨P, 2, none⟩ x2).setCell ⟨P, 3, none⟩ x3) q X T := (((hb.far hq x0).far hq x1).far hq x2).far hq x3
theorem Q2x.gs {a0 a1 a2 a3 : Value} (h : Q2x w0 w p A l c b A' l' c' b' C m e f C' m' e' f' n d n2 d2 k) (hr : RatB w (.agg #[.slice R rl rc, .bool rb, .slice R' rl' rc', .bool rb']) N D j) (hb : Box w P #[a0, a1, a2, a3] NRat) (hP : p + 3 ≤ P) :
    Q2r w0 ((((w.setCell ⟨P, 0, none⟩ (.slice R rl rc)).setCell ⟨P, 1, none⟩ (.bool rb)).setCell ⟨P, 2, none⟩ (.slice R' rl' rc')).setCell ⟨P, 3, none⟩ (.bool rb')) p P A l c b A' l' c' b' C m e f C' m' e' f' n d n2 d2 k R rl rc rb R' rl' rc' rb' N D j := by
  have hp := h.p0
  exact ⟨⟨((((h.nw.setCell (p := ⟨P, 0, none⟩) (by simp; omega) _).setCell (p := ⟨P, 1, none⟩) (by simp; omega) _).setCell (p := ⟨P, 2, none⟩) (by simp; omega) _).setCell (p := ⟨P, 3, none⟩) (by simp; omega) _),
    h.ba.far4 (by omega) _ _ _ _, h.bb.far4 (by omega) _ _ _ _, h.br.far4 (by omega) _ _ _ _, h.xv.lay4 hb _ _ _ _, h.yv.lay4 hb _ _ _ _, h.xn.lay4 hb _ _ _ _, h.yn.lay4 hb _ _ _ _, hp⟩,
    hb.lay4 _ _ _ _, hr.lay4 hb _ _ _ _, hP⟩
theorem Q2r.name2 {Q : Prop} (h : Q2r w0 w p P A l c b A' l' c' b' C m e f C' m' e' f' n d n2 d2 k R rl rc rb R' rl' rc' rb' N D j) (g : ∀ V, V = w → ∀ P', P' = P → Q2r w0 V p P' A l c b A' l' c' b' C m e f C' m' e' f' n d n2 d2 k R rl rc rb R' rl' rc' rb' N D j → Q) : Q := g w rfl P rfl h
/-- What follows is shown once, whichever way the region went. -/
theorem Q2r.share {G : World → Nat → Option Addr → Nat → Nat → Bool → Option Addr → Nat → Nat → Bool → Array Value → Prop} {Goal : Prop}
    (main : (∀ V P R rl rc rb R' rl' rc' rb' vs, Q2r w0 V p P A l c b A' l' c' b' C m e f C' m' e' f' n d n2 d2 k R rl rc rb R' rl' rc' rb' N D j → G V P R rl rc rb R' rl' rc' rb' vs) → Goal)
    (aux : ∀ V P R rl rc rb R' rl' rc' rb' vs, Q2r w0 V p P A l c b A' l' c' b' C m e f C' m' e' f' n d n2 d2 k R rl rc rb R' rl' rc' rb' N D j → G V P R rl rc rb R' rl' rc' rb' vs) : Goal := main aux
theorem Q2x.cells (h : Q2x w0 w p A l c b A' l' c' b' C m e f C' m' e' f' n d n2 d2 k) : w.cell? ⟨p, 0, none⟩ = some (.slice A l c) ∧ w.cell? ⟨p, 1, none⟩ = some (.bool b) ∧ w.cell? ⟨p, 2, none⟩ = some (.slice A' l' c') ∧ w.cell? ⟨p, 3, none⟩ = some (.bool b') ∧
    w.cell? ⟨p + 1, 0, none⟩ = some (.slice C m e) ∧ w.cell? ⟨p + 1, 1, none⟩ = some (.bool f) ∧ w.cell? ⟨p + 1, 2, none⟩ = some (.slice C' m' e') ∧ w.cell? ⟨p + 1, 3, none⟩ = some (.bool f') := ⟨h.ba.cell 0, h.ba.cell 1, h.ba.cell 2, h.ba.cell 3, h.bb.cell 0, h.bb.cell 1, h.bb.cell 2, h.bb.cell 3⟩
end
end Go.Proofs.YtkjlmibleoecgaaGreatDoor
