/- Blocks in a row: what was laid one behind the other. -/
import Derived.Test.YtkjlmibleoecgaaGreatDoorK1
namespace Go.Proofs.YtkjlmibleoecgaaGreatDoor
set_option linter.unusedSimpArgs false
set_option linter.unusedVariables false
open Go.RowKit
/-- The blocks from p on are these. -/
def Bxs (w : World) : Nat → List (Array Value × TypeId) → Prop
  | _, [] => True
  | p, x :: L => Box w p x.1 x.2 ∧ Bxs w (p + 1) L
def allocs (w : World) : List (Array Value × TypeId) → World
  | [] => w
  | x :: L => allocs (w.alloc (.cells x.1 x.2)) L
theorem Bxs.new {w w' : World} (hn : New w w') : ∀ {L : List (Array Value × TypeId)} {p : Nat}, Bxs w p L → Bxs w' p L
  | [], _, _ => trivial
  | _ :: _, _, h => ⟨h.1.new hn, Bxs.new hn h.2⟩
theorem allocs_new : ∀ (L : List (Array Value × TypeId)) (w : World), New w (allocs w L)
  | [], w => New.refl w
  | x :: L, w => ((New.refl w).alloc (.cells x.1 x.2)).trans (allocs_new L _)
theorem allocs_bxs : ∀ (L : List (Array Value × TypeId)) (w : World), Bxs (allocs w L) w.heap.size L
  | [], _ => trivial
  | x :: L, w => ⟨(Box.last w x.1 x.2).new (allocs_new L _), by have := allocs_bxs L (w.alloc (.cells x.1 x.2)); rw [World.size_alloc] at this; exact this⟩
theorem Bxs.far {w : World} {q i : Nat} {u : Value} : ∀ {L : List (Array Value × TypeId)} {p : Nat}, Bxs w p L → (q < p ∨ p + L.length ≤ q) → Bxs (w.setCell ⟨q, i, none⟩ u) p L
  | [], _, _, _ => trivial
  | _ :: L, p, h, hq => ⟨h.1.far (by simp at hq; omega) u, Bxs.far h.2 (by simp at hq; omega)⟩
theorem Bxs.lt {w : World} : ∀ {L : List (Array Value × TypeId)} {p : Nat}, Bxs w p L → L ≠ [] → p + L.length ≤ w.heap.size
  | [], _, _, h => absurd rfl h
  | [_], p, h, _ => by have := h.1.lt; simp; omega
  | _ :: y :: L, p, h, _ => by have := Bxs.lt h.2 (by simp); simp at this ⊢; omega
theorem Box.cells2 {w : World} {p : Nat} {a b : Value} {T : TypeId} (h : Box w p #[a, b] T) : w.cell? ⟨p, 0, none⟩ = some a ∧ w.cell? ⟨p, 1, none⟩ = some b := ⟨h.cell 0, h.cell 1⟩
theorem Box.cells1 {w : World} {p : Nat} {a : Value} {T : TypeId} (h : Box w p #[a] T) : w.cell? ⟨p, 0, none⟩ = some a := h.cell 0
theorem Bxs.two {w : World} {p : Nat} {C1 C2 : Array Value} {T1 T2 : TypeId} (h : Bxs w p [(C1, T1), (C2, T2)]) : Box w p C1 T1 ∧ Box w (p + 1) C2 T2 := ⟨h.1, h.2.1⟩
theorem Bxs.three {w : World} {p : Nat} {C1 C2 C3 : Array Value} {T1 T2 T3 : TypeId} (h : Bxs w p [(C1, T1), (C2, T2), (C3, T3)]) : Box w p C1 T1 ∧ Box w (p + 1) C2 T2 ∧ Box w (p + 1 + 1) C3 T3 := ⟨h.1, h.2.1, h.2.2.1⟩
theorem Bxs.four {w : World} {p : Nat} {C1 C2 C3 C4 : Array Value} {T1 T2 T3 T4 : TypeId} (h : Bxs w p [(C1, T1), (C2, T2), (C3, T3), (C4, T4)]) : Box w p C1 T1 ∧ Box w (p + 1) C2 T2 ∧ Box w (p + 1 + 1) C3 T3 ∧ Box w (p + 1 + 1 + 1) C4 T4 := ⟨h.1, h.2.1, h.2.2.1, h.2.2.2.1⟩
end Go.Proofs.YtkjlmibleoecgaaGreatDoor
