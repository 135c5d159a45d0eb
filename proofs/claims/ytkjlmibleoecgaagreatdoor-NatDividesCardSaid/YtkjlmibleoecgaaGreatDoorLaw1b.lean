/- The laws of 01: NatOrder, walked. -/
import Derived.Test.YtkjlmibleoecgaaGreatDoorLaw1a
import Derived.Test.YtkjlmibleoecgaaGreatDoorNat6
import Derived.Deep.RegionHeld3
namespace Go.Proofs.YtkjlmibleoecgaaGreatDoor
set_option linter.unusedSimpArgs false
set_option linter.unusedVariables false
open Go.RowKit

/-- What 'number' leaves in its caller's two boxes. -/
structure Two (w : World) (b d : Nat) (A : Option Addr) (l c : Nat) (A' : Option Addr) (l' c' : Nat) (n : Nat) : Prop where
  bx : Box w b #[.slice A l c] 26
  dx : Box w d #[.slice A' l' c'] 29
  nx : NatV w (.agg #[.slice A l c]) n
  rx : RefV w (.agg #[.slice A' l' c']) n
theorem Two.new {w w' : World} {b d : Nat} {A : Option Addr} {l c : Nat} {A' : Option Addr} {l' c' n : Nat} (h : Two w b d A l c A' l' c' n) (hn : New w w') : Two w' b d A l c A' l' c' n :=
  ⟨h.bx.new hn, h.dx.new hn, h.nx.new hn, h.rx.new hn⟩
theorem Two.last {w : World} {A : Option Addr} {l c : Nat} {A' : Option Addr} {l' c' n : Nat} (h1 : NatV w (.agg #[.slice A l c]) n) (h2 : RefV w (.agg #[.slice A' l' c']) n) :
    Two ((w.alloc (.cells #[.slice A l c] 26)).alloc (.cells #[.slice A' l' c'] 29)) w.heap.size (w.heap.size + 1) A l c A' l' c' n :=
  ⟨(Box.last w _ _).alloc _, Box.last2 w _ _ _, h1.new (((New.refl w).alloc _).alloc _), h2.new (((New.refl w).alloc _).alloc _)⟩

theorem data_inj {a b : ByteArray} (h : a.data.toList = b.data.toList) : a = b := by
  obtain ⟨⟨l⟩⟩ := a; obtain ⟨⟨m⟩⟩ := b
  cases h; rfl
theorem num_facts {a : ByteArray} (h : a.size ≤ 256) (hi : isNum a.data.toList = true) : (dg B32 (pNum a.data.toList)).length ≤ 1024 ∧ Lib.decDigits (pNum a.data.toList) = a.data.toList := by
  have hp : pNum a.data.toList = numL a.data.toList := by unfold pNum; rw [if_pos hi]
  refine ⟨?_, by rw [hp]; exact dec_num hi⟩
  have hd : a.data.toList.all dig = true := by
    unfold isNum at hi
    simp only [Bool.and_eq_true] at hi
    exact hi.1.2
  rw [hp]
  have h1 := numL_lt hd
  have h2 : numL a.data.toList < B32 ^ a.data.toList.length := Nat.lt_of_lt_of_le h1 (Nat.pow_le_pow_left (by rw [B32_eq]; omega) _)
  have h3 := dg_len B32_2 h2
  rw [← Lib.size_eq] at h3
  omega
theorem cmp_facts (x y z : Nat) : cmpN y x = - cmpN x y ∧ cmpN (x + z) (y + z) = cmpN x y ∧ (-1 ≤ cmpN x y ∧ cmpN x y ≤ 1) ∧ (cmpN x y > 0 ∨ cmpN y z > 0 ∨ cmpN x z ≤ 0) ∧ (cmpN x y = 0 ↔ x = y) := by
  unfold cmpN
  refine ⟨?_, ?_, ?_, ?_, ?_⟩ <;> (repeat' split) <;> omega
end Go.Proofs.YtkjlmibleoecgaaGreatDoor
