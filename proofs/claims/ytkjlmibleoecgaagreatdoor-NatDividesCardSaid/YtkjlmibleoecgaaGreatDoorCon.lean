/- Contracts with sizes, texts. -/
import Derived.Test.YtkjlmibleoecgaaGreatDoorNat7
import Derived.Test.YtkjlmibleoecgaaGreatDoorNat11
import Derived.Test.YtkjlmibleoecgaaGreatDoorK4
namespace Go.Proofs.YtkjlmibleoecgaaGreatDoor
set_option linter.unusedSimpArgs false
set_option linter.unusedVariables false
open Go.RowKit
/-- v is the program's nat n, of k limbs at most. -/
structure NatB (w : World) (v : Value) (n k : Nat) : Prop where
  v : NatV w v n
  k : (dg B32 n).length ≤ k
theorem NatB.new {w w' : World} {v : Value} {n k : Nat} (h : NatB w v n k) (hn : New w w') : NatB w' v n k := ⟨h.v.new hn, h.k⟩
section
variable {w : World} {u v : Value} {x y k j : Nat}
theorem add_b (hu : NatB w u x k) (hv : NatB w v y j) (hk : k ≤ 100000) (hj : j ≤ 100000) :
    Calls Tryz.prog 92 #[u, v] w fun e w' => ∃ v, e = .returned v ∧ NatB w' v (x + y) (k + j + 1) ∧ New w w' :=
  (add_c hu.v hv.v (by have := hu.k; omega) (by have := hv.k; omega)).mono fun e w' ⟨v, h1, h2, h3⟩ => ⟨v, h1, ⟨h2, by have := dg_len_add B32_2 x y; have := hu.k; have := hv.k; omega⟩, h3⟩
theorem mul_b (hu : NatB w u x k) (hv : NatB w v y j) (hk : k ≤ 100000) (hj : j ≤ 100000) :
    Calls Tryz.prog 96 #[u, v] w fun e w' => ∃ v, e = .returned v ∧ NatB w' v (x * y) (k + j) ∧ New w w' :=
  (mul_c hu.v hv.v (by have := hu.k; omega) (by have := hv.k; omega)).mono fun e w' ⟨v, h1, h2, h3⟩ => ⟨v, h1, ⟨h2, by have := dg_len_mul B32_2 x y; have := hu.k; have := hv.k; omega⟩, h3⟩
theorem sub_b (hu : NatB w u x k) (hv : NatB w v y j) (hk : k ≤ 100000) (hj : j ≤ 100000) (h : y ≤ x) :
    Calls Tryz.prog 93 #[u, v] w fun e w' => ∃ v, e = .returned (.tuple #[v, .int .i64 0]) ∧ NatB w' v (x - y) k ∧ New w w' :=
  (sub_c hu.v hv.v (by have := hu.k; omega) (by have := hv.k; omega)).mono fun e w' ⟨v, h1, h2, h3⟩ => ⟨v, by rw [h1]; unfold subE; rw [if_neg (by omega)], ⟨h2, by have := dg_len_mono B32_2 (Nat.sub_le x y); have := hu.k; omega⟩, h3⟩
theorem cmp_same (hu : NatB w u x k) (hv : NatB w v y j) (hk : k ≤ 100000) (hj : j ≤ 100000) (h : x = y) :
    Calls Tryz.prog 20 #[u, v] w fun e w' => e = .returned (.int .i64 0) ∧ New w w' := by
  have := cmp_c hu.v hv.v (by have := hu.k; omega) (by have := hv.k; omega)
  subst h
  rw [show cmpN x x = 0 by unfold cmpN; simp] at this
  exact this
theorem text_b (hu : NatB w u x k) (hk : k ≤ 100000) (L : Lib.TabIs Tryz.prog w "internal/strconv.uint64pow10" .u64 Lib.pow10Tab) (s : ByteArray) (hs : Lib.decDigits x = s.data.toList) :
    Calls Tryz.prog 16 #[u] w fun e w' => e = .returned (.string s) ∧ New w w' :=
  (text_c hu.v (by have := hu.k; omega) L).mono fun e w' ⟨h1, h2⟩ => ⟨by rw [h1, hs], h2⟩
end
theorem box_cell0 {w : World} {p : Nat} {v : Value} {T : TypeId} (h : Box w p #[v] T) : w.cell? ⟨p, 0, none⟩ = some v ∧ w.frozen? ⟨p, 0, none⟩ = false := ⟨h.cell 0, h.frozen 0⟩
/-- A box that is laid ahead of a draw and a call. -/
theorem box_ahead {W w' : World} {C : Array Value} {T : TypeId} (h : New (W.alloc (.cells C T)).drew w') : Box w' W.heap.size C T :=
  Box.new h (Box.new (New.refl _).drew (Box.last W C T))
theorem box_ahead0 {W w' : World} {v : Value} {T : TypeId} (h : New (W.alloc (.cells #[v] T)).drew w') : w'.cell? ⟨W.heap.size, 0, none⟩ = some v ∧ w'.frozen? ⟨W.heap.size, 0, none⟩ = false :=
  ⟨(box_ahead h).cell 0, (box_ahead h).frozen 0⟩
theorem NatB.form {w : World} {v : Value} {n k : Nat} (h : NatB w v n k) : ∃ A l c, v = .agg #[.slice A l c] := h.v.form
/-- A number's text. -/
def decS (n : Nat) : ByteArray := ⟨(Lib.decDigits n).toArray⟩
theorem decS_of {n : Nat} {s : ByteArray} (h : Lib.decDigits n = s.data.toList) : decS n = s := by unfold decS; rw [h]
theorem decS_data (n : Nat) : (decS n).data.toList = Lib.decDigits n := rfl
theorem decS_inj {a b : Nat} (h : decS a = decS b) : a = b := dec_inj (by rw [← decS_data, h, decS_data])
section
variable {w : World} {u v : Value} {x y k j : Nat}
theorem sub_e (hu : NatB w u x k) (hv : NatB w v y j) (hk : k ≤ 100000) (hj : j ≤ 100000) :
    Calls Tryz.prog 93 #[u, v] w fun e w' => ∃ v, e = .returned (.tuple #[v, .int .i64 (subE x y)]) ∧ NatB w' v (x - y) k ∧ New w w' :=
  (sub_c hu.v hv.v (by have := hu.k; omega) (by have := hv.k; omega)).mono fun e w' ⟨v, h1, h2, h3⟩ => ⟨v, h1, ⟨h2, by have := dg_len_mono B32_2 (Nat.sub_le x y); have := hu.k; omega⟩, h3⟩
theorem cmp_b (hu : NatB w u x k) (hv : NatB w v y j) (hk : k ≤ 100000) (hj : j ≤ 100000) :
    Calls Tryz.prog 20 #[u, v] w fun e w' => e = .returned (.int .i64 (cmpN x y)) ∧ New w w' :=
  cmp_c hu.v hv.v (by have := hu.k; omega) (by have := hv.k; omega)
theorem text_v (hu : NatB w u x k) (hk : k ≤ 100000) (L : Lib.TabIs Tryz.prog w "internal/strconv.uint64pow10" .u64 Lib.pow10Tab) :
    Calls Tryz.prog 16 #[u] w fun e w' => e = .returned (.string (decS x)) ∧ New w w' :=
  text_c hu.v (by have := hu.k; omega) L
theorem text_s {s : ByteArray} (hu : NatB w u x k) (hk : k ≤ 100000) (L : Lib.TabIs Tryz.prog w "internal/strconv.uint64pow10" .u64 Lib.pow10Tab) (hs : decS x = s) :
    Calls Tryz.prog 16 #[u] w fun e w' => e = .returned (.string s) ∧ New w w' := hs ▸ text_v hu hk L
end
theorem NatB.set {w : World} {v : Value} {n k : Nat} (h : NatB w v n k) {p i : Nat} {C : Array Value} {T : TypeId} (hp : Box w p C T) (ht : T ≠ 89) (u : Value) : NatB (w.setCell ⟨p, i, none⟩ u) v n k := ⟨h.v.set hp ht u, h.k⟩
theorem name_it {V : World} {P : Nat} {C : Array Value} {T : TypeId} (h : Box V P C T) {Q : Prop} (k : ∀ V' P', V' = V → P' = P → Box V' P' C T → Q) : Q := k V P rfl rfl h
theorem box_set1 {w : World} {p : Nat} {v u : Value} {T : TypeId} (h : Box w p #[v] T) : Box (w.setCell ⟨p, 0, none⟩ u) p #[u] T := h.set 0 u
end Go.Proofs.YtkjlmibleoecgaaGreatDoor
