/- Slices that read as lists of numbers, and what is new in a world. -/
import Derived.Test.YtkjlmibleoecgaaGreatDoorK0
import Derived.Test.YtkjlmibleoecgaaGreatDoorProg
import Derived.Below
import Derived.Deep.LoopGhost
import Derived.Deep.OwnRows
import Derived.BigGuard
import Derived.WalkLawsBesides
import Derived.WalkSpells
import Derived.OwnWalk
import Derived.IntWalk
import Derived.Lib.Hide
namespace Go.Proofs.YtkjlmibleoecgaaGreatDoor
open Go.RowKit

def B32 : Nat := 4294967296
theorem B32_eq : B32 = 4294967296 := rfl
theorem B32_2 : 2 ≤ B32 := by rw [B32_eq]; omega
theorem cast_mod (a : Nat) : ((a % B32 : Nat) : Int) = (a : Int) % 4294967296 := by rw [B32_eq]; exact Int.natCast_emod a 4294967296
theorem cast_div (a : Nat) : ((a / B32 : Nat) : Int) = (a : Int) / 4294967296 := by rw [B32_eq]; exact Int.natCast_ediv a 4294967296
theorem cast_mad (a b c : Nat) : ((a + b * c : Nat) : Int) = (a : Int) + (b : Int) * (c : Int) := by rw [Int.natCast_add, Int.natCast_mul]
/-- v is a slice of elements of type E that reads as xs in w. -/
def Sl (E : TypeId) (k : IntKind) (w : World) (v : Value) (xs : List Nat) : Prop :=
  ∃ A c, v = .slice A xs.length c ∧ xs.length ≤ c ∧ c ≤ maxLen ∧ ∀ i, i < xs.length → ∃ b o C fr, A = some ⟨b, o, none⟩ ∧ w.heap[b]? = some (.cells C E fr) ∧ w.cell? ⟨b, o + i, none⟩ = some (.int k (xs.getD i 0 : Nat))
theorem lt_of_block {w : World} {b : Nat} {o : Obj} (h : w.heap[b]? = some o) : b < w.heap.size := by
  by_cases hb : b < w.heap.size
  · exact hb
  · rw [Array.getElem?_eq_none (by omega)] at h; cases h
/-- Block b is of these cells. -/
def Box (w : World) (b : Nat) (C : Array Value) (t : TypeId) : Prop := w.heap[b]? = some (.cells C t (0, 0))
theorem ret_i64 {a b : Int} (h : a = b) : Ending.returned (.int .i64 a) = .returned (.int .i64 b) := by rw [h]
/-- w' is w and new blocks. -/
def New (w w' : World) : Prop := Below w.heap.size w w'
theorem New.refl (w : World) : New w w := Below.refl _ _
theorem New.le {w w' : World} (h : New w w') : w.heap.size ≤ w'.heap.size := Below.size h
theorem New.trans {a b c : World} (h : New a b) (k : New b c) : New a c := Below.trans h (Below.mono k h.le)
theorem New.alloc {a b : World} (h : New a b) (o : Obj) : New a (b.alloc o) := Below.alloc h h.le o
theorem New.drew {a b : World} (h : New a b) : New a b.drew := Below.drew h
theorem New.drewN {a b : World} (h : New a b) (n : Nat) : New a (b.drewN n) := Below.trans h ⟨rfl, rfl, rfl, Nat.le_refl _, fun _ _ => rfl⟩
theorem New.cell {w w' : World} (h : New w w') {b o : Nat} (hb : b < w.heap.size) : w'.cell? ⟨b, o, none⟩ = w.cell? ⟨b, o, none⟩ := Below.cell h (p := ⟨b, o, none⟩) hb
theorem New.still {w w' : World} (h : New w w') {b o : Nat} {v : Value} (hc : w.cell? ⟨b, o, none⟩ = some v) : w'.cell? ⟨b, o, none⟩ = some v := by
  by_cases hb : b < w.heap.size
  · rw [h.cell hb]; exact hc
  · exfalso
    have : w.heap[b]? = none := by rw [Array.getElem?_eq_none]; omega
    simp [World.cell?, this] at hc
theorem New.setCell {a b : World} (h : New a b) {p : Addr} (hp : a.heap.size ≤ p.block) (u : Value) : New a (b.setCell p u) := Below.setCell h hp u
theorem New.block {w w' : World} (h : New w w') {b : Nat} {o : Obj} (hb : w.heap[b]? = some o) : w'.heap[b]? = some o := by
  rw [Below.block h b (lt_of_block hb)]; exact hb
theorem Sl.new {E : TypeId} {k : IntKind} {w w' : World} {v : Value} {xs : List Nat} (h : Sl E k w v xs) (hb : New w w') : Sl E k w' v xs := by
  obtain ⟨A, c, e, h1, h2, h3⟩ := h
  refine ⟨A, c, e, h1, h2, fun i hi => ?_⟩
  obtain ⟨b, o, C, fr, e, hl, hc⟩ := h3 i hi
  exact ⟨b, o, C, fr, e, hb.block hl, hb.still hc⟩
/-- A cell of a block of another type is turned. -/
theorem Sl.set {E : TypeId} {k : IntKind} {w : World} {v : Value} {xs : List Nat} (h : Sl E k w v xs) {p i : Nat} {C' : Array Value} {T : TypeId} {fr' : Nat × Nat} (hp : w.heap[p]? = some (.cells C' T fr')) (ht : T ≠ E) (u : Value) : Sl E k (w.setCell ⟨p, i, none⟩ u) v xs := by
  obtain ⟨A, c, e, h1, h2, h3⟩ := h
  refine ⟨A, c, e, h1, h2, fun i hi => ?_⟩
  obtain ⟨b, o, C, fr, e, hl, hc⟩ := h3 i hi
  have hne : b ≠ p := by
    rintro rfl
    rw [hp] at hl
    injection hl with hl; injection hl with _ hl _
    exact ht hl
  have hbl : (w.setCell ⟨p, i, none⟩ u).heap[b]? = w.heap[b]? := Below.heap_setCell w _ u b hne
  refine ⟨b, o, C, fr, e, by rw [Below.heap_setCell w _ u b hne]; exact hl, ?_⟩
  rw [← hc]
  exact World.cell?_of_block (Below.heap_setCell w _ u b hne)
theorem Box.new {w w' : World} (hn : New w w') {b : Nat} {C : Array Value} {t : TypeId} (h : Box w b C t) : Box w' b C t := hn.block h
theorem Box.cell {w : World} {b : Nat} {C : Array Value} {t : TypeId} (h : Box w b C t) (i : Nat) : w.cell? ⟨b, i, none⟩ = C[i]? := by
  simp only [World.cell?]; rw [show w.heap[b]? = _ from h]; rfl
theorem Box.frozen {w : World} {b : Nat} {C : Array Value} {t : TypeId} (h : Box w b C t) (i : Nat) : w.frozen? ⟨b, i, none⟩ = false := by
  simp [World.frozen?, show w.heap[b]? = _ from h]
theorem Box.lt {w : World} {b : Nat} {C : Array Value} {t : TypeId} (h : Box w b C t) : b < w.heap.size := lt_of_block h
theorem Box.last (w : World) (C : Array Value) (t : TypeId) : Box (w.alloc (.cells C t)) w.heap.size C t := by unfold Box World.alloc; simp
theorem Box.alloc {w : World} {b : Nat} {C : Array Value} {t : TypeId} (h : Box w b C t) (o : Obj) : Box (w.alloc o) b C t := Box.new ((New.refl w).alloc o) h
theorem Box.last2 (w : World) (o : Obj) (C : Array Value) (t : TypeId) : Box ((w.alloc o).alloc (.cells C t)) (w.heap.size + 1) C t := by have := Box.last (w.alloc o) C t; simpa using this
theorem Box.last3 (w : World) (o p : Obj) (C : Array Value) (t : TypeId) : Box (((w.alloc o).alloc p).alloc (.cells C t)) (w.heap.size + 1 + 1) C t := by have := Box.last ((w.alloc o).alloc p) C t; simpa using this
theorem Box.far {w : World} {b : Nat} {C : Array Value} {t : TypeId} (h : Box w b C t) {p i : Nat} (hp : b ≠ p) (u : Value) : Box (w.setCell ⟨p, i, none⟩ u) b C t := by
  unfold Box; rw [Below.heap_setCell w _ u b hp]; exact h
/-- v is the program's nat that is n. -/
def NatV (w : World) (v : Value) (n : Nat) : Prop := ∃ u, v = .agg #[u] ∧ Sl 89 .u32 w u (dg B32 n)
theorem NatV.form {w : World} {v : Value} {n : Nat} (h : NatV w v n) : ∃ A l c, v = .agg #[.slice A l c] := by
  obtain ⟨_, rfl, A, c, rfl, _⟩ := h; exact ⟨A, _, c, rfl⟩
theorem NatV.zero (w : World) : NatV w (.agg #[.slice none 0 0]) 0 :=
  ⟨_, rfl, none, 0, by rw [dg_zero]; rfl, by rw [dg_zero]; simp, Nat.zero_le _, fun i hi => by rw [dg_zero] at hi; cases hi⟩
theorem NatV.sl {w : World} {u : Value} {n : Nat} (h : NatV w (.agg #[u]) n) : Sl 89 .u32 w u (dg B32 n) := by
  obtain ⟨x, e, h⟩ := h; obtain rfl : u = x := by simpa using e
  exact h
theorem Sl.form {E : TypeId} {k : IntKind} {w : World} {v : Value} {xs : List Nat} (h : Sl E k w v xs) : ∃ A c, v = .slice A xs.length c := by
  obtain ⟨A, c, rfl, _⟩ := h; exact ⟨A, c, rfl⟩
theorem NatV.new {w w' : World} {v : Value} {n : Nat} (h : NatV w v n) (hb : New w w') : NatV w' v n := by
  obtain ⟨u, e, h⟩ := h; exact ⟨u, e, h.new hb⟩
theorem NatV.set {w : World} {v : Value} {n : Nat} (h : NatV w v n) {p i : Nat} {C : Array Value} {T : TypeId} (hp : Box w p C T) (ht : T ≠ 89) (u : Value) : NatV (w.setCell ⟨p, i, none⟩ u) v n := by
  obtain ⟨x, e, h⟩ := h; exact ⟨x, e, h.set hp ht u⟩
/-- The cells of a row of numbers. -/
def ecells (k : IntKind) (xs : List Nat) : Array Value := (xs.map fun x : Nat => Value.int k (x : Int)).toArray
theorem ecells_size (k : IntKind) (xs : List Nat) : (ecells k xs).size = xs.length := by simp [ecells]
theorem ecells_get (k : IntKind) {xs : List Nat} {i : Nat} (h : i < xs.length) : (ecells k xs)[i]? = some (.int k (xs.getD i 0 : Nat)) := by
  simp [ecells, List.getElem?_eq_getElem h]
theorem ecells_set (k : IntKind) (xs : List Nat) (i x : Nat) : (ecells k xs).setIfInBounds i (.int k (x : Int)) = ecells k (xs.set i x) := by
  simp [ecells, List.map_set]
theorem ecells_made (k : IntKind) (n : Nat) : madeCells #[.int k 0] n = ecells k (List.replicate n 0) := by
  apply Array.ext
  · simp [size_madeCells, ecells_size]
  · intro i h1 h2
    simp [madeCells, ecells, Nat.mod_one]
theorem heap_new (w : World) (o : Obj) : (w.alloc o).heap[w.heap.size]? = some o := by unfold World.alloc; simp
/-- A row in a block reads as a slice. -/
theorem Sl.of_block {k : IntKind} {w : World} {b : Nat} {t : TypeId} {xs : List Nat} (h : Box w b (ecells k xs) t) (hl : xs.length ≤ maxLen) :
    Sl t k w (.slice (some ⟨b, 0, none⟩) xs.length xs.length) xs :=
  ⟨_, _, rfl, Nat.le_refl _, hl, fun i hi => ⟨b, 0, _, _, rfl, h, by rw [h.cell, Nat.zero_add]; exact ecells_get k hi⟩⟩
end Go.Proofs.YtkjlmibleoecgaaGreatDoor
