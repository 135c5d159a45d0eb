/- Rows of Booleans in a block of their own; a pass over the lines. -/
import Derived.Test.YtpgloooebaklmaaP4
namespace Go.Proofs.Ytpgloooebaklmaa
set_option linter.unusedSimpArgs false
set_option linter.unusedVariables false
open Go.RowKit
/-- The cells of a row of Booleans. -/
def rowT (rs : List Bool) : Array Value := (rs.map Value.bool).toArray
theorem rowT_set (rs : List Bool) (a : Nat) (y : Bool) : (rowT rs).setIfInBounds a (.bool y) = rowT (rs.set a y) := by
  unfold rowT
  rw [List.map_set]
  simp
def RowT (w : World) (b : Nat) (rs : List Bool) : Prop := Box w b (rowT rs) 4
theorem RowT.put {w : World} {b : Nat} {rs : List Bool} (h : RowT w b rs) (i : Nat) (y : Bool) : RowT (w.setCell ⟨b, i, none⟩ (.bool y)) b (rs.set i y) := by
  have := Box.set (show Box w b (rs.map Value.bool).toArray 4 from h) i (.bool y)
  unfold RowT rowT
  rw [List.map_set]
  simpa using this
theorem RowT.cell {w : World} {b : Nat} {rs : List Bool} (h : RowT w b rs) (i : Nat) (hi : i < rs.length) : w.cell? ⟨b, i, none⟩ = some (.bool (rs.getD i false)) := by
  rw [Box.cell h i]
  simp [rowT, List.getD, List.getElem?_eq_getElem hi]
theorem RowT.far {w : World} {b : Nat} {rs : List Bool} (h : RowT w b rs) {p i : Nat} (hp : b ≠ p) (u : Value) : RowT (w.setCell ⟨p, i, none⟩ u) b rs := Box.far h hp u
theorem RowT.new {w w' : World} {b : Nat} {rs : List Bool} (h : RowT w b rs) (hn : New w w') : RowT w' b rs := Box.new hn h
theorem RowT.lt {w : World} {b : Nat} {rs : List Bool} (h : RowT w b rs) : b < w.heap.size := Box.lt h
theorem RowT.frozen {w : World} {b : Nat} {rs : List Bool} (h : RowT w b rs) (i : Nat) : w.frozen? ⟨b, i, none⟩ = false := Box.frozen h i
theorem made_bools {n : Nat} (h3 : n ≤ 1024) (W : World) : (Instr.makeSlice 32 (.int .i64 (n : Int)) (.int .i64 (n : Int))).run Try.prog W = .ok (.slice (some ⟨W.heap.size, 0, none⟩) n n) (W.alloc (.cells (rowT (List.replicate n false)) 4)) := by
  have hb : ((Try.prog.info? 4).get (by kernel_rfl)).bytes = 1 := by kernel_rfl
  have hs : ((Try.prog.info? 4).get (by kernel_rfl)).size = 1 := by kernel_rfl
  rw [run_make (P := Try.prog) W 32 4 ((Try.prog.info? 4).get (by kernel_rfl)) (.bool false) (by kernel_rfl) (by kernel_rfl) (by kernel_rfl) .i64 .i64 _ _ (by omega) (by omega) (by
      rw [hb]
      omega) (by omega)]
  rw [hs, Int.toNat_natCast, Nat.mul_one]
  rw [show (Value.bool false).cells = #[.bool false] from rfl, made_one]
  unfold rowT
  rw [List.map_replicate]
theorem pass_append : ∀ (p q : List Ln) (r : List Bool), pass r (p ++ q) = pass (pass r p) q
  | [], q, r => rfl
  | (f, t, c) :: p, q, r => by
    simp only [List.cons_append, pass]
    split
    · exact pass_append p q _
    · exact pass_append p q _
theorem pass_len : ∀ (p : List Ln) (r : List Bool), (pass r p).length = r.length
  | [], r => rfl
  | (f, t, c) :: p, r => by
    unfold pass
    split
    · rw [pass_len p]; simp
    · exact pass_len p r
theorem passes_len (ls : List Ln) : ∀ (n : Nat) (r : List Bool), (passes ls n r).length = r.length
  | 0, r => rfl
  | n + 1, r => by unfold passes; rw [pass_len, passes_len ls n]
/-- One line more. -/
theorem pass_one (r : List Bool) (p : List Ln) (f t : Nat) (c : Bool) : pass r (p ++ [(f, t, c)]) = if c && ((pass r p).getD f false || (pass r p).getD t false) then ((pass r p).set f true).set t true else pass r p := by
  rw [pass_append]
  conv => lhs; unfold pass
  split <;> simp [pass]
end Go.Proofs.Ytpgloooebaklmaa
