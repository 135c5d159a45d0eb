/- Decimal texts of numbers: strconv.FormatUint at base 10. -/
import Derived.Test.YtkjlmibleoecgaaDoorNat8
import Derived.Lib.ItoaMem
import Derived.Lib.AppendIntMem
namespace Go.Proofs.YtkjlmibleoecgaaDoor
open Go.RowKit Go.Sort

/-- A listed table outlives what is new. -/
theorem tabIs_new {P : Program} {w w' : World} (hn : New w w') {name : String} {k : IntKind} {zs : List Int} (h : Lib.TabIs P w name k zs) : Lib.TabIs P w' name k zs := by
  unfold Lib.TabIs World.var? at *
  cases hg : P.globalNamed name with
  | none => simp [hg] at h
  | some g =>
    simp only [hg, Option.bind_some] at h ⊢
    have hlt : g < w.heap.size := by
      rcases Nat.lt_or_ge g w.heap.size with h' | h'
      · exact h'
      · rw [Array.getElem?_eq_none h'] at h; simp at h
    rw [Below.block hn g hlt]
    exact h
theorem new_grow (w : World) (k : Nat) (os : Array Obj) : New w (Sort.grow (w.drewN k) os) := Lib.below_grow w.heap.size w (Nat.le_refl _) k os

end Go.Proofs.YtkjlmibleoecgaaDoor
