/- What came in, opened: texts. -/
import Derived.Test.YteopdmifgdcghaaDoorB1
import Derived.Test.YteopdmifgdcghaaDoorProg
namespace Go.Proofs.YteopdmifgdcghaaDoor
set_option linter.unusedSimpArgs false
set_option linter.unusedVariables false
open Go.RowKit Go.ChangeShapes Go.WideShapes Go.Deep Go.Joins Go.ChangeMaps
section
variable {H : Type} {enc : TypeId × Value → H} {w : World}
theorem open_strs {r : Reach} {b0 base : Nat} {held : Bool} {v : Value} {d : DataW H} {p : List MemPlace} (hv : Value.okWide Tryd.prog w r b0 22 v)
    (h : DataW.Trod enc Tryd.prog w base (fun _ => true) held 22 v d p) : ∃ l, SlE Value.string w v l ∧ ∀ s ∈ l, s.size ≤ maxLen := by
  obtain ⟨fuel, hf⟩ := trod_of_slice (e := 9) (by kernel_rfl) hv h
  exact trod_strs_sl (t := 22) (e := 9) (by kernel_rfl) (by kernel_rfl) (by kernel_rfl) hf
end
end Go.Proofs.YteopdmifgdcghaaDoor
