/- What came in, opened. -/
import Derived.Test.YteopdmifgdcghaaB1
import Derived.Test.YteopdmifgdcghaaProg
namespace Go.Proofs.Yteopdmifgdcghaa
set_option linter.unusedSimpArgs false
set_option linter.unusedVariables false
open Go.RowKit Go.ChangeShapes Go.WideShapes Go.Deep Go.Joins Go.ChangeMaps
section
variable {H : Type} {enc : TypeId × Value → H} {w : World}
theorem open_u8s {r : Reach} {b0 base : Nat} {held : Bool} {v : Value} {d : DataW H} {p : List MemPlace} (hv : Value.okWide Try.prog w r b0 22 v)
    (h : DataW.Trod enc Try.prog w base (fun _ => true) held 22 v d p) : ∃ l, SlE (Value.int .u8) w v l ∧ ∀ n ∈ l, 0 ≤ n ∧ n ≤ 255 := by
  obtain ⟨fuel, hf⟩ := trod_of_slice (e := 5) (by kernel_rfl) hv h
  obtain ⟨l, hs, hw⟩ := trod_ints_sl (t := 22) (e := 5) (k := .u8) (by kernel_rfl) (by kernel_rfl) (by kernel_rfl) hf
  refine ⟨l, hs, fun n hn => ?_⟩
  simpa [Lit.wf, IntKind.min, IntKind.max, IntKind.signed, IntKind.bits] using hw n hn
end
end Go.Proofs.Yteopdmifgdcghaa
