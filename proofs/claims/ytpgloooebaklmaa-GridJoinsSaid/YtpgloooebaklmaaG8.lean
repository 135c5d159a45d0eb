/- The law on grids, as a row wants it. -/
import Derived.Test.YtpgloooebaklmaaG7
namespace Go.Proofs.Ytpgloooebaklmaa
set_option linter.unusedVariables false
open Go.RowKit
theorem joins_c (r : Grd × Value) (v : Value) (w : World) (h : v = .agg (gcells r.1 r.2) ∧ GrdIn w r.1 r.2) : Calls Try.prog 3 #[v] w fun e w' => e = .returned (.bool true) ∧ New w w' := by
  obtain ⟨rfl, h⟩ := h
  cases hv : heavyB r.1 with
  | true => exact joins_bad h (.inl hv)
  | false =>
    cases ho : grdOk r.1 with
    | true => exact joins_ok h ho
    | false => exact joins_bad h (.inr ⟨hv, ho⟩)
end Go.Proofs.Ytpgloooebaklmaa
