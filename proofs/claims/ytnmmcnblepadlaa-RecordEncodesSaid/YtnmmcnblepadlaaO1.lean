/- Records that came in, opened. -/
import Derived.Test.YtnmmcnblepadlaaB1
import Derived.Test.YtnmmcnblepadlaaR4
namespace Go.Proofs.Ytnmmcnblepadlaa
set_option linter.unusedSimpArgs false
set_option linter.unusedVariables false
open Go.RowKit Go.ChangeShapes Go.WideShapes Go.Deep Go.Joins Go.ChangeMaps

theorem wf_ok {n : Int} (h : (Lit.int .i64 n).wf = true) : i64ok n := by
  unfold i64ok
  simpa [Lit.wf, IntKind.min, IntKind.max, IntKind.signed, IntKind.bits] using h
section
variable {H : Type} {enc : TypeId × Value → H} {w : World}
theorem open_rec {r : Reach} {b0 base : Nat} {held : Bool} {v : Value} {d : DataW H} {p : List MemPlace} (hv : Value.okWide Try.prog w r b0 24 v)
    (h : DataW.Trod enc Try.prog w base (fun _ => true) held 24 v d p) : ∃ r, RecV w v r := by
  obtain ⟨c0, c1, c2, c3, y0, y1, y2, y3, m, rfl, _, _, hy0, hy1, hy2, hy3⟩ := open_agg4 Try.underlying24 (by kernel_rfl) (by kernel_rfl) hv h
  obtain ⟨kind, e0, -, wk⟩ := DataW.trod_int (k := .i64) (by kernel_rfl) hy0
  obtain ⟨who, e1, -, ww⟩ := DataW.trod_string (by kernel_rfl) hy1
  obtain ⟨text, e3, -, wt⟩ := DataW.trod_string (by kernel_rfl) hy3
  obtain ⟨nums, hs, hw⟩ := trod_ints_sl (t := 22) (e := 3) (k := .i64) (by kernel_rfl) (by kernel_rfl) (by kernel_rfl) hy2
  simp at e0 e1 e3
  subst e0; subst e1; subst e3
  exact ⟨⟨kind, who, nums, text⟩, c2, rfl, hs, fun n hn => wf_ok (hw n hn)⟩
end
end Go.Proofs.Ytnmmcnblepadlaa
