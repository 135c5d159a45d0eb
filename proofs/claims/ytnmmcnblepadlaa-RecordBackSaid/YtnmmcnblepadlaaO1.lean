/- Records that came in, opened. -/
import Derived.Test.YtnmmcnblepadlaaB1
import Derived.Test.YtnmmcnblepadlaaR4
namespace Go.Proofs.Ytnmmcnblepadlaa
set_option linter.unusedSimpArgs false
set_option linter.unusedVariables false
open Go.RowKit Go.ChangeShapes Go.WideShapes Go.Deep Go.Joins Go.ChangeMaps

theorem wf_ok {n : Int} (h : (Lit.int .i64 n).wf = true) : i64ok n := by
  unfold i64ok
  simpa [Lit.wf, IntKind.min, IntKind.max, IntKind.signed, IntKind.bits] using h
section
variable {H : Type} {enc : TypeId × Value → H} {w : World}
theorem open_rec {r : Reach} {b0 base : Nat} {held : Bool} {v : Value} {d : DataW H} {p : List MemPlace} (hv : Value.okWide Try.prog w r b0 24 v)
    (h : DataW.Trod enc Try.prog w base (fun _ => true) held 24 v d p) : ∃ r, RecV w v r := by
  obtain ⟨c0, c1, c2, c3, y0, y1, y2, y3, m, rfl, _, _, hy0, hy1, hy2, hy3⟩ := open_agg4 Try.underlying24 (by kernel_rfl) (by kernel_rfl) hv h
  obtain ⟨kind, e0, -, wk⟩ := DataW.trod_int (k := .i64) (by kernel_rfl) hy0
  obtain ⟨who, e1, -, ww⟩ := DataW.trod_string (by kernel_rfl) hy1
  obtain ⟨text, e3, -, wt⟩ := DataW.trod_string (by kernel_rfl) hy3
  obtain ⟨nums, hs, hw⟩ := trod_ints_sl (t := 22) (e := 3) (k := .i64) (by kernel_rfl) (by kernel_rfl) (by kernel_rfl) hy2
  simp at e0 e1 e3
  subst e0; subst e1; subst e3
  exact ⟨⟨kind, who, nums, text⟩, c2, rfl, hs, fun n hn => wf_ok (hw n hn)⟩
theorem open_nums {r : Reach} {b0 base : Nat} {held : Bool} {v : Value} {d : DataW H} {p : List MemPlace} (hv : Value.okWide Try.prog w r b0 22 v)
    (h : DataW.Trod enc Try.prog w base (fun _ => true) held 22 v d p) : ∃ l, SlE nE w v l ∧ ∀ n ∈ l, i64ok n := by
  obtain ⟨fuel, hf⟩ := trod_of_slice (e := 3) (by kernel_rfl) hv h
  obtain ⟨l, hs, hw⟩ := trod_ints_sl (t := 22) (e := 3) (k := .i64) (by kernel_rfl) (by kernel_rfl) (by kernel_rfl) hf
  exact ⟨l, hs, fun n hn => wf_ok (hw n hn)⟩
theorem open_recs {r : Reach} {b0 base : Nat} {held : Bool} {v : Value} {d : DataW H} {p : List MemPlace} (hv : Value.okWide Try.prog w r b0 25 v)
    (h : DataW.Trod enc Try.prog w base (fun _ => true) held 25 v d p) : ∃ rs, SlR w v rs := by
  obtain ⟨fuel, hf⟩ := trod_of_slice (e := 24) (by kernel_rfl) hv h
  obtain ⟨A, n, c, rfl, h1, h2, h3⟩ := trod_slice_at (t := 25) (e := 24) (sz := 4) (by kernel_rfl) (by kernel_rfl) (by omega) hf
  obtain ⟨rs, hl, hp⟩ := list_choose (p := fun i (r : Rec) => ∃ b o, A = some ⟨b, o, none⟩ ∧ RecAt w b (o + i * 4) r) n (fun i hi => by
    obtain ⟨b, o, cs, m, y, e, hb, hlen, hc, ht⟩ := h3 i hi
    obtain ⟨y0, y1, y2, y3, m', _, _, hy0, hy1, hy2, hy3⟩ := trod_struct4 (t := 24) Try.underlying24 ht
    obtain ⟨c0, c1, c2, c3, rfl⟩ : ∃ c0 c1 c2 c3, cs = [c0, c1, c2, c3] := by
      match cs, hlen with
      | [c0, c1, c2, c3], _ => exact ⟨c0, c1, c2, c3, rfl⟩
    obtain ⟨kind, e0, -, wk⟩ := DataW.trod_int (k := .i64) (by kernel_rfl) hy0
    obtain ⟨who, e1, -, ww⟩ := DataW.trod_string (by kernel_rfl) hy1
    obtain ⟨text, e3, -, wt⟩ := DataW.trod_string (by kernel_rfl) hy3
    have hy2' : DataW.trod enc Try.prog w base (fun _ => true) held m' 22 [c2] = some y2 := hy2
    obtain ⟨nums, hs, hw⟩ := trod_ints_sl (t := 22) (e := 3) (k := .i64) (by kernel_rfl) (by kernel_rfl) (by kernel_rfl) hy2'
    have e0' : c0 = .int .i64 kind := by have : [c0] = [Value.int .i64 kind] := e0; simpa using this
    have e1' : c1 = .string who := by have : [c1] = [Value.string who] := e1; simpa using this
    have e3' : c3 = .string text := by have : [c3] = [Value.string text] := e3; simpa using this
    subst e0'; subst e1'; subst e3'
    exact ⟨⟨kind, who, nums, text⟩, b, o, e, c2, hb, hc 0 (by omega), hc 1 (by omega), hc 2 (by omega), hc 3 (by omega), hs, fun n hn => wf_ok (hw n hn)⟩)
  subst hl
  exact ⟨rs, A, c, rfl, h1, h2, hp⟩
end
end Go.Proofs.Ytnmmcnblepadlaa
