/- What came in, opened. -/
import Derived.Test.YtjeaejeikgkcaaaB1
import Derived.Test.YtjeaejeikgkcaaaK1
namespace Go.Proofs.Ytjeaejeikgkcaaa
set_option linter.unusedSimpArgs false
set_option linter.unusedVariables false
open Go.RowKit Go.ChangeShapes Go.WideShapes Go.Deep Go.Joins Go.ChangeMaps
def i8ok (x : Int) : Prop := -128 ≤ x ∧ x ≤ 127
/-- A step as it came in. -/
structure Stp where
  kind : Int
  i : Int
  s : ByteArray
  keep : Int
def StpAt (w : World) (b o : Nat) (r : Stp) : Prop :=
  b < w.heap.size ∧ w.cell? ⟨b, o, none⟩ = some (.int .i64 r.kind) ∧ w.cell? ⟨b, o + 1, none⟩ = some (.int .i64 r.i) ∧ w.cell? ⟨b, o + 2, none⟩ = some (.string r.s) ∧ w.cell? ⟨b, o + 3, none⟩ = some (.int .u64 r.keep) ∧
  (-9223372036854775808 ≤ r.kind ∧ r.kind ≤ 9223372036854775807) ∧ (-9223372036854775808 ≤ r.i ∧ r.i ≤ 9223372036854775807) ∧ r.s.size ≤ 9223372036854775807 ∧ 0 ≤ r.keep ∧ r.keep ≤ 18446744073709551615
/-- A slice of steps. -/
def SlStp (w : World) (v : Value) (rs : List Stp) : Prop :=
  ∃ A c, v = .slice A rs.length c ∧ rs.length ≤ c ∧ c ≤ maxLen ∧ ∀ i (h : i < rs.length), ∃ b o, A = some ⟨b, o, none⟩ ∧ StpAt w b (o + i * 4) rs[i]
section
variable {H : Type} {enc : TypeId × Value → H} {w : World}
theorem open_i8s {r : Reach} {b0 base : Nat} {held : Bool} {v : Value} {d : DataW H} {p : List MemPlace} (hv : Value.okWide Try.prog w r b0 22 v)
    (h : DataW.Trod enc Try.prog w base (fun _ => true) held 22 v d p) : ∃ l, SlE (Value.int .i8) w v l ∧ ∀ n ∈ l, i8ok n := by
  obtain ⟨fuel, hf⟩ := trod_of_slice (e := 26) (by kernel_rfl) hv h
  obtain ⟨l, hs, hw⟩ := trod_ints_sl (t := 22) (e := 26) (k := .i8) (by kernel_rfl) (by kernel_rfl) (by kernel_rfl) hf
  refine ⟨l, hs, fun n hn => ?_⟩
  unfold i8ok
  simpa [Lit.wf, IntKind.min, IntKind.max, IntKind.signed, IntKind.bits] using hw n hn
theorem open_strs {r : Reach} {b0 base : Nat} {held : Bool} {v : Value} {d : DataW H} {p : List MemPlace} (hv : Value.okWide Try.prog w r b0 34 v)
    (h : DataW.Trod enc Try.prog w base (fun _ => true) held 34 v d p) : ∃ l, SlE Value.string w v l ∧ ∀ s ∈ l, s.size ≤ maxLen := by
  obtain ⟨fuel, hf⟩ := trod_of_slice (e := 9) (by kernel_rfl) hv h
  exact trod_strs_sl (t := 34) (e := 9) (by kernel_rfl) (by kernel_rfl) (by kernel_rfl) hf
theorem open_steps {r : Reach} {b0 base : Nat} {held : Bool} {v : Value} {d : DataW H} {p : List MemPlace} (hv : Value.okWide Try.prog w r b0 40 v)
    (h : DataW.Trod enc Try.prog w base (fun _ => true) held 40 v d p) : ∃ rs, SlStp w v rs := by
  obtain ⟨fuel, hf⟩ := trod_of_slice (e := 43) (by kernel_rfl) hv h
  obtain ⟨A, n, c, rfl, h1, h2, h3⟩ := trod_slice_at (t := 40) (e := 43) (sz := 4) (by kernel_rfl) (by kernel_rfl) (by omega) hf
  obtain ⟨rs, hl, hp⟩ := list_choose (p := fun i (r : Stp) => ∃ b o, A = some ⟨b, o, none⟩ ∧ StpAt w b (o + i * 4) r) n (fun i hi => by
    obtain ⟨b, o, cs, m, y, e, hb, hlen, hc, ht⟩ := h3 i hi
    obtain ⟨y0, y1, y2, y3, m', _, _, hy0, hy1, hy2, hy3⟩ := trod_struct4 (t := 43) Try.underlying43 ht
    obtain ⟨c0, c1, c2, c3, rfl⟩ : ∃ c0 c1 c2 c3, cs = [c0, c1, c2, c3] := by
      match cs, hlen with
      | [c0, c1, c2, c3], _ => exact ⟨c0, c1, c2, c3, rfl⟩
    obtain ⟨kind, e0, -, wk⟩ := DataW.trod_int (k := .i64) (by kernel_rfl) hy0
    obtain ⟨ii, e1, -, wi⟩ := DataW.trod_int (k := .i64) (by kernel_rfl) hy1
    obtain ⟨s, e2, -, ws⟩ := DataW.trod_string (by kernel_rfl) hy2
    obtain ⟨kp, e3, -, wp⟩ := DataW.trod_int (k := .u64) (by kernel_rfl) hy3
    have e0' : c0 = .int .i64 kind := by have : [c0] = [Value.int .i64 kind] := e0; simpa using this
    have e1' : c1 = .int .i64 ii := by have : [c1] = [Value.int .i64 ii] := e1; simpa using this
    have e2' : c2 = .string s := by have : [c2] = [Value.string s] := e2; simpa using this
    have e3' : c3 = .int .u64 kp := by have : [c3] = [Value.int .u64 kp] := e3; simpa using this
    subst e0'; subst e1'; subst e2'; subst e3'
    refine ⟨⟨kind, ii, s, kp⟩, b, o, e, hb, hc 0 (by omega), hc 1 (by omega), hc 2 (by omega), hc 3 (by omega), ?_, ?_, ?_, ?_⟩
    · simpa [Lit.wf, IntKind.min, IntKind.max, IntKind.signed, IntKind.bits] using wk
    · simpa [Lit.wf, IntKind.min, IntKind.max, IntKind.signed, IntKind.bits] using wi
    · simpa [Lit.wf, maxLen] using ws
    · simpa [Lit.wf, IntKind.min, IntKind.max, IntKind.signed, IntKind.bits] using wp)
  subst hl
  exact ⟨rs, A, c, rfl, h1, h2, hp⟩
end
end Go.Proofs.Ytjeaejeikgkcaaa
