/- What the listed variables of the library hold. -/
import Derived.Test.YteopdmifgdcghaaDoorB0
import Derived.Test.YteopdmifgdcghaaDoorProg
import Derived.Test.YteopdmifgdcghaaDoorRows
import Derived.Stop.LaidErr
import Derived.Lib.LaidTab
import Derived.KernelRfl
import Derived.Test.YteopdmifgdcghaaDoorShelf
namespace Go.Proofs.YteopdmifgdcghaaDoor
set_option linter.unusedSimpArgs false
set_option linter.unusedVariables false
open Go.RowKit
theorem tabIs_new {P : Program} {w w' : World} (hn : New w w') {name : String} {k : IntKind} {zs : List Int} (h : Lib.TabIs P w name k zs) : Lib.TabIs P w' name k zs := by
  unfold Lib.TabIs World.var? at *
  cases hg : P.globalNamed name with
  | none => simp [hg] at h
  | some g =>
    simp only [hg, Option.bind_some] at h ⊢
    have hlt : g < w.heap.size := by
      rcases Nat.lt_or_ge g w.heap.size with h' | h'
      · exact h'
      · rw [Array.getElem?_eq_none h'] at h; simp at h
    rw [Below.block hn g hlt]
    exact h
structure Laid (W : World) : Prop where
  tab : Lib.TabIs Tryd.prog W "internal/strconv.uint64pow10" .u64 Lib.pow10Tab
  syn : ∃ te pe, W.cell? ⟨0, 0, none⟩ = some (.iface te pe)
  rng : ∃ te pe, W.cell? ⟨1, 0, none⟩ = some (.iface te pe)
theorem Laid.new {w w' : World} (h : Laid w) (hn : New w w') : Laid w' := by
  obtain ⟨a, b, hs⟩ := h.syn
  obtain ⟨c, d, hr⟩ := h.rng
  exact ⟨tabIs_new hn h.tab, ⟨a, b, hn.still hs⟩, ⟨c, d, hn.still hr⟩⟩
theorem star : "*" ++ "errors.errorString" = "*errors.errorString" := by decide
theorem row87 (u : TypeId) (h : Tryd.prog.typeName? 3 u = some "*errors.errorString") : u = 87 :=
  typeName_ptr_named (nm := "errors.errorString") (by rw [star]; kernel_rfl) (by kernel_rfl) (by decide) u (by rw [star]; exact h)
theorem laid_of {W : World} {a b : DataW Unit} (h : laidMet Tryd.prog [("math/bits.deBruijn32tab", a), ("math/bits.deBruijn64tab", b), ("internal/strconv.uint64pow10", Rows.laid_internal_strconv_uint64pow10), ("strconv.ErrRange", Rows.laid_strconv_ErrRange), ("strconv.ErrSyntax", Rows.laid_strconv_ErrSyntax)] W) : Laid W := by
  have h3 := h.tail.tail
  have h4 := h3.tail
  have h5 := h4.tail
  refine ⟨?_, ?_, ?_⟩
  · refine Lib.tabIs_of_head (g := 3) (t := 91) (e := 72) (n := 20) (by kernel_rfl) (by kernel_rfl) Tryd.underlying91 Tryd.underlying72 (by kernel_rfl) (by kernel_rfl) (rest := [("strconv.ErrRange", Rows.laid_strconv_ErrRange), ("strconv.ErrSyntax", Rows.laid_strconv_ErrSyntax)]) ?_
    exact h3
  · obtain ⟨a0, s0, hv, _⟩ := laid_sentinel h5 (g := 0) (ti := 43) (tp := 87) (te := 89) (ts := 9) (by kernel_rfl) (by kernel_rfl) Tryd.underlying43 row87 Tryd.underlying87 Tryd.underlying89 rfl rfl Tryd.underlying9 (by kernel_rfl) (by kernel_rfl)
    exact ⟨_, _, by have := World.var?_cell (g := 0) (by kernel_rfl) hv 0; simpa using this⟩
  · obtain ⟨a0, s0, hv, _⟩ := laid_sentinel h4 (g := 1) (ti := 43) (tp := 87) (te := 89) (ts := 9) (by kernel_rfl) (by kernel_rfl) Tryd.underlying43 row87 Tryd.underlying87 Tryd.underlying89 rfl rfl Tryd.underlying9 (by kernel_rfl) (by kernel_rfl)
    exact ⟨_, _, by have := World.var?_cell (g := 1) (by kernel_rfl) hv 0; simpa using this⟩
end Go.Proofs.YteopdmifgdcghaaDoor
