/- What DiskLast asks, in plain words; a disk and a row of texts beside it. -/
import Derived.Test.YtjeaejeikgkcaaaK10
namespace Go.Proofs.Ytjeaejeikgkcaaa
set_option linter.unusedSimpArgs false
set_option linter.unusedVariables false
open Go.RowKit
/-- A disk, and a row of texts of one's own beside it. -/
structure LW (w0 w : World) (p : Nat) (F : Nat → Prop) (d : DS) (l : List Nat) (q : Nat) (W : List ByteArray) : Prop where
  ld : LD w0 w p F d l
  box : Box w q (W.map Value.string).toArray 9
  nq : ¬ F q
  hq : w0.heap.size ≤ q
section
variable {w0 w w' : World} {p q : Nat} {F F' : Nat → Prop} {d d' : DS} {l l' : List Nat} {W : List ByteArray}
theorem LW.step (h : LW w0 w p F d l q W) (hd : Dsk w' p F' d' l') (hb : But F w w') (hs : Sprout w F F') : LW w0 w' p F' d' l' q W :=
  ⟨h.ld.step hd hb hs, hb.box h.box h.nq, fun hf => by
    rcases hs q hf with h1 | h1
    · exact h.nq h1
    · have := h.box.lt; omega, h.hq⟩
theorem LW.same (h : LW w0 w p F d l q W) (hd : Dsk w' p F d' l') (hb : But F w w') : LW w0 w' p F d' l' q W := h.step hd hb (Sprout.same _ _)
theorem LW.store (h : LW w0 w p F d l q W) (i : Nat) (s : ByteArray) : LW w0 (w.setCell ⟨q, i, none⟩ (.string s)) p F d l q (W.set i s) := by
  refine ⟨⟨h.ld.dsk.frame (S := Onl q) ((But.refl (Onl q) w).set rfl _) (fun k hk hq => h.nq (by obtain rfl : k = q := hq; exact hk)), h.ld.nw.setCell h.hq _, h.ld.hi⟩, ?_, h.nq, h.hq⟩
  have := h.box.set i (.string s)
  rw [List.setIfInBounds_toArray, ← List.map_set] at this
  exact this
theorem LW.drew (h : LW w0 w p F d l q W) : LW w0 w.drew p F d l q W := ⟨⟨h.ld.dsk.frame (S := fun _ => False) (But.of_new (New.refl _).drew) (fun _ _ h => h), h.ld.nw.drew, h.ld.hi⟩, h.box.drew, h.nq, h.hq⟩
theorem LW.cell (h : LW w0 w p F d l q W) {i : Nat} (hi : i < W.length) : w.cell? ⟨q, i, none⟩ = some (.string W[i]) := by
  rw [h.box.cell]
  simp [List.getElem?_eq_getElem hi]
theorem LW.fresh (h : LD w0 w p F d l) (hn : New w w') (hb : Box w' w.heap.size (List.replicate 256 (Value.string ⟨#[]⟩)).toArray 9) : LW w0 w' p F d l w.heap.size (List.replicate 256 ⟨#[]⟩) :=
  ⟨h.new hn, by rwa [List.map_replicate], fun hf => by have := h.dsk.lt _ hf; omega, h.nw.le⟩
end
theorem last_end {d : DS} (h : Pl d) (l : List Nat) : (crashD (syD d l) [] 0).is = d.is ∧ (crashD (syD d l) [] 0).dead = true := by
  rw [h.syD]
  unfold crashD
  rw [show ({ d with ops := d.ops + 1, was := d.is } : DS).dead = false from h.dead]
  exact ⟨rfl, rfl⟩
theorem plSy {d : DS} (h : Pl d) (l : List Nat) : Pl (syD d l) := by
  rw [h.syD]; exact ⟨h.dead, h.failing, h.cut, h.fail⟩
/-- One write: refused, or put. -/
theorem last_write {d : DS} (h : Pl d) (l : List Nat) (i : Int) (s : ByteArray) :
    (fitB i = false ∧ wrE d i s = 40 ∧ wrD d l i s = d) ∨ (fitB i = true ∧ ¬ (s.size : Int) ≤ 256 ∧ wrE d i s = 41 ∧ wrD d l i s = d) ∨
    (fitB i = true ∧ (s.size : Int) ≤ 256 ∧ wrE d i s = 0 ∧ (wrD d l i s).is = d.is.set i.toNat s) := by
  by_cases hf : fitB i = true
  · by_cases hs : s.size ≤ 256
    · refine .inr (.inr ⟨hf, by omega, ?_, ?_⟩)
      · rw [h.wrE]; simp [hf, show ¬ 256 < s.size by omega]
      · rw [h.wrIs, if_pos ⟨hf, hs⟩]
    · refine .inr (.inl ⟨hf, by omega, ?_, ?_⟩)
      · rw [h.wrE]; simp [hf, show 256 < s.size by omega]
      · exact Pl.wrD_no fun h => hs h.2
  · have hf' : fitB i = false := by simpa using hf
    refine .inl ⟨hf', ?_, ?_⟩
    · rw [h.wrE]; simp [hf']
    · exact Pl.wrD_no fun h => hf h.1
end Go.Proofs.Ytjeaejeikgkcaaa
