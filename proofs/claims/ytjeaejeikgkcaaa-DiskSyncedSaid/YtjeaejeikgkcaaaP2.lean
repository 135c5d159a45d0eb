/- What DiskFails asks, in plain words. -/
import Derived.Test.YtjeaejeikgkcaaaP1
namespace Go.Proofs.Ytjeaejeikgkcaaa
set_option linter.unusedSimpArgs false
set_option linter.unusedVariables false
open Go.RowKit
theorem Dsk.l1 {w : World} {p : Nat} {F : Nat → Prop} {d : DS} {l : List Nat} (h : Dsk w p F d l) : d.is.length = 256 := by
  obtain ⟨c, hdb, _, _⟩ := h.own
  exact hdb.l1
theorem Dsk.l2 {w : World} {p : Nat} {F : Nat → Prop} {d : DS} {l : List Nat} (h : Dsk w p F d l) : d.was.length = 256 := by
  obtain ⟨c, hdb, _, _⟩ := h.own
  exact hdb.l2
def failInv (d : DS) (n D : Int) : Prop :=
  (d.failing = false ∧ d.dead = false ∧ d.cut = -1 ∧ d.ops = D ∧ d.fail = max n 0 - D ∧ 0 ≤ D ∧ D ≤ max n 0) ∨ (d.failing = true ∧ d.dead = false ∧ D = max n 0 ∧ d.ops = D)
theorem fl_big {d : DS} {i : Int} {s : ByteArray} (hi : fitB i = true) (hs : 256 < s.size) (l : List Nat) : wrE d i s = 41 ∧ wrD d l i s = d := by
  have hok : ¬ wrOk d i s := fun h => by have := h.2; omega
  exact ⟨by simp [wrE, hi, hs], by simp [wrD, hok]⟩
theorem fl_ok {d : DS} {n D i : Int} {s : ByteArray} (h : failInv d n D) (hi : fitB i = true) (hs : s.size ≤ 256) (hD : D < n) (l : List Nat) (h1 : d.is.length = 256) :
    wrE d i s = 0 ∧ failInv (wrD d l i s) n (D + 1) ∧ (wrD d l i s).is.getD i.toNat ⟨#[]⟩ = s := by
  have hok : wrOk d i s := ⟨hi, hs⟩
  rcases h with ⟨a1, a2, a3, a4, a5, a6, a7⟩ | ⟨b1, b2, b3, b4⟩
  · have er : rawE d = 0 := by
      have : d.fail ≠ 0 := by omega
      simp [rawE, a1, a2, a3, this]
    have ed : wrD d l i s = { d with cut := less d.cut, fail := less d.fail, ops := d.ops + 1, is := d.is.set i.toNat s } := by simp only [wrD, hok, er, rawD_zero er, if_true]
    refine ⟨by simp [wrE, hi, show ¬ 256 < s.size by omega, er], ?_, ?_⟩
    · rw [ed]
      refine .inl ⟨a1, a2, ?_, by show d.ops + 1 = _; omega, ?_, by omega, by omega⟩
      · show less d.cut = -1
        unfold less; omega
      · show less d.fail = _
        unfold less; omega
    · rw [ed]
      have hi2 : i.toNat < 256 := by unfold fitB at hi; simp at hi; omega
      show (d.is.set i.toNat s).getD i.toNat _ = s
      simp [List.getD_eq_getElem?_getD, h1, hi2]
  · omega
theorem fl_bad {d : DS} {n D i : Int} {s : ByteArray} (h : failInv d n D) (hi : fitB i = true) (hs : s.size ≤ 256) (hD : ¬ D < n) (l : List Nat) :
    wrE d i s = 42 ∧ failInv (wrD d l i s) n D ∧ rawE (wrD d l i s) = 42 ∧ ∀ l', syD (wrD d l i s) l' = wrD d l i s := by
  have hok : wrOk d i s := ⟨hi, hs⟩
  have key : rawE d = 42 ∧ failInv (rawD d l) n D ∧ rawE (rawD d l) = 42 ∧ ∀ l', syD (rawD d l) l' = rawD d l := by
    rcases h with ⟨a1, a2, a3, a4, a5, a6, a7⟩ | ⟨b1, b2, b3, b4⟩
    · have hf : d.fail = 0 := by omega
      have ed : rawD d l = { d with failing := true } := by simp [rawD, a1, a2, a3, hf]
      rw [ed]
      refine ⟨by simp [rawE, a1, a2, a3, hf], .inr ⟨rfl, a2, by omega, a4⟩, by simp [rawE, a2], fun l' => by simp [syD, rawE, rawD, a2]⟩
    · have ed : rawD d l = d := by simp [rawD, b1, b2]
      rw [ed]
      exact ⟨by simp [rawE, b1, b2], .inr ⟨b1, b2, b3, b4⟩, by simp [rawE, b1, b2], fun l' => by simp [syD, rawE, rawD, b1, b2]⟩
  obtain ⟨k1, k2, k3, k4⟩ := key
  have ed : wrD d l i s = rawD d l := by simp [wrD, hok, k1]
  rw [ed]
  exact ⟨by simp [wrE, hi, show ¬ 256 < s.size by omega, k1], k2, k3, k4⟩
theorem fl_end {d : DS} {n D : Int} (h : failInv d n D) : rawE { d with dead := false, failing := false, cut := -1, fail := -1 } = 0 := by simp [rawE]
theorem fl_ops {d : DS} {n D : Int} (h : failInv d n D) : d.ops = D ∧ d.dead = false := by
  rcases h with ⟨a1, a2, a3, a4, a5, a6, a7⟩ | ⟨b1, b2, b3, b4⟩
  · exact ⟨a4, a2⟩
  · exact ⟨b4, b2⟩
end Go.Proofs.Ytjeaejeikgkcaaa
