/- What the disk's laws ask, in plain words: DiskOrders. -/
import Derived.Test.YtjeaejeikgkcaaaK9
namespace Go.Proofs.Ytjeaejeikgkcaaa
set_option linter.unusedSimpArgs false
set_option linter.unusedVariables false
open Go.RowKit
/-- A disk of a law's own, made behind w0. -/
structure LD (w0 w : World) (p : Nat) (F : Nat → Prop) (d : DS) (l : List Nat) : Prop where
  dsk : Dsk w p F d l
  nw : New w0 w
  hi : ∀ k, F k → w0.heap.size ≤ k
theorem LD.step {w0 w w' : World} {p : Nat} {F F' : Nat → Prop} {d d' : DS} {l l' : List Nat} (h : LD w0 w p F d l) (hd : Dsk w' p F' d' l') (hb : But F w w') (hs : Sprout w F F') : LD w0 w' p F' d' l' :=
  ⟨hd, hb.new h.nw h.hi, fun k hk => by
    rcases hs k hk with hk | hk
    · exact h.hi k hk
    · have := h.nw.le; omega⟩
theorem LD.same {w0 w w' : World} {p : Nat} {F : Nat → Prop} {d d' : DS} {l l' : List Nat} (h : LD w0 w p F d l) (hd : Dsk w' p F d' l') (hb : But F w w') : LD w0 w' p F d' l' := h.step hd hb (Sprout.same _ _)
theorem LD.fresh {w0 w w' : World} (hn : New w0 w) (hd : Dsk w' w.heap.size (fun k => k = w.heap.size) dsNew []) (hn2 : New w w') : LD w0 w' w.heap.size (fun k => k = w.heap.size) dsNew [] :=
  ⟨hd, hn.trans hn2, fun k hk => by rw [hk]; exact hn.le⟩
def ordRel (C c i : Int) : Prop := (C = 1048576 ∧ c = -1) ∨ (0 ≤ C ∧ C ≤ 127 ∧ c = C - i)
def ordInv (d : DS) (C X i : Int) : Prop :=
  (i ≤ C ∧ i ≤ X ∧ d.dead = false ∧ d.failing = false ∧ d.ops = i ∧ ordRel C d.cut i ∧ ordRel X d.fail i) ∨
  (C < i ∧ C ≤ X ∧ d.ops = C ∧ d.dead = true) ∨ (X < i ∧ X < C ∧ d.ops = X ∧ d.dead = false ∧ d.failing = true)
def ordWant (C X i : Int) : Int := if C ≤ i ∧ C ≤ X then 43 else if X ≤ i then 42 else 0
theorem ord_step {d : DS} {C X i : Int} (l : List Nat) (s : ByteArray) (hs : s.size ≤ 256) (h0 : 0 ≤ i) (h1 : i < 40) (h : ordInv d C X i) : wrE d i s = ordWant C X i ∧ ordInv (wrD d l i s) C X (i + 1) := by
  have hf : fitB i = true := fitB_yes h0 (by omega)
  have hok : wrOk d i s := ⟨hf, hs⟩
  have e0 : wrE d i s = rawE d := by simp [wrE, hf, show ¬ 256 < s.size by omega]
  rw [e0]
  rcases h with ⟨a1, a2, a3, a4, a5, a6, a7⟩ | ⟨b1, b2, b3, b4⟩ | ⟨c1, c2, c3, c4, c5⟩
  · by_cases hC : C = i
    · have hcut : d.cut = 0 := by unfold ordRel at a6; omega
      have er : rawE d = 43 := by simp [rawE, a3, a4, hcut]
      have ed : wrD d l i s = crashD d l d.keep := by simp [wrD, hok, er, rawD, a3, a4, hcut]
      rw [er, ed]
      refine ⟨by unfold ordWant; rw [if_pos (by omega)], .inr (.inl ⟨by omega, by omega, ?_, ?_⟩)⟩
      · simp [crashD, a3]; omega
      · simp [crashD, a3]
    · have hcut : d.cut ≠ 0 := by unfold ordRel at a6; omega
      by_cases hX : X = i
      · have hfail : d.fail = 0 := by unfold ordRel at a7; omega
        have er : rawE d = 42 := by simp [rawE, a3, a4, hcut, hfail]
        have ed : wrD d l i s = { d with failing := true } := by simp [wrD, hok, er, rawD, a3, a4, hcut, hfail]
        rw [er, ed]
        refine ⟨by unfold ordWant; rw [if_neg (by omega), if_pos (by omega)], .inr (.inr ⟨by omega, by omega, by show d.ops = X; omega, a3, rfl⟩)⟩
      · have hfail : d.fail ≠ 0 := by unfold ordRel at a7; omega
        have er : rawE d = 0 := by simp [rawE, a3, a4, hcut, hfail]
        have ed : ∃ is, wrD d l i s = { d with cut := less d.cut, fail := less d.fail, ops := d.ops + 1, is := is } := ⟨d.is.set i.toNat s, by simp only [wrD, hok, er, rawD_zero er, if_true]⟩
        obtain ⟨is, ed⟩ := ed
        rw [er, ed]
        refine ⟨by unfold ordWant; rw [if_neg (by omega), if_neg (by omega)], .inl ⟨by omega, by omega, a3, a4, by show d.ops + 1 = i + 1; omega, ?_, ?_⟩⟩
        · show ordRel C (less d.cut) (i + 1)
          unfold ordRel less at *; omega
        · show ordRel X (less d.fail) (i + 1)
          unfold ordRel less at *; omega
  · have er : rawE d = 43 := by simp [rawE, b4]
    have ed : wrD d l i s = d := by simp [wrD, hok, er, rawD, b4]
    rw [er, ed]
    exact ⟨by unfold ordWant; rw [if_pos (by omega)], .inr (.inl ⟨by omega, b2, b3, b4⟩)⟩
  · have er : rawE d = 42 := by simp [rawE, c4, c5]
    have ed : wrD d l i s = d := by simp [wrD, hok, er, rawD, c4, c5]
    rw [er, ed]
    exact ⟨by unfold ordWant; rw [if_neg (by omega), if_pos (by omega)], .inr (.inr ⟨by omega, c2, c3, c4, c5⟩)⟩
theorem ord_ops {d : DS} {C X i : Int} (hi : i ≤ 40) (h : ordInv d C X i) : d.ops ≤ 1000000 := by
  rcases h with ⟨a1, a2, a3, a4, a5, a6, a7⟩ | ⟨b1, b2, b3, b4⟩ | ⟨c1, c2, c3, c4, c5⟩ <;> omega
theorem ord_end {d : DS} {C X n : Int} (h : ordInv d C X n) : d.dead = (decide (C < n) && decide (C ≤ X)) ∧ d.ops = min (min C X) n := by
  rcases h with ⟨a1, a2, a3, a4, a5, a6, a7⟩ | ⟨b1, b2, b3, b4⟩ | ⟨c1, c2, c3, c4, c5⟩
  · rw [a3]
    refine ⟨by rw [decide_eq_false (show ¬ C < n by omega)]; rfl, by omega⟩
  · rw [b4]
    refine ⟨by rw [decide_eq_true (show C < n by omega), decide_eq_true b2]; rfl, by omega⟩
  · rw [c4]
    refine ⟨by rw [decide_eq_false (show ¬ C ≤ X by omega), Bool.and_false], by omega⟩
end Go.Proofs.Ytjeaejeikgkcaaa
