/- Islands of small grids: what holds of them. -/
import Derived.Test.YtpgloooebaklmaaP1
namespace Go.Proofs.Ytpgloooebaklmaa
set_option linter.unusedSimpArgs false
set_option linter.unusedVariables false
theorem mem_els {z : Nat} {l : Ln} (h1 : l.1 < z) (h2 : l.2.1 < z) : l ∈ els z := by
  obtain ⟨f, t, c⟩ := l
  unfold els
  refine List.mem_flatMap.2 ⟨f, List.mem_range.2 h1, List.mem_flatMap.2 ⟨t, List.mem_range.2 h2, ?_⟩⟩
  cases c <;> simp
theorem good_of {z : Nat} {ls : List Ln} (hg : goodAll z = true) (hl : ls.length ≤ 3) (hb : ∀ l ∈ ls, l.1 < z ∧ l.2.1 < z) : good z ls = true := by
  unfold goodAll at hg
  rw [Bool.and_eq_true] at hg
  obtain ⟨g0, g1⟩ := hg
  have m : ∀ l ∈ ls, l ∈ els z := fun l h => mem_els (hb l h).1 (hb l h).2
  match ls, hl, m with
  | [], _, _ => exact g0
  | [a], _, m =>
    have := List.all_eq_true.1 g1 a (m a (by simp))
    rw [Bool.and_eq_true] at this
    exact this.1
  | [a, b], _, m =>
    have := List.all_eq_true.1 g1 a (m a (by simp))
    rw [Bool.and_eq_true] at this
    have := List.all_eq_true.1 this.2 b (m b (by simp))
    rw [Bool.and_eq_true] at this
    exact this.1
  | [a, b, c], _, m =>
    have := List.all_eq_true.1 g1 a (m a (by simp))
    rw [Bool.and_eq_true] at this
    have := List.all_eq_true.1 this.2 b (m b (by simp))
    rw [Bool.and_eq_true] at this
    exact List.all_eq_true.1 this.2 c (m c (by simp))
  | _ :: _ :: _ :: _ :: _, hl, _ => simp at hl
/-- What the islands' row is. -/
structure Isl (z : Nat) (ls : List Ln) (L : List Nat) : Prop where
  len : L.length = z
  least : ∀ i, i < z → L.getD i 0 ≤ i ∧ L.getD (L.getD i 0) 0 = L.getD i 0
  same : ∀ l ∈ ls, l.2.2 = true → L.getD l.1 0 = L.getD l.2.1 0
  joined : ∀ i, i < z → (passes ls z ((List.replicate z false).set (L.getD i 0) true)).getD i false = true
theorem isl_of {z : Nat} {ls : List Ln} {L : List Nat} (hz : z = 1 ∨ z = 2 ∨ z = 3) (hl : ls.length ≤ 3) (hb : ∀ l ∈ ls, l.1 < z ∧ l.2.1 < z) (hs : Steps ls (List.range z) L) (h0 : step L ls = none) : Isl z ls L := by
  have hg : goodAll z = true := by
    rcases hz with rfl | rfl | rfl
    · exact good1
    · exact good2
    · exact good3
  have h := good_of hg hl hb
  unfold good at h
  simp only [Bool.and_eq_true] at h
  obtain ⟨⟨⟨⟨h1, h2⟩, h3⟩, h4⟩, h5⟩ := h
  have e : run ls 9 (List.range z) = L := steps_run 9 _ _ hs h0 (by simpa using h1)
  rw [e] at h2 h3 h4 h5
  refine ⟨by simpa using h2, fun i hi => ?_, fun l hm hc => ?_, fun i hi => ?_⟩
  · have := List.all_eq_true.1 h3 i (List.mem_range.2 hi)
    simp only [Bool.and_eq_true, decide_eq_true_eq] at this
    exact this
  · have := List.all_eq_true.1 h4 l hm
    rw [hc] at this
    simpa using this
  · exact List.all_eq_true.1 h5 i (List.mem_range.2 hi)
/-- A line's plain words. -/
def lnOf (l : Lin) : Ln := (l.fr.toNat, l.to'.toNat, decide (0 < l.cap))
def lnsOf (ls : List Lin) : List Ln := ls.map lnOf
end Go.Proofs.Ytpgloooebaklmaa
