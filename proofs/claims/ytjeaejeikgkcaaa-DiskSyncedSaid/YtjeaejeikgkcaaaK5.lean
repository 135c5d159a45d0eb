/- The disk's Write and Sync, walked. -/
import Derived.Test.YtjeaejeikgkcaaaK4
import Derived.Test.YtjeaejeikgkcaaaB2
import Derived.Test.YtjeaejeikgkcaaaShelf
namespace Go.Proofs.Ytjeaejeikgkcaaa
set_option linter.unusedSimpArgs false
set_option linter.unusedVariables false
open Go.RowKit

def rawL (d : DS) (l : List Nat) : List Nat := if goes d then [] else l
/-- Blocks of one's own alone. -/
structure Dsk (w : World) (p : Nat) (F : Nat → Prop) (d : DS) (l : List Nat) : Prop where
  own : ∃ c, DB w p d c ∧ OwnE iE 3 0 w c l ∧ ∀ k, Foot c k → F k
  fp : F p
  lt : ∀ k, F k → k < w.heap.size
  wf : WF d
  hl : ∀ i ∈ l, i < 256
  len : (l.length : Int) ≤ d.ops
theorem OwnE.only {w w' : World} {p : Nat} {d : DS} {c v : Value} {l : List Nat} (h : OwnE iE 3 0 w v l) (hd : DB w p d c) (hb : But (Onl p) w w') : OwnE iE 3 0 w' v l :=
  h.but hb fun k C hk hC => by
    obtain rfl : k = p := hk
    have h2 := hd.b
    unfold Box at h2
    rw [hC] at h2
    simp at h2
theorem nil_foot (k : Nat) : ¬ Foot (.slice none 0 0) k := by simp [Foot, Value.ownBlock]
section
variable {w : World} {p : Nat} {d : DS} {c : Value} {F : Nat → Prop} {l : List Nat}
theorem Dsk.only (h : Dsk w p F d l) {w' : World} (hb : But (Onl p) w w') : But F w w' := hb.more fun k hk => by
  obtain rfl : k = p := hk
  exact h.fp
theorem Dsk.step (h : Dsk w p F d l) {w' : World} {d' : DS} {l' : List Nat} (hb : But F w w') (hc : ∃ c, DB w' p d' c ∧ OwnE iE 3 0 w' c l' ∧ ∀ k, Foot c k → F k) (hw : WF d') (hl : ∀ i ∈ l', i < 256) (hn : (l'.length : Int) ≤ d'.ops) : Dsk w' p F d' l' :=
  ⟨hc, h.fp, fun k hk => Nat.lt_of_lt_of_le (h.lt k hk) hb.size, hw, hl, hn⟩
theorem WF.crash (h : WF d) (l : List Nat) (k : Int) : WF (crashD d l k) := by
  unfold crashD
  split
  · exact h
  · exact ⟨by simp, by simp, by simp, by simp, h.o0, h.k0, h.k1⟩
theorem raw_c (h : Dsk w p F d l) (ho : d.ops ≤ 1000000) : Calls Try.prog 25 #[.pointer (some ⟨p, 0, none⟩)] w fun e w' => e = .returned (.int .i64 (rawE d)) ∧ Dsk w' p F (rawD d l) (rawL d l) ∧ But F w w' := by
  obtain ⟨c, hdb, hown, hf⟩ := h.own
  have hlen := h.len
  have hlt : (l.length : Int) ≤ 1000000 := by omega
  by_cases h1 : d.dead = true
  · refine (raw_dead hdb h1).mono ?_
    rintro e w1 ⟨rfl, rfl⟩
    have e1 : rawD d l = d := by simp [rawD, h1]
    have e2 : rawL d l = l := by simp [rawL, goes, h1]
    rw [e1, e2]
    exact ⟨by simp [rawE, h1], h, But.refl _ _⟩
  have h1' : d.dead = false := by simpa using h1
  by_cases h2 : d.failing = true
  · refine (raw_failing hdb h1' h2).mono ?_
    rintro e w1 ⟨rfl, rfl⟩
    have e1 : rawD d l = d := by simp [rawD, h1, h2]
    have e2 : rawL d l = l := by simp [rawL, goes, h1, h2]
    rw [e1, e2]
    exact ⟨by simp [rawE, h1, h2], h, But.refl _ _⟩
  have h2' : d.failing = false := by simpa using h2
  by_cases h3 : d.cut = 0
  · refine (raw_cut hdb h1' h2' h3 l 0 (Nat.zero_le _) hown h.hl (by omega) h.wf.k0 h.wf.k1).mono ?_
    rintro e w1 ⟨rfl, k1, k2⟩
    have e1 : rawD d l = crashD d l d.keep := by simp [rawD, h1, h2, h3]
    have e2 : rawL d l = [] := by simp [rawL, goes, h1, h2, h3]
    rw [e1, e2]
    refine ⟨by simp [rawE, h1, h2, h3], h.step (h.only k2) ⟨_, k1, OwnE.nil _ _ _ _, fun k hk => absurd hk (nil_foot k)⟩ (h.wf.crash _ _) (by simp) ?_, h.only k2⟩
    have : (crashD d l d.keep).ops = d.ops := by unfold crashD; split <;> rfl
    rw [this]
    have := h.wf.o0
    simpa using this
  have e2 : rawL d l = l := by simp [rawL, goes, h1, h2, h3]
  by_cases h4 : d.fail = 0
  · refine (raw_fail hdb h1' h2' h3 h4).mono ?_
    rintro e w1 ⟨rfl, k1, k2⟩
    have e1 : rawD d l = { d with failing := true } := by simp [rawD, h1, h2, h3, h4]
    rw [e1, e2]
    exact ⟨by simp [rawE, h1, h2, h3, h4], h.step (h.only k2) ⟨_, k1, hown.only hdb k2, hf⟩ ⟨h.wf.c0, h.wf.c1, h.wf.f0, h.wf.f1, h.wf.o0, h.wf.k0, h.wf.k1⟩ h.hl h.len, h.only k2⟩
  · refine (raw_plain hdb h1' h2' h3 h4 h.wf ho).mono ?_
    rintro e w1 ⟨rfl, k1, k2⟩
    have e1 : rawD d l = { d with cut := less d.cut, fail := less d.fail, ops := d.ops + 1 } := by simp [rawD, h1, h2, h3, h4]
    rw [e1, e2]
    have hw := h.wf
    have := hw.c0; have := hw.c1; have := hw.f0; have := hw.f1; have := hw.o0
    exact ⟨by simp [rawE, h1, h2, h3, h4], h.step (h.only k2) ⟨_, k1, hown.only hdb k2, hf⟩ ⟨by show -1 ≤ less d.cut; unfold less; omega, by show less d.cut ≤ _; unfold less; omega, by show -1 ≤ less d.fail; unfold less; omega, by show less d.fail ≤ _; unfold less; omega, by show 0 ≤ d.ops + 1; omega, hw.k0, hw.k1⟩ h.hl (by show _ ≤ d.ops + 1; omega), h.only k2⟩
theorem contains_c (n : Nat) (h : OwnE iE 3 0 w c l) (hll : l.length ≤ 1000000) : Calls Try.prog 26 #[c, .int .i64 (n : Int)] w fun e w' => e = .returned (.bool (decide (n ∈ l))) ∧ w = w' := by
  rcases h.2 with ⟨rfl, h0⟩ | ⟨g, cap, cur, rfl, h1, h2, h3, h4, h5, h6⟩
  · have : l = [] := List.eq_nil_of_length_eq_zero h0
    subst this
    exact (Try.slices_Contains_int_empty none 0 _ w).mono fun e w' hh => ⟨by rw [hh.1]; simp, hh.2.symm⟩
  · have hcells := h.cells (g := g) rfl
    refine (Try.slices_Contains_int g 0 l.length cap (l.map fun x : Nat => (x : Int)) n w (by simp) (by omega) ?_).mono fun e w' hh => ⟨?_, hh.2.symm⟩
    · intro j hj
      have hj' : j < l.length := by simpa using hj
      have := hcells j (iE l[j]) (by simp [List.getElem?_eq_getElem hj'])
      rw [Addr.add_lit] at this
      rw [this]
      simp [iE, List.getD_eq_getElem?_getD, List.getElem?_eq_getElem hj']
    · rw [hh.1]
      congr 2
      rw [List.take_of_length_le (by simp)]
      rw [Bool.eq_iff_iff]
      simp only [List.contains_iff_mem, List.mem_map, decide_eq_true_eq]
      exact ⟨fun ⟨a, ha, e⟩ => by
        obtain rfl : a = n := by omega
        exact ha, fun h => ⟨n, h, rfl⟩⟩
end
end Go.Proofs.Ytjeaejeikgkcaaa
