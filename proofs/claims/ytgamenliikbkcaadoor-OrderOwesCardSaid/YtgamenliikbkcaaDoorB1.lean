/- What came in, opened: of no program. -/
import Derived.Test.YtgamenliikbkcaaDoorB0
import Derived.ProofKit
import Derived.OpenShut
import Derived.ShutString
import Derived.ChangeOld
import Derived.SizedLaws
import Derived.Carry
import Derived.Deep.Slices
import Derived.Deep.Strs
import Derived.SliceStrings
import Derived.Lib.SmallJoins
namespace Go.Proofs.YtgamenliikbkcaaDoor
set_option linter.unusedSimpArgs false
set_option linter.unusedVariables false
open Go.RowKit Go.ChangeShapes Go.WideShapes Go.Deep Go.Joins Go.ChangeMaps

section
variable {H : Type} {enc : TypeId × Value → H} {P : Program} {w : World}

/-- A list of what there is at each place below n. -/
theorem list_choose {α : Type} {p : Nat → α → Prop} : ∀ (n : Nat), (∀ i, i < n → ∃ a, p i a) → ∃ l : List α, l.length = n ∧ ∀ i (h : i < l.length), p i l[i]
  | 0, _ => ⟨[], rfl, fun i h => by cases h⟩
  | n + 1, h => by
    obtain ⟨l, hl, hp⟩ := list_choose n fun i hi => h i (by omega)
    obtain ⟨a, ha⟩ := h n (by omega)
    refine ⟨l ++ [a], by simp [hl], fun i hi => ?_⟩
    by_cases hin : i < l.length
    · rw [List.getElem_append_left hin]; exact hp i hin
    · have hi2 : i = l.length := by simp at hi; omega
      subst hi2
      rw [List.getElem_append_right (by omega)]
      simpa [hl] using ha
theorem cells_slice (A : Option Addr) (l c : Nat) : (Value.slice A l c).cells.toList = [.slice A l c] := rfl
/-- A slice of numbers. -/
theorem trod_ints_sl {t e : TypeId} {k : IntKind} {base : Nat} {held : Bool} {fuel : Nat} {v : Value} {x : DataW H × List MemPlace} (ht : P.underlying t = some (.slice e)) (he : P.underlying e = some (.int k)) (hc : P.cellsOf e = 1)
    (h : DataW.trod enc P w base (fun _ => true) held fuel t [v] = some x) : ∃ xs : List Int, SlE (Value.int k) w v xs ∧ ∀ n ∈ xs, (Lit.int k n).wf = true := by
  rcases open_ints ht he hc h with ⟨hcs, _⟩ | ⟨a, len, cap, zs, hcs, _, hl, hm, hz, hx, hcell, hwf⟩
  · simp at hcs; subst hcs
    exact ⟨[], SlE.nil _ (Nat.zero_le _) _, fun n hn => by cases hn⟩
  · simp at hcs; subst hcs
    simp only [if_true] at hz
    have hlen : (zs.take len).length = len := by rw [List.length_take]; omega
    refine ⟨zs.take len, ⟨some a, cap, by rw [hlen], by omega, hm, fun i hi => ?_⟩, fun n hn => hwf n (List.mem_of_mem_take hn)⟩
    have hi2 : i < zs.length := by omega
    have hci := hcell i hi2
    have hs : a.spot = none := by simpa [Addr.add] using World.cell?_spot (hcell 0 (by omega))
    obtain ⟨b, o, sp⟩ := a
    simp only at hs; subst hs
    rw [Addr.add_lit] at hci
    refine ⟨b, o, rfl, World.block_lt_of_cell? _ _ hci, ?_⟩
    rw [hci]
    simp [List.getD, List.getElem?_eq_getElem hi2]
/-- A slice of strings. -/
theorem trod_strs_sl {t e : TypeId} {base : Nat} {held : Bool} {fuel : Nat} {v : Value} {x : DataW H × List MemPlace} (ht : P.underlying t = some (.slice e)) (he : P.underlying e = some .string) (hc : P.cellsOf e = 1)
    (h : DataW.trod enc P w base (fun _ => true) held fuel t [v] = some x) : ∃ xs : List ByteArray, SlE Value.string w v xs ∧ ∀ s ∈ xs, s.size ≤ maxLen := by
  rcases open_strings ht he hc h with ⟨hcs, _⟩ | ⟨a, len, cap, zs, hcs, _, hl, hm, hz, hx, hcell, hwf⟩
  · simp at hcs; subst hcs
    exact ⟨[], SlE.nil _ (Nat.zero_le _) _, fun n hn => by cases hn⟩
  · simp at hcs; subst hcs
    simp only [if_true] at hz
    have hlen : (zs.take len).length = len := by rw [List.length_take]; omega
    refine ⟨zs.take len, ⟨some a, cap, by rw [hlen], by omega, hm, fun i hi => ?_⟩, fun n hn => hwf n (List.mem_of_mem_take hn)⟩
    have hi2 : i < zs.length := by omega
    have hci := hcell i hi2
    have hs : a.spot = none := by simpa [Addr.add] using World.cell?_spot (hcell 0 (by omega))
    obtain ⟨b, o, sp⟩ := a
    simp only at hs; subst hs
    rw [Addr.add_lit] at hci
    refine ⟨b, o, rfl, World.block_lt_of_cell? _ _ hci, ?_⟩
    rw [hci]
    simp [List.getD, List.getElem?_eq_getElem hi2]
/-- A slice of whatever: each element's cells, and how they read. -/
theorem trod_slice_at {t e : TypeId} {base : Nat} {held : Bool} {fuel : Nat} {v : Value} {x : DataW H × List MemPlace} {sz : Nat} (ht : P.underlying t = some (.slice e)) (hc : P.cellsOf e = sz) (h0 : 0 < sz)
    (h : DataW.trod enc P w base (fun _ => true) held fuel t [v] = some x) : ∃ A n c, v = .slice A n c ∧ n ≤ c ∧ c ≤ maxLen ∧ ∀ i, i < n → ∃ b o cs m y, A = some ⟨b, o, none⟩ ∧ b < w.heap.size ∧ cs.length = sz ∧ (∀ j, j < sz → w.cell? ⟨b, o + i * sz + j, none⟩ = cs[j]?) ∧ DataW.trod enc P w base (fun _ => true) held m e cs = some y := by
  rcases open_slice ht h with ⟨hcs, _⟩ | ⟨a, len, cap, m, n, D, Pl, hcs, _, hl, hm, hmm, hx, hcell⟩
  · simp at hcs; subst hcs
    exact ⟨none, 0, 0, rfl, Nat.le_refl _, Nat.zero_le _, fun i hi => by cases hi⟩
  · simp at hcs; subst hcs
    simp only [if_true] at hmm
    refine ⟨some a, len, cap, rfl, hl, hm, fun i hi => ?_⟩
    obtain ⟨cs', h1, h2⟩ := hcell i (by omega)
    rw [hc] at h1
    obtain ⟨_, hlen, hcc⟩ := World.cells?_some h1
    have hc0 := hcc 0 h0
    rw [List.getElem?_eq_getElem (by omega)] at hc0
    obtain ⟨b, o, sp⟩ := a
    have hs : sp = none := by
      obtain ⟨cs0, g1, _⟩ := hcell 0 (by omega)
      rw [hc] at g1
      obtain ⟨_, glen, gcc⟩ := World.cells?_some g1
      have gc0 := gcc 0 h0
      rw [List.getElem?_eq_getElem (by omega)] at gc0
      simpa [Addr.add] using World.cell?_spot gc0
    subst hs
    rw [Addr.add_lit, Addr.add_lit] at hc0
    refine ⟨b, o, cs', _, _, rfl, World.block_lt_of_cell? _ _ hc0, hlen, fun j hj => ?_, h2⟩
    have := hcc j hj
    rw [Addr.add_lit, Addr.add_lit] at this
    exact this
theorem trod_of_slice {t e : TypeId} {base b0 : Nat} {held : Bool} {r : Reach} {v : Value} {d : DataW H} {p : List MemPlace} (ht : P.underlying t = some (.slice e)) (hv : Value.okWide P w r b0 t v)
    (h : DataW.Trod enc P w base (fun _ => true) held t v d p) : ∃ fuel, DataW.trod enc P w base (fun _ => true) held fuel t [v] = some (d, p) := by
  obtain ⟨a, l, c, rfl⟩ := okWide_slice ht hv
  obtain ⟨fuel, hf⟩ := h
  exact ⟨fuel, hf⟩
/-- Arguments read behind the call as before it, if it but makes new blocks. -/
theorem trodAll_below (hl : laidOutB P = true) {W' : World} (hb : Below w.heap.size w W') : ∀ {ts : List TypeId} {vs : List Value} {ds : List (DataW H)} {ps : List MemPlace}, (∀ t ∈ ts, P.readableRec t = true ∧ t < P.types.size) →
    DataW.TrodAll enc P w 0 (fun _ => true) true ts vs ds ps → (∀ x ∈ ps, x.block < w.heap.size) → DataW.TrodAll enc P W' 0 (fun b => decide (b < w.heap.size)) true ts vs ds ps
  | [], [], [], ps, _, h, _ => h
  | t :: ts, v :: vs, d :: ds, ps, ht, h, hlt => by
    obtain ⟨p, q, h1, h2, rfl⟩ := h
    obtain ⟨r1, r2⟩ := ht t (List.mem_cons_self ..)
    exact ⟨p, q, Below.trod hl r1 r2 h1 hb fun x hx => hlt x (List.mem_append_left _ hx), trodAll_below hl hb (fun u hu => ht u (List.mem_cons_of_mem _ hu)) h2 fun x hx => hlt x (List.mem_append_right _ hx), rfl⟩
  | [], _ :: _, _, _, _, h, _ => h.elim
  | [], [], _ :: _, _, _, h, _ => h.elim
  | _ :: _, [], _, _, _, h, _ => h.elim
  | _ :: _, _ :: _, [], _, _, h, _ => h.elim
end
end Go.Proofs.YtgamenliikbkcaaDoor
