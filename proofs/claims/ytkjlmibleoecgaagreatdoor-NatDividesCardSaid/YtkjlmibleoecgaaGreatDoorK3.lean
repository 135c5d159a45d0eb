/- Rows of a call's own, that grow by append. -/
import Derived.Test.YtkjlmibleoecgaaGreatDoorK1
import Derived.Laws.AppendOwn
namespace Go.Proofs.YtkjlmibleoecgaaGreatDoor
set_option linter.unusedSimpArgs false
set_option linter.unusedVariables false
open Go.RowKit

/-- v is a slice, of a block at or behind B, that owns the row xs. -/
def OwnE {α : Type} (enc : α → Value) (E : TypeId) (B : Nat) (w : World) (v : Value) (xs : List α) : Prop := w.ownsRow B E 1 v xs.length (xs.map enc)
theorem OwnE.nil {α : Type} (enc : α → Value) (E : TypeId) (B : Nat) (w : World) : OwnE enc E B w (.slice none 0 0) [] := ⟨rfl, .inl ⟨rfl, rfl⟩⟩
theorem OwnE.form {α : Type} {enc : α → Value} {E : TypeId} {B : Nat} {w : World} {v : Value} {xs : List α} (h : OwnE enc E B w v xs) : ∃ A c, v = .slice A xs.length c := by
  rcases h.2 with ⟨rfl, h0⟩ | ⟨g, cap, cur, rfl, _⟩
  · exact ⟨none, 0, by rw [h0]⟩
  · exact ⟨_, _, rfl⟩
theorem OwnE.new {α : Type} {enc : α → Value} {E : TypeId} {B : Nat} {w w' : World} {v : Value} {xs : List α} (h : OwnE enc E B w v xs) (hn : New w w') : OwnE enc E B w' v xs := by
  refine ⟨h.1, ?_⟩
  rcases h.2 with ⟨rfl, h0⟩ | ⟨g, cap, cur, rfl, h1, h2, h3⟩
  · exact .inl ⟨rfl, h0⟩
  · exact .inr ⟨g, cap, cur, rfl, h1, hn.block h2, h3⟩
/-- A cell of a block of another type is turned. -/
theorem OwnE.set {α : Type} {enc : α → Value} {E : TypeId} {B : Nat} {w : World} {v : Value} {xs : List α} (h : OwnE enc E B w v xs) {p i : Nat} {C' : Array Value} {T : TypeId} {fr' : Nat × Nat} (hp : w.heap[p]? = some (.cells C' T fr')) (ht : T ≠ E) (u : Value) : OwnE enc E B (w.setCell ⟨p, i, none⟩ u) v xs := by
  refine ⟨h.1, ?_⟩
  rcases h.2 with ⟨rfl, h0⟩ | ⟨g, cap, cur, rfl, h1, h2, h3⟩
  · exact .inl ⟨rfl, h0⟩
  · have hne : g ≠ p := by
      rintro rfl
      rw [hp] at h2
      injection h2 with h2; injection h2 with _ h2 _
      exact ht h2
    exact .inr ⟨g, cap, cur, rfl, h1, by rw [Below.heap_setCell w _ u g hne]; exact h2, h3⟩
theorem OwnE.at {α : Type} {enc : α → Value} {E : TypeId} {B : Nat} {w : World} {v : Value} {xs : List α} (h : OwnE enc E B w v xs) (h0 : xs ≠ []) : ∃ g c, v = .slice (some ⟨g, 0, none⟩) xs.length c ∧ xs.length ≤ c ∧ c ≤ maxLen ∧ B ≤ g ∧ (∃ cur, w.heap[g]? = some (.cells cur E (0, 0))) ∧ ∀ i (hi : i < xs.length), w.cell? ⟨g, i, none⟩ = some (enc xs[i]) := by
  rcases h.2 with ⟨rfl, h1⟩ | ⟨g, cap, cur, rfl, h1, h2, h3, h4, h5, h6⟩
  · exact absurd (List.length_eq_zero_iff.1 h1) h0
  · refine ⟨g, cap, rfl, h3, h4, h1, ⟨cur, h2⟩, fun i hi => ?_⟩
    simp only [World.cell?, h2]
    have e : (cur.toList.take (xs.length * 1))[i]? = (xs.map enc)[i]? := by rw [h6]
    rw [List.getElem?_take_of_lt (by omega), List.getElem?_map, List.getElem?_eq_getElem hi] at e
    simpa using e
theorem OwnE.sl {E : TypeId} {k : IntKind} {B : Nat} {w : World} {v : Value} {xs : List Nat} (h : OwnE (fun x : Nat => Value.int k (x : Int)) E B w v xs) : Sl E k w v xs := by
  by_cases h0 : xs = []
  · subst h0
    rcases h.2 with ⟨rfl, _⟩ | ⟨g, cap, cur, rfl, h1, h2, h3, h4, h5, h6⟩
    · exact ⟨none, 0, rfl, Nat.le_refl _, Nat.zero_le _, fun i hi => by cases hi⟩
    · exact ⟨_, _, rfl, h3, h4, fun i hi => by cases hi⟩
  · obtain ⟨g, c, rfl, h1, h2, _, ⟨cur, h3⟩, h4⟩ := h.at h0
    exact ⟨_, _, rfl, h1, h2, fun i hi => ⟨g, 0, cur, _, rfl, h3, by rw [Nat.zero_add, h4 i hi, getD_lt hi]⟩⟩
/-- A row of one's own is a block. -/
theorem OwnE.of_box {α : Type} {enc : α → Value} {E : TypeId} {B : Nat} {w : World} {g : Nat} {xs : List α} (h : Box w g (xs.map enc).toArray E) (hB : B ≤ g) (hl : xs.length ≤ maxLen) : OwnE enc E B w (.slice (some ⟨g, 0, none⟩) xs.length xs.length) xs :=
  ⟨by simp, .inr ⟨g, _, _, rfl, hB, h, Nat.le_refl _, hl, by simp, by simp [← List.map_take]⟩⟩
section
variable {P : Program} {α : Type}
theorem app_own (enc : α → Value) (w0 w : World) {ops : Array Oper} {rest : List Oper} {o : Oper} {a : Act} {Q : Exit → Act → World → Prop} (hgd : o.guard = none) (s x : Operand) (t E : TypeId)
    (ho : o.op = .call { callee := .builtin .append, args := #[s, x], argTypes := #[t, t] })
    (z : Value) (bytes : Nat) (ht : P.underlying t = some (.slice E)) (hi : (P.info? E).map (fun i => (i.zero, i.size, i.bytes)) = some (some z, 1, bytes)) (hzs : z.cells.size = 1) (hby : bytes ≤ 16)
    (v : Value) (xs : List α) (hs : a.eval s = v) (hn : New w0 w) (hown : OwnE enc E w0.heap.size w v xs)
    (b i c : Nat) (y : α) (hx : a.eval x = .slice (some ⟨b, i, none⟩) 1 c) (hy : w.cell? ⟨b, i, none⟩ = some (enc y)) (h1 : (enc y).oneCell' = true) (hl : xs.length ≤ 1099511627776)
    (h : ∀ A c' w', OwnE enc E w0.heap.size w' (.slice A (xs.length + 1) c') (xs ++ [y]) → New w0 w' → wpList P ops Q rest (a.put o.dst (.slice A (xs.length + 1) c')) w') : wpList P ops Q (o :: rest) a w := by
  obtain ⟨i0, hi, hz0, hz1, hz2⟩ := info_parts hi
  refine wpList_append_own w hgd s x t ho w0.heap.size E i0 z 1 bytes ht hi hz0 hz1 hz2 hzs (by decide) v xs.length (xs.map enc) hs hown ⟨b, i, none⟩ 1 c [enc y] hx rfl ?_ ?_ (by unfold maxLen; omega) ?_ hn.le ?_
  · intro j u hj
    cases j with
    | zero => simp at hj; rw [← hj]; exact hy
    | succ j => simp at hj
  · intro u hu; simp at hu; rw [hu]; exact h1
  · have : (xs.length + 1) * bytes ≤ (xs.length + 1) * 16 := Nat.mul_le_mul_left _ hby
    omega
  · intro v' w' ho hg _
    have hown' : OwnE enc E w0.heap.size w' v' (xs ++ [y]) := by unfold OwnE; rw [List.map_append, List.length_append]; exact ho
    obtain ⟨A, c', rfl⟩ := hown'.form
    rw [List.length_append] at *
    refine h A c' w' hown' (Below.grown hn hg hn.le fun k hk => ?_)
    rcases hown.2 with ⟨rfl, _⟩ | ⟨g, cap, cur, rfl, h1, _⟩
    · simp [Value.ownBlock] at hk
    · simp [Value.ownBlock] at hk; omega
end
end Go.Proofs.YtkjlmibleoecgaaGreatDoor
