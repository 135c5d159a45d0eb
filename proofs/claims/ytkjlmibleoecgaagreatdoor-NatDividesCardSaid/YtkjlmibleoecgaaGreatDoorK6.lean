/- Append to a row of one's own: what else stays. -/
import Derived.Test.YtkjlmibleoecgaaGreatDoorK3
namespace Go.Proofs.YtkjlmibleoecgaaGreatDoor
open Go.RowKit
variable {P : Program} {α : Type}
theorem app_own2 (enc : α → Value) (w0 w : World) {ops : Array Oper} {rest : List Oper} {o : Oper} {a : Act} {Q : Exit → Act → World → Prop} (hgd : o.guard = none) (s x : Operand) (t E : TypeId)
    (ho : o.op = .call { callee := .builtin .append, args := #[s, x], argTypes := #[t, t] })
    (z : Value) (bytes : Nat) (ht : P.underlying t = some (.slice E)) (hi : (P.info? E).map (fun i => (i.zero, i.size, i.bytes)) = some (some z, 1, bytes)) (hzs : z.cells.size = 1) (hby : bytes ≤ 16)
    (v : Value) (xs : List α) (hs : a.eval s = v) (hn : New w0 w) (hown : OwnE enc E w0.heap.size w v xs)
    (b i c : Nat) (y : α) (hx : a.eval x = .slice (some ⟨b, i, none⟩) 1 c) (hy : w.cell? ⟨b, i, none⟩ = some (enc y)) (h1 : (enc y).oneCell' = true) (hl : xs.length ≤ 1099511627776)
    (h : ∀ A c' w', OwnE enc E w0.heap.size w' (.slice A (xs.length + 1) c') (xs ++ [y]) → New w0 w' → (∀ (p : Nat) (C : Array Value) (T : TypeId) (fr : Nat × Nat), w.heap[p]? = some (Obj.cells C T fr) → T ≠ E → w'.heap[p]? = some (Obj.cells C T fr)) → w.heap.size ≤ w'.heap.size → wpList P ops Q rest (a.put o.dst (.slice A (xs.length + 1) c')) w') : wpList P ops Q (o :: rest) a w := by
  obtain ⟨i0, hi, hz0, hz1, hz2⟩ := info_parts hi
  refine wpList_append_own w hgd s x t ho w0.heap.size E i0 z 1 bytes ht hi hz0 hz1 hz2 hzs (by decide) v xs.length (xs.map enc) hs hown ⟨b, i, none⟩ 1 c [enc y] hx rfl ?_ ?_ (by unfold maxLen; omega) ?_ hn.le ?_
  · intro j u hj
    cases j with
    | zero => simp at hj; rw [← hj]; exact hy
    | succ j => simp at hj
  · intro u hu; simp at hu; rw [hu]; exact h1
  · have : (xs.length + 1) * bytes ≤ (xs.length + 1) * 16 := Nat.mul_le_mul_left _ hby
    omega
  · intro v' w' ho hg _
    have hown' : OwnE enc E w0.heap.size w' v' (xs ++ [y]) := by unfold OwnE; rw [List.map_append, List.length_append]; exact ho
    obtain ⟨A, c', rfl⟩ := hown'.form
    rw [List.length_append] at *
    refine h A c' w' hown' (Below.grown hn hg hn.le fun k hk => ?_) (fun p C T fr hp hT => ?_) hg.size
    · rcases hown.2 with ⟨rfl, _⟩ | ⟨g, cap, cur, rfl, h1, _⟩
      · simp [Value.ownBlock] at hk
      · simp [Value.ownBlock] at hk; omega
    · rw [hg.block p (lt_of_block hp) ?_]
      · exact hp
      · intro hk
        rcases hown.2 with ⟨rfl, _⟩ | ⟨g, cap, cur, rfl, h1, h2, _⟩
        · simp [Value.ownBlock] at hk
        · simp [Value.ownBlock] at hk
          subst hk
          rw [hp] at h2
          injection h2 with h2; injection h2 with _ h2 _
          exact hT h2
/-- What else is kept: a slice of another type. -/
theorem Sl.kept {E : TypeId} {k : IntKind} {w w' : World} {v : Value} {xs : List Nat} (h : Sl E k w v xs) {F : TypeId} (hne : E ≠ F) (hk : ∀ (p : Nat) (C : Array Value) (T : TypeId) (fr : Nat × Nat), w.heap[p]? = some (Obj.cells C T fr) → T ≠ F → w'.heap[p]? = some (Obj.cells C T fr)) : Sl E k w' v xs := by
  obtain ⟨A, c, e, h1, h2, h3⟩ := h
  refine ⟨A, c, e, h1, h2, fun i hi => ?_⟩
  obtain ⟨b, o, C, fr, e, hl, hc⟩ := h3 i hi
  have hb := hk b C E fr hl hne
  refine ⟨b, o, C, fr, e, hb, ?_⟩
  rw [← hc]
  exact World.cell?_of_block (hb.trans hl.symm)
theorem NatV.kept {w w' : World} {v : Value} {n : Nat} (h : NatV w v n) {F : TypeId} (hne : 89 ≠ F) (hk : ∀ (p : Nat) (C : Array Value) (T : TypeId) (fr : Nat × Nat), w.heap[p]? = some (Obj.cells C T fr) → T ≠ F → w'.heap[p]? = some (Obj.cells C T fr)) : NatV w' v n := by
  obtain ⟨u, e, h⟩ := h
  exact ⟨u, e, h.kept hne hk⟩
end Go.Proofs.YtkjlmibleoecgaaGreatDoor
