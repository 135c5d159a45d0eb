/- Worlds, blocks, slices that read as lists, rows of a call's own: of no program. -/
import Derived.WalkKit
import Derived.Below
import Derived.Deep.LoopGhost
import Derived.Deep.OwnRows
import Derived.BigGuard
import Derived.BigQuiet
import Derived.Deep.QuietTactic
import Derived.WalkLawsBesides
import Derived.WalkSpells
import Derived.OwnWalk
import Derived.IntWalk
import Derived.Lib.Hide
import Derived.Lib.AppendStr
import Derived.Laws.AppendOwn
import Derived.Laws.OwnMore
import Derived.Laws.IdiomStrings
namespace Go.Proofs.YtgamenliikbkcaaDoor
set_option linter.unusedSimpArgs false
set_option linter.unusedVariables false
open Go.RowKit

theorem lt_of_block {w : World} {b : Nat} {o : Obj} (h : w.heap[b]? = some o) : b < w.heap.size := by
  by_cases hb : b < w.heap.size
  · exact hb
  · rw [Array.getElem?_eq_none (by omega)] at h; cases h
/-- Block b is of these cells. -/
def Box (w : World) (b : Nat) (C : Array Value) (t : TypeId) : Prop := w.heap[b]? = some (.cells C t (0, 0))
theorem ret_i64 {a b : Int} (h : a = b) : Ending.returned (.int .i64 a) = .returned (.int .i64 b) := by rw [h]
/-- w' is w and new blocks. -/
def New (w w' : World) : Prop := Below w.heap.size w w'
theorem New.refl (w : World) : New w w := Below.refl _ _
theorem New.le {w w' : World} (h : New w w') : w.heap.size ≤ w'.heap.size := Below.size h
theorem New.trans {a b c : World} (h : New a b) (k : New b c) : New a c := Below.trans h (Below.mono k h.le)
theorem New.alloc {a b : World} (h : New a b) (o : Obj) : New a (b.alloc o) := Below.alloc h h.le o
theorem New.drew {a b : World} (h : New a b) : New a b.drew := Below.drew h
theorem New.drewN {a b : World} (h : New a b) (n : Nat) : New a (b.drewN n) := Below.trans h ⟨rfl, rfl, rfl, Nat.le_refl _, fun _ _ => rfl⟩
theorem New.cell {w w' : World} (h : New w w') {b o : Nat} (hb : b < w.heap.size) : w'.cell? ⟨b, o, none⟩ = w.cell? ⟨b, o, none⟩ := Below.cell h (p := ⟨b, o, none⟩) hb
theorem New.still {w w' : World} (h : New w w') {b o : Nat} {v : Value} (hc : w.cell? ⟨b, o, none⟩ = some v) : w'.cell? ⟨b, o, none⟩ = some v := by
  by_cases hb : b < w.heap.size
  · rw [h.cell hb]; exact hc
  · exfalso
    have : w.heap[b]? = none := by rw [Array.getElem?_eq_none]; omega
    simp [World.cell?, this] at hc
theorem New.setCell {a b : World} (h : New a b) {p : Addr} (hp : a.heap.size ≤ p.block) (u : Value) : New a (b.setCell p u) := Below.setCell h hp u
theorem New.block {w w' : World} (h : New w w') {b : Nat} {o : Obj} (hb : w.heap[b]? = some o) : w'.heap[b]? = some o := by
  rw [Below.block h b (lt_of_block hb)]; exact hb
theorem New.of_alloc {w w' : World} {o : Obj} (h : New (w.alloc o) w') : New w w' := ((New.refl w).alloc o).trans h
theorem heap_new (w : World) (o : Obj) : (w.alloc o).heap[w.heap.size]? = some o := by unfold World.alloc; simp
theorem Box.new {w w' : World} (hn : New w w') {b : Nat} {C : Array Value} {t : TypeId} (h : Box w b C t) : Box w' b C t := hn.block h
theorem Box.cell {w : World} {b : Nat} {C : Array Value} {t : TypeId} (h : Box w b C t) (i : Nat) : w.cell? ⟨b, i, none⟩ = C[i]? := by
  simp only [World.cell?]; rw [show w.heap[b]? = _ from h]; rfl
theorem Box.frozen {w : World} {b : Nat} {C : Array Value} {t : TypeId} (h : Box w b C t) (i : Nat) : w.frozen? ⟨b, i, none⟩ = false := by
  simp [World.frozen?, show w.heap[b]? = _ from h]
theorem Box.lt {w : World} {b : Nat} {C : Array Value} {t : TypeId} (h : Box w b C t) : b < w.heap.size := lt_of_block h
theorem Box.last (w : World) (C : Array Value) (t : TypeId) : Box (w.alloc (.cells C t)) w.heap.size C t := by unfold Box World.alloc; simp
theorem Box.alloc {w : World} {b : Nat} {C : Array Value} {t : TypeId} (h : Box w b C t) (o : Obj) : Box (w.alloc o) b C t := Box.new ((New.refl w).alloc o) h
theorem Box.drew {w : World} {b : Nat} {C : Array Value} {t : TypeId} (h : Box w b C t) : Box w.drew b C t := h
theorem Box.drewN {w : World} {b : Nat} {C : Array Value} {t : TypeId} (h : Box w b C t) (n : Nat) : Box (w.drewN n) b C t := h
theorem Box.last2 (w : World) (o : Obj) (C : Array Value) (t : TypeId) : Box ((w.alloc o).alloc (.cells C t)) (w.heap.size + 1) C t := by have := Box.last (w.alloc o) C t; simpa using this
theorem Box.far {w : World} {b : Nat} {C : Array Value} {t : TypeId} (h : Box w b C t) {p i : Nat} (hp : b ≠ p) (u : Value) : Box (w.setCell ⟨p, i, none⟩ u) b C t := by
  unfold Box; rw [Below.heap_setCell w _ u b hp]; exact h
theorem Box.set {w : World} {b : Nat} {C : Array Value} {t : TypeId} (h : Box w b C t) (i : Nat) (u : Value) : Box (w.setCell ⟨b, i, none⟩ u) b (C.setIfInBounds i u) t := by
  unfold Box at h ⊢
  simp [World.setCell, Array.getElem?_modify, h]
theorem Box.ne {w : World} {b c : Nat} {C D : Array Value} {t u : TypeId} (h : Box w b C t) (k : Box w c D u) (e : t ≠ u) : b ≠ c := by
  rintro rfl
  unfold Box at h k
  rw [h] at k
  injection k with k; injection k with _ k _
  exact e k

/-- v is a slice of one-cell elements of type E that reads as xs in w. -/
def SlE {α : Type} (enc : α → Value) (w : World) (v : Value) (xs : List α) : Prop :=
  ∃ A c, v = .slice A xs.length c ∧ xs.length ≤ c ∧ c ≤ maxLen ∧ ∀ i (h : i < xs.length), ∃ b o, A = some ⟨b, o, none⟩ ∧ b < w.heap.size ∧ w.cell? ⟨b, o + i, none⟩ = some (enc xs[i])
section
variable {α : Type} {enc : α → Value} {w w' : World} {v : Value} {xs : List α}
theorem SlE.new (h : SlE enc w v xs) (hb : New w w') : SlE enc w' v xs := by
  obtain ⟨A, c, e, h1, h2, h3⟩ := h
  refine ⟨A, c, e, h1, h2, fun i hi => ?_⟩
  obtain ⟨b, o, e, hl, hc⟩ := h3 i hi
  exact ⟨b, o, e, Nat.lt_of_lt_of_le hl hb.le, hb.still hc⟩
theorem SlE.form (h : SlE enc w v xs) : ∃ A c, v = .slice A xs.length c := by
  obtain ⟨A, c, rfl, _⟩ := h; exact ⟨A, c, rfl⟩
/-- The slice's shape, and its cells under their bound. -/
theorem SlE.open (h : SlE enc w v xs) : ∃ A c, v = .slice A xs.length c ∧ xs.length ≤ c ∧ c ≤ maxLen ∧ ∀ i (h : i < xs.length), ∃ b o, A = some ⟨b, o, none⟩ ∧ b < w.heap.size ∧ w.cell? ⟨b, o + i, none⟩ = some (enc xs[i]) := h
theorem SlE.nil (c : Nat) (hc : c ≤ maxLen) (A : Option Addr) : SlE enc w (.slice A 0 c) [] := ⟨A, c, rfl, Nat.zero_le _, hc, fun i hi => by cases hi⟩
end
/-- The cells of a row. -/
theorem SlE.of_box {α : Type} {enc : α → Value} {w : World} {b : Nat} {t : TypeId} {xs : List α} (h : Box w b (xs.map enc).toArray t) (hl : xs.length ≤ maxLen) :
    SlE enc w (.slice (some ⟨b, 0, none⟩) xs.length xs.length) xs :=
  ⟨_, _, rfl, Nat.le_refl _, hl, fun i hi => ⟨b, 0, rfl, h.lt, by rw [h.cell, Nat.zero_add]; simp [List.getElem?_eq_getElem hi]⟩⟩

/-- v is a slice, of a block at or behind B, that owns the row xs. -/
def OwnE {α : Type} (enc : α → Value) (E : TypeId) (B : Nat) (w : World) (v : Value) (xs : List α) : Prop := w.ownsRow B E 1 v xs.length (xs.map enc)
section
variable {α : Type} {enc : α → Value} {E : TypeId} {B : Nat} {w w' : World} {v : Value} {xs : List α}
theorem OwnE.nil (enc : α → Value) (E : TypeId) (B : Nat) (w : World) : OwnE enc E B w (.slice none 0 0) [] := ⟨rfl, .inl ⟨rfl, rfl⟩⟩
theorem OwnE.form (h : OwnE enc E B w v xs) : ∃ A c, v = .slice A xs.length c := by
  rcases h.2 with ⟨rfl, h0⟩ | ⟨g, cap, cur, rfl, _⟩
  · exact ⟨none, 0, by rw [h0]⟩
  · exact ⟨_, _, rfl⟩
theorem OwnE.new (h : OwnE enc E B w v xs) (hn : New w w') : OwnE enc E B w' v xs := by
  refine ⟨h.1, ?_⟩
  rcases h.2 with ⟨rfl, h0⟩ | ⟨g, cap, cur, rfl, h1, h2, h3⟩
  · exact .inl ⟨rfl, h0⟩
  · exact .inr ⟨g, cap, cur, rfl, h1, hn.block h2, h3⟩
theorem OwnE.mono (h : OwnE enc E B w v xs) {B' : Nat} (hB : B' ≤ B) : OwnE enc E B' w v xs := by
  refine ⟨h.1, ?_⟩
  rcases h.2 with ⟨rfl, h0⟩ | ⟨g, cap, cur, rfl, h1, h2, h3⟩
  · exact .inl ⟨rfl, h0⟩
  · exact .inr ⟨g, cap, cur, rfl, by omega, h2, h3⟩
/-- A cell of a block of another type is turned. -/
theorem OwnE.set (h : OwnE enc E B w v xs) {p i : Nat} {C' : Array Value} {T : TypeId} {fr' : Nat × Nat} (hp : w.heap[p]? = some (.cells C' T fr')) (ht : T ≠ E) (u : Value) : OwnE enc E B (w.setCell ⟨p, i, none⟩ u) v xs := by
  refine ⟨h.1, ?_⟩
  rcases h.2 with ⟨rfl, h0⟩ | ⟨g, cap, cur, rfl, h1, h2, h3⟩
  · exact .inl ⟨rfl, h0⟩
  · have hne : g ≠ p := by
      rintro rfl
      rw [hp] at h2
      injection h2 with h2; injection h2 with _ h2 _
      exact ht h2
    exact .inr ⟨g, cap, cur, rfl, h1, by rw [Below.heap_setCell w _ u g hne]; exact h2, h3⟩
theorem OwnE.at (h : OwnE enc E B w v xs) (h0 : xs ≠ []) : ∃ g c, v = .slice (some ⟨g, 0, none⟩) xs.length c ∧ xs.length ≤ c ∧ c ≤ maxLen ∧ B ≤ g ∧ (∃ cur, w.heap[g]? = some (.cells cur E (0, 0))) ∧ ∀ i (hi : i < xs.length), w.cell? ⟨g, i, none⟩ = some (enc xs[i]) := by
  rcases h.2 with ⟨rfl, h1⟩ | ⟨g, cap, cur, rfl, h1, h2, h3, h4, h5, h6⟩
  · exact absurd (List.length_eq_zero_iff.1 h1) h0
  · refine ⟨g, cap, rfl, h3, h4, h1, ⟨cur, h2⟩, fun i hi => ?_⟩
    simp only [World.cell?, h2]
    have e : (cur.toList.take (xs.length * 1))[i]? = (xs.map enc)[i]? := by rw [h6]
    rw [List.getElem?_take_of_lt (by omega), List.getElem?_map, List.getElem?_eq_getElem hi] at e
    simpa using e
theorem OwnE.sl (h : OwnE enc E B w v xs) : SlE enc w v xs := by
  by_cases h0 : xs = []
  · subst h0
    rcases h.2 with ⟨rfl, _⟩ | ⟨g, cap, cur, rfl, h1, h2, h3, h4, h5, h6⟩
    · exact ⟨none, 0, rfl, Nat.le_refl _, Nat.zero_le _, fun i hi => by cases hi⟩
    · exact ⟨_, _, rfl, h3, h4, fun i hi => by cases hi⟩
  · obtain ⟨g, c, rfl, h1, h2, _, ⟨cur, h3⟩, h4⟩ := h.at h0
    exact ⟨_, _, rfl, h1, h2, fun i hi => ⟨g, 0, rfl, lt_of_block h3, by rw [Nat.zero_add, h4 i hi]⟩⟩
/-- A row of one's own is a block. -/
theorem OwnE.of_box {g : Nat} (h : Box w g (xs.map enc).toArray E) (hB : B ≤ g) (hl : xs.length ≤ maxLen) : OwnE enc E B w (.slice (some ⟨g, 0, none⟩) xs.length xs.length) xs :=
  ⟨by simp, .inr ⟨g, _, _, rfl, hB, h, Nat.le_refl _, hl, by simp, by simp [← List.map_take]⟩⟩
theorem OwnE.block (h : OwnE enc E B w v xs) : v.ownBlock = none ∨ ∃ g cur, v.ownBlock = some g ∧ B ≤ g ∧ w.heap[g]? = some (.cells cur E (0, 0)) := by
  rcases h.2 with ⟨rfl, _⟩ | ⟨g, cap, cur, rfl, h1, h2, _⟩
  · exact .inl rfl
  · exact .inr ⟨g, cur, rfl, h1, h2⟩
end
/-- What an append leaves: blocks of other types are as they were. -/
def Kept (E : TypeId) (w w' : World) : Prop := w.heap.size ≤ w'.heap.size ∧ ∀ (p : Nat) (C : Array Value) (T : TypeId) (fr : Nat × Nat), w.heap[p]? = some (Obj.cells C T fr) → T ≠ E → w'.heap[p]? = some (Obj.cells C T fr)
theorem Kept.refl (E : TypeId) (w : World) : Kept E w w := ⟨Nat.le_refl _, fun _ _ _ _ h _ => h⟩
theorem Kept.trans {E : TypeId} {a b c : World} (h : Kept E a b) (k : Kept E b c) : Kept E a c := ⟨Nat.le_trans h.1 k.1, fun p C T fr hp hT => k.2 p C T fr (h.2 p C T fr hp hT) hT⟩
theorem Kept.of_new {E : TypeId} {a b : World} (h : New a b) : Kept E a b := ⟨h.le, fun p C T fr hp _ => h.block hp⟩
theorem Kept.box {E : TypeId} {a b : World} (h : Kept E a b) {p : Nat} {C : Array Value} {T : TypeId} (hb : Box a p C T) (hT : T ≠ E) : Box b p C T := h.2 p C T _ hb hT
theorem Kept.of_own {α : Type} {enc : α → Value} {E : TypeId} {B : Nat} {w w' : World} {v : Value} {xs : List α} (h : OwnE enc E B w v xs) (hg : w.grownBy w' v.ownBlock) : Kept E w w' := by
  refine ⟨hg.size, fun p C T fr hp hT => ?_⟩
  rw [hg.block p (lt_of_block hp) ?_]
  · exact hp
  · intro hk
    rcases h.block with e | ⟨g, cur, e, _, hh⟩
    · rw [e] at hk; cases hk
    · rw [e] at hk; injection hk with hk; subst hk
      rw [hp] at hh
      injection hh with hh; injection hh with _ hh _
      exact hT hh
theorem New.of_own {α : Type} {enc : α → Value} {E : TypeId} {w0 w w' : World} {v : Value} {xs : List α} (h : OwnE enc E w0.heap.size w v xs) (hn : New w0 w) (hg : w.grownBy w' v.ownBlock) : New w0 w' :=
  Below.grown hn hg hn.le fun k hk => by
    rcases h.block with e | ⟨g, cur, e, hB, _⟩
    · rw [e] at hk; cases hk
    · rw [e] at hk; injection hk with hk; omega
section
variable {P : Program} {α : Type}
/-- append(own, ys...), ys the cells at an address: the operation. -/
theorem wp_app_list (enc : α → Value) (w0 w : World) {o : Oper} {a : Act} {K : Act → World → Prop} {Q : Exit → Act → World → Prop} (s x : Operand) (t E : TypeId)
    (ho : o.op = .call { callee := .builtin .append, args := #[s, x], argTypes := #[t, t] })
    (z : Value) (bytes : Nat) (ht : P.underlying t = some (.slice E)) (hi : (P.info? E).map (fun i => (i.zero, i.size, i.bytes)) = some (some z, 1, bytes)) (hzs : z.cells.size = 1) (hby : bytes ≤ 16)
    (v : Value) (xs : List α) (hs : a.eval s = v) (hn : New w0 w) (hown : OwnE enc E w0.heap.size w v xs)
    (b i c : Nat) (ys : List α) (hx : a.eval x = .slice (some ⟨b, i, none⟩) ys.length c) (hy : ∀ j (h : j < ys.length), w.cell? ⟨b, i + j, none⟩ = some (enc ys[j])) (h1 : ∀ y, (enc y).oneCell' = true) (hl : xs.length + ys.length ≤ 1099511627776)
    (h : ∀ A c' w', OwnE enc E w0.heap.size w' (.slice A (xs.length + ys.length) c') (xs ++ ys) → New w0 w' → Kept E w w' → K (a.put o.dst (.slice A (xs.length + ys.length) c')) w') : o.wp P a w K Q := by
  obtain ⟨i0, hi, hz0, hz1, hz2⟩ := info_parts hi
  refine wp_append_own w s x t ho w0.heap.size E i0 z 1 bytes ht hi hz0 hz1 hz2 hzs (by decide) v xs.length (xs.map enc) hs hown ⟨b, i, none⟩ ys.length c (ys.map enc) hx (by simp) ?_ ?_ (by unfold maxLen; omega) ?_ hn.le ?_
  · intro j u hj
    have hj' : j < ys.length := by
      have := (List.getElem?_eq_some_iff.1 hj).1
      simpa using this
    rw [Addr.add_lit, hy j hj']
    simpa [List.getElem?_eq_getElem hj'] using hj
  · intro u hu
    obtain ⟨y, _, rfl⟩ := List.mem_map.1 hu
    exact h1 y
  · have : (xs.length + ys.length) * bytes ≤ (xs.length + ys.length) * 16 := Nat.mul_le_mul_left _ hby
    omega
  · intro v' w' ho hg _
    have hown' : OwnE enc E w0.heap.size w' v' (xs ++ ys) := by unfold OwnE; rw [List.map_append, List.length_append]; exact ho
    obtain ⟨A, c', rfl⟩ := hown'.form
    rw [List.length_append] at *
    exact h A c' w' hown' (New.of_own hown hn hg) (Kept.of_own hown hg)
/-- append(own, ys...), ys the cells at an address. -/
theorem app_list (enc : α → Value) (w0 w : World) {ops : Array Oper} {rest : List Oper} {o : Oper} {a : Act} {Q : Exit → Act → World → Prop} (hgd : o.guard = none) (s x : Operand) (t E : TypeId)
    (ho : o.op = .call { callee := .builtin .append, args := #[s, x], argTypes := #[t, t] })
    (z : Value) (bytes : Nat) (ht : P.underlying t = some (.slice E)) (hi : (P.info? E).map (fun i => (i.zero, i.size, i.bytes)) = some (some z, 1, bytes)) (hzs : z.cells.size = 1) (hby : bytes ≤ 16)
    (v : Value) (xs : List α) (hs : a.eval s = v) (hn : New w0 w) (hown : OwnE enc E w0.heap.size w v xs)
    (b i c : Nat) (ys : List α) (hx : a.eval x = .slice (some ⟨b, i, none⟩) ys.length c) (hy : ∀ j (h : j < ys.length), w.cell? ⟨b, i + j, none⟩ = some (enc ys[j])) (h1 : ∀ y, (enc y).oneCell' = true) (hl : xs.length + ys.length ≤ 1099511627776)
    (h : ∀ A c' w', OwnE enc E w0.heap.size w' (.slice A (xs.length + ys.length) c') (xs ++ ys) → New w0 w' → Kept E w w' → wpList P ops Q rest (a.put o.dst (.slice A (xs.length + ys.length) c')) w') : wpList P ops Q (o :: rest) a w :=
  wpList_plain hgd fun _ hK => wp_app_list enc w0 w s x t E ho z bytes ht hi hzs hby v xs hs hn hown b i c ys hx hy h1 hl fun A c' w' h2 h3 h4 => hK _ _ (h A c' w' h2 h3 h4)
/-- append(own, x): a step of a region that draws its order. -/
theorem step_app_one (enc : α → Value) (w0 w : World) {ops : Array Oper} {o : Oper} {a : Act} {K : Act → World → Prop} {Q : Exit → Act → World → Prop} {E' : Prop} (hgd : o.guard = none) (s x : Operand) (t E : TypeId)
    (ho : o.op = .call { callee := .builtin .append, args := #[s, x], argTypes := #[t, t] })
    (z : Value) (bytes : Nat) (ht : P.underlying t = some (.slice E)) (hi : (P.info? E).map (fun i => (i.zero, i.size, i.bytes)) = some (some z, 1, bytes)) (hzs : z.cells.size = 1) (hby : bytes ≤ 16)
    (v : Value) (xs : List α) (hs : a.eval s = v) (hn : New w0 w) (hown : OwnE enc E w0.heap.size w v xs)
    (b i c : Nat) (y : α) (hx : a.eval x = .slice (some ⟨b, i, none⟩) 1 c) (hy : w.cell? ⟨b, i, none⟩ = some (enc y)) (h1 : ∀ y, (enc y).oneCell' = true) (hl : xs.length ≤ 1099511627776 - 1)
    (h : ∀ A c' w', OwnE enc E w0.heap.size w' (.slice A (xs.length + 1) c') (xs ++ [y]) → New w0 w' → Kept E w w' → K (a.put o.dst (.slice A (xs.length + 1) c')) w') :
    if Region.wanted o (yielded ops a.tmps) = true then Oper.wp P o a w K Q else E' := by
  have hw : Region.wanted o (yielded ops a.tmps) = true := by simp [Region.wanted, hgd]
  rw [if_pos hw]
  exact wp_app_list enc w0 w s x t E ho z bytes ht hi hzs hby v xs hs hn hown b i c [y] hx (fun j hj => by
    obtain rfl : j = 0 := by simpa using hj
    exact hy) h1 (by simp; omega) h
/-- append(own, s...), s a slice that reads as ys. -/
theorem app_sl (enc : α → Value) (w0 w : World) {ops : Array Oper} {rest : List Oper} {o : Oper} {a : Act} {Q : Exit → Act → World → Prop} (hgd : o.guard = none) (s x : Operand) (t E : TypeId)
    (ho : o.op = .call { callee := .builtin .append, args := #[s, x], argTypes := #[t, t] })
    (z : Value) (bytes : Nat) (ht : P.underlying t = some (.slice E)) (hi : (P.info? E).map (fun i => (i.zero, i.size, i.bytes)) = some (some z, 1, bytes)) (hzs : z.cells.size = 1) (hby : bytes ≤ 16)
    (v : Value) (xs : List α) (hs : a.eval s = v) (hn : New w0 w) (hown : OwnE enc E w0.heap.size w v xs)
    (u : Value) (ys : List α) (hx : a.eval x = u) (hy : SlE enc w u ys) (h1 : ∀ y, (enc y).oneCell' = true) (hl : xs.length + ys.length ≤ 1099511627776)
    (h : ∀ A c' w', OwnE enc E w0.heap.size w' (.slice A (xs.length + ys.length) c') (xs ++ ys) → New w0 w' → Kept E w w' → wpList P ops Q rest (a.put o.dst (.slice A (xs.length + ys.length) c')) w') : wpList P ops Q (o :: rest) a w := by
  by_cases hys : ys = []
  · subst hys
    obtain ⟨A, c, rfl, hc, hm, _⟩ := hy
    obtain ⟨B, d, rfl⟩ := hown.form
    refine wpList_plain hgd fun K hK => ?_
    obtain ⟨i0, hi, hz0, hz1, hz2⟩ := info_parts hi
    have hrun : (Builtin.append_ #[t, t] o.type #[.slice B xs.length d, .slice A 0 c]).run P w = .ok (.slice B xs.length d) w := by
      rcases hown.2 with ⟨e, h0⟩ | ⟨g, cap, cur, e, _, hh, hnc, _⟩
      · injection e with e1 e2 e3
        subst e1; subst e3
        rcases A with _ | ad <;> simp [Builtin.append_, run_underlying ht, sizeOf, typeInfo, hi, Builtin.lenOf, Builtin.firstCells, h0, loadCells, loadCellsFrom]
      · injection e with e1 e2 e3
        subst e1; subst e3
        rcases A with _ | ad <;> simp [Builtin.append_, run_underlying ht, sizeOf, typeInfo, hi, Builtin.lenOf, Builtin.firstCells, hnc, storeCells, loadCells, loadCellsFrom]
    unfold Oper.wp execOp
    simp only [ho, resolve, invoke, builtin, Sem.run_bind, Sem.run_pure, Result.andThen_ok, List.map_toArray, List.map_cons, List.map_nil, hs, hx, List.length_nil, hrun]
    exact hK _ _ (h B d w (by simpa using hown) hn (Kept.refl _ _))
  · obtain ⟨A, c, rfl, hc, hm, hcell⟩ := hy
    obtain ⟨b, o', rfl, _, _⟩ := hcell 0 (List.length_pos_iff.2 hys)
    refine app_list enc w0 w hgd s x t E ho z bytes ht hi hzs hby v xs hs hn hown b o' c ys hx (fun j hj => ?_) h1 hl h
    obtain ⟨b', o'', e, _, hc'⟩ := hcell j hj
    injection e with e; injection e with e1 e2
    subst e1; subst e2
    exact hc'
/-- append(own, x). -/
theorem app_one (enc : α → Value) (w0 w : World) {ops : Array Oper} {rest : List Oper} {o : Oper} {a : Act} {Q : Exit → Act → World → Prop} (hgd : o.guard = none) (s x : Operand) (t E : TypeId)
    (ho : o.op = .call { callee := .builtin .append, args := #[s, x], argTypes := #[t, t] })
    (z : Value) (bytes : Nat) (ht : P.underlying t = some (.slice E)) (hi : (P.info? E).map (fun i => (i.zero, i.size, i.bytes)) = some (some z, 1, bytes)) (hzs : z.cells.size = 1) (hby : bytes ≤ 16)
    (v : Value) (xs : List α) (hs : a.eval s = v) (hn : New w0 w) (hown : OwnE enc E w0.heap.size w v xs)
    (b i c : Nat) (y : α) (hx : a.eval x = .slice (some ⟨b, i, none⟩) 1 c) (hy : w.cell? ⟨b, i, none⟩ = some (enc y)) (h1 : ∀ y, (enc y).oneCell' = true) (hl : xs.length ≤ 1099511627776 - 1)
    (h : ∀ A c' w', OwnE enc E w0.heap.size w' (.slice A (xs.length + 1) c') (xs ++ [y]) → New w0 w' → Kept E w w' → wpList P ops Q rest (a.put o.dst (.slice A (xs.length + 1) c')) w') : wpList P ops Q (o :: rest) a w :=
  app_list enc w0 w hgd s x t E ho z bytes ht hi hzs hby v xs hs hn hown b i c [y] hx (fun j hj => by
    obtain rfl : j = 0 := by simpa using hj
    exact hy) h1 (by simp; omega) h
end
/-- Bytes as cells. -/
def u8 (b : UInt8) : Value := .int .u8 (b.toNat : Int)
theorem u8_one (b : UInt8) : (u8 b).oneCell' = true := rfl
section
variable {P : Program}
/-- append(own, s...), s a string. -/
theorem app_str (w0 w : World) {ops : Array Oper} {rest : List Oper} {o : Oper} {a : Act} {Q : Exit → Act → World → Prop} (hgd : o.guard = none) (s x : Operand) (t u E : TypeId)
    (ho : o.op = .call { callee := .builtin .append, args := #[s, x], argTypes := #[t, u] })
    (ht : P.underlying t = some (.slice E)) (hu : P.underlying u = some .string) (hi : (P.info? E).map (fun i => (i.zero, i.size, i.bytes)) = some (some (.int .u8 0), 1, 1))
    (v : Value) (xs : List UInt8) (hs : a.eval s = v) (hn : New w0 w) (hown : OwnE u8 E w0.heap.size w v xs)
    (y : ByteArray) (hx : a.eval x = .string y) (hl : xs.length + y.size ≤ 1099511627776)
    (h : ∀ A c' w', OwnE u8 E w0.heap.size w' (.slice A (xs.length + y.size) c') (xs ++ y.data.toList) → New w0 w' → Kept E w w' → wpList P ops Q rest (a.put o.dst (.slice A (xs.length + y.size) c')) w') : wpList P ops Q (o :: rest) a w := by
  obtain ⟨i0, hi, hz0, hz1, hz2⟩ := info_parts hi
  refine Lib.wpList_append_own_string w hgd s x t u ho w0.heap.size E i0 ht hu hi hz0 hz1 hz2 v xs.length (xs.map u8) hs hown y hx (by unfold maxLen; omega) (by omega) hn.le ?_
  intro v' w' ho hg _
  have hown' : OwnE u8 E w0.heap.size w' v' (xs ++ y.data.toList) := by
    unfold OwnE
    rw [List.map_append, List.length_append, Array.length_toList]
    exact ho
  obtain ⟨A, c', rfl⟩ := hown'.form
  rw [List.length_append, Array.length_toList] at *
  exact h A c' w' hown' (New.of_own hown hn hg) (Kept.of_own hown hg)
/-- string(b), b bytes. -/
theorem run_str (w : World) (src dst E : TypeId) (v : Value) (l : List UInt8) (hs : P.underlying src = some (.slice E)) (he : P.underlying E = some (.int .u8)) (hd : P.underlying dst = some .string)
    (h : SlE u8 w v l) (h0 : l ≠ []) : (convert src dst v).run P w = .ok (.string ⟨l.toArray⟩) w := by
  obtain ⟨A, c, rfl, hc, hm, hcell⟩ := h
  obtain ⟨b, o', rfl, _, _⟩ := hcell 0 (List.length_pos_iff.2 h0)
  refine run_convert_bytes_back w src dst E _ c l hs he hd fun j hj => ?_
  obtain ⟨b', o'', e, _, hc'⟩ := hcell j hj
  injection e with e; injection e with e1 e2
  subst e1; subst e2
  rw [Addr.add_lit]
  exact hc'
end
/-- w' is w but for the blocks S, and new blocks. -/
structure But (S : Nat → Prop) (w w' : World) : Prop where
  os : w'.os = w.os
  tape : w'.tape = w.tape
  output : w'.output = w.output
  size : w.heap.size ≤ w'.heap.size
  block : ∀ k, k < w.heap.size → ¬ S k → w'.heap[k]? = w.heap[k]?
section
variable {S : Nat → Prop} {a b c w w' : World}
theorem But.refl (S : Nat → Prop) (w : World) : But S w w := ⟨rfl, rfl, rfl, Nat.le_refl _, fun _ _ _ => rfl⟩
theorem But.trans (h : But S a b) (k : But S b c) : But S a c :=
  ⟨k.os.trans h.os, k.tape.trans h.tape, k.output.trans h.output, Nat.le_trans h.size k.size, fun i hi hn => (k.block i (Nat.lt_of_lt_of_le hi h.size) hn).trans (h.block i hi hn)⟩
theorem But.of_new (h : New a b) : But S a b := ⟨h.os, h.tape, h.output, h.le, fun i hi _ => Below.block h i hi⟩
theorem But.set (h : But S a b) {p i : Nat} (hp : S p) (u : Value) : But S a (b.setCell ⟨p, i, none⟩ u) :=
  ⟨h.os, h.tape, h.output, by simpa [World.setCell] using h.size, fun k hk hn => by rw [Below.heap_setCell b _ u k (by rintro rfl; exact hn hp)]; exact h.block k hk hn⟩
theorem But.setFar (h : But S a b) {p i : Nat} (hp : a.heap.size ≤ p) (u : Value) : But S a (b.setCell ⟨p, i, none⟩ u) :=
  ⟨h.os, h.tape, h.output, by simpa [World.setCell] using h.size, fun k hk hn => by rw [Below.heap_setCell b _ u k (fun e => by have e2 : k = p := e; omega)]; exact h.block k hk hn⟩
theorem But.alloc (h : But S a b) (o : Obj) : But S a (b.alloc o) := h.trans (But.of_new ((New.refl b).alloc o))
theorem But.drew (h : But S a b) : But S a b.drew := ⟨h.os, h.tape, h.output, h.size, h.block⟩
theorem But.drewN (h : But S a b) (n : Nat) : But S a (b.drewN n) := ⟨h.os, h.tape, h.output, h.size, h.block⟩
theorem But.more (h : But S a b) {T : Nat → Prop} (hT : ∀ k, S k → T k) : But T a b := ⟨h.os, h.tape, h.output, h.size, fun k hk hn => h.block k hk fun hs => hn (hT k hs)⟩
/-- Blocks that are new to w0 do not count to w0. -/
theorem But.new (h : But S a b) (hn : New w a) (hS : ∀ k, S k → w.heap.size ≤ k) : New w b :=
  ⟨h.os.trans hn.os, h.tape.trans hn.tape, h.output.trans hn.output, Nat.le_trans hn.le h.size, fun k hk => (h.block k (Nat.lt_of_lt_of_le hk hn.le) fun hs => absurd (hS k hs) (by omega)).trans (Below.block hn k hk)⟩
theorem But.box (h : But S a b) {p : Nat} {C : Array Value} {T : TypeId} (hb : Box a p C T) (hp : ¬ S p) : Box b p C T := (h.block p hb.lt hp).trans hb
theorem OwnE.but {α : Type} {enc : α → Value} {E : TypeId} {B : Nat} {v : Value} {xs : List α} (h : OwnE enc E B a v xs) (hb : But S a b) (hS : ∀ k C, S k → a.heap[k]? ≠ some (.cells C E (0, 0))) : OwnE enc E B b v xs := by
  refine ⟨h.1, ?_⟩
  rcases h.2 with ⟨rfl, h0⟩ | ⟨g, cap, cur, rfl, h1, h2, h3⟩
  · exact .inl ⟨rfl, h0⟩
  · exact .inr ⟨g, cap, cur, rfl, h1, by rw [hb.block g (lt_of_block h2) fun hs => hS g cur hs h2]; exact h2, h3⟩
theorem But.cell (h : But S a b) {p o : Nat} {v : Value} (hp : ¬ S p) (hc : a.cell? ⟨p, o, none⟩ = some v) : b.cell? ⟨p, o, none⟩ = some v := by
  rw [← hc]
  exact World.cell?_of_block (h.block p (World.block_lt_of_cell? _ _ hc) hp)
end
theorem data_inj {a b : ByteArray} (h : a.data.toList = b.data.toList) : a = b := by
  obtain ⟨⟨l⟩⟩ := a; obtain ⟨⟨m⟩⟩ := b
  cases h; rfl
theorem data_mk (l : List UInt8) : (⟨l.toArray⟩ : ByteArray).data.toList = l := rfl
theorem size_mk (l : List UInt8) : (⟨l.toArray⟩ : ByteArray).size = l.length := by show l.toArray.size = _; simp
theorem size_data (a : ByteArray) : a.data.toList.length = a.size := by rw [Array.length_toList]; rfl
end Go.Proofs.YtgamenliikbkcaaDoor
