/- A row of numbers in a block of its own; making one; a scope that jumps back. -/
import Derived.Test.YtpgloooebaklmaaP3
import Derived.Test.YtpgloooebaklmaaG4
import Derived.Laws.MakeOwn
import Derived.ScopeJumps
namespace Go.Proofs.Ytpgloooebaklmaa
set_option linter.unusedSimpArgs false
set_option linter.unusedVariables false
open Go.RowKit
/-- The cells of a row of numbers. -/
def rowA (xs : List Nat) : Array Value := (xs.map nE).toArray
/-- A row of numbers that fills its block. -/
def RowB (w : World) (b : Nat) (xs : List Nat) : Prop := Box w b (rowA xs) 3
theorem RowB.put {w : World} {b : Nat} {xs : List Nat} (h : RowB w b xs) (i y : Nat) (u : Value) (hu : u = nE y) : RowB (w.setCell ⟨b, i, none⟩ u) b (xs.set i y) := by
  subst hu
  have := Box.set (show Box w b (xs.map nE).toArray 3 from h) i (nE y)
  unfold RowB rowA
  rw [List.map_set]
  simpa using this
theorem RowB.cell {w : World} {b : Nat} {xs : List Nat} (h : RowB w b xs) (i : Nat) (hi : i < xs.length) : w.cell? ⟨b, i, none⟩ = some (.int .i64 ((xs.getD i 0 : Nat) : Int)) := by
  rw [Box.cell h i]
  simp [rowA, nE, List.getD, List.getElem?_eq_getElem hi]
theorem RowB.far {w : World} {b : Nat} {xs : List Nat} (h : RowB w b xs) {p i : Nat} (hp : b ≠ p) (u : Value) : RowB (w.setCell ⟨p, i, none⟩ u) b xs := Box.far h hp u
theorem RowB.new {w w' : World} {b : Nat} {xs : List Nat} (h : RowB w b xs) (hn : New w w') : RowB w' b xs := Box.new hn h
theorem RowB.lt {w : World} {b : Nat} {xs : List Nat} (h : RowB w b xs) : b < w.heap.size := Box.lt h
theorem RowB.frozen {w : World} {b : Nat} {xs : List Nat} (h : RowB w b xs) (i : Nat) : w.frozen? ⟨b, i, none⟩ = false := Box.frozen h i
theorem RowB.own {w : World} {b B : Nat} {xs : List Nat} (h : RowB w b xs) (hB : B ≤ b) (hl : xs.length ≤ maxLen) : OwnE nE 3 B w (.slice (some ⟨b, 0, none⟩) xs.length xs.length) xs := OwnE.of_box h hB hl
theorem rsum_row {w : World} {b : Nat} {xs : List Nat} (h : RowB w b xs) {n : Nat} (hn : xs.length = n) : rsum w b n = xs.sum := by
  unfold rsum
  congr 1
  refine List.ext_getElem (by simp [hn]) fun i h1 h2 => ?_
  rw [List.getElem_map, List.getElem_range]
  unfold cellN
  rw [h.cell i h2]
  simp [List.getD, List.getElem?_eq_getElem h2]
theorem made_one (z : Value) (n : Nat) : madeCells #[z] n = (List.replicate n z).toArray := by
  unfold madeCells
  apply Array.ext
  · simp
  · intro i h1 h2
    simp [Nat.mod_one]
theorem made_row {n : Nat} (h3 : n ≤ 1024) (W : World) : (Instr.makeSlice 28 (.int .i64 (n : Int)) (.int .i64 (n : Int))).run Try.prog W = .ok (.slice (some ⟨W.heap.size, 0, none⟩) n n) (W.alloc (.cells (rowA (List.replicate n 0)) 3)) := by
  have hb : ((Try.prog.info? 3).get (by kernel_rfl)).bytes = 8 := by kernel_rfl
  have hs : ((Try.prog.info? 3).get (by kernel_rfl)).size = 1 := by kernel_rfl
  rw [run_make (P := Try.prog) W 28 3 ((Try.prog.info? 3).get (by kernel_rfl)) (.int .i64 0) (by kernel_rfl) (by kernel_rfl) (by kernel_rfl) .i64 .i64 _ _ (by omega) (by omega) (by
      rw [hb]
      omega) (by omega)]
  rw [hs, Int.toNat_natCast, Nat.mul_one]
  rw [show (Value.int .i64 0).cells = #[.int .i64 0] from rfl, made_one]
  unfold rowA
  rw [List.map_replicate]
  rfl
theorem getD_set_other {xs : List Nat} {x y m : Nat} (h : x ≠ y) : (xs.set x m).getD y 0 = xs.getD y 0 := by simp [List.getD, List.getElem?_set_ne h]
theorem lnOf_eq (x y : Nat) (c : Int) : lnOf ⟨(x : Int), (y : Int), c⟩ = (x, y, decide (0 < c)) := by simp [lnOf]
theorem range_put {k n : Nat} (hk : k < n) : (List.range k ++ List.replicate (n - k) 0).set k k = List.range (k + 1) ++ List.replicate (n - (k + 1)) 0 := by
  obtain ⟨m, rfl⟩ : ∃ m, n = k + (m + 1) := ⟨n - k - 1, by omega⟩
  rw [show k + (m + 1) - k = m + 1 by omega, show k + (m + 1) - (k + 1) = m by omega, List.range_succ, List.append_assoc, List.replicate_succ, List.set_append_right _ _ (by simp)]
  simp
theorem wp_scope_again {P : Program} {a : Act} {w : World} {Q : Exit → Act → World → Prop} {c rest : Code} (l : Nat) (J : Act → World → Prop) (μ : Act → World → Nat) (hf : findLabel c l = some (Code.skip.seq rest))
    (pass : ∀ a w, J a w → rest.wp P (Exit.jump l (fun a' w' => J a' w' ∧ μ a' w' < μ a w) Q) a w)
    (first : (∀ a w, J a w → rest.wp P (Exit.jump l J Q) a w) → c.wp P (Exit.jump l J Q) a w) : (Code.scope c).wp P Q a w := by
  refine wp_scope_jumps l J μ hf (first fun a w h => ?_) (fun a w h => wp_seq (wp_skip (pass a w h)))
  refine wp_mono (pass a w h) fun e a' w' hq => ?_
  cases e with
  | goto l' => exact ⟨hq.1, hq.2.1⟩
  | _ => exact hq
end Go.Proofs.Ytpgloooebaklmaa
