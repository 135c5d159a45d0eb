/- A step of the islands, in plain words; rows of numbers in memory. -/
import Derived.Test.YtpgloooebaklmaaP2
namespace Go.Proofs.Ytpgloooebaklmaa
set_option linter.unusedSimpArgs false
set_option linter.unusedVariables false
open Go.RowKit
def nE (n : Nat) : Value := .int .i64 (n : Int)
theorem step_append (xs : List Nat) : ∀ (p q : List Ln), step xs p = none → step xs (p ++ q) = step xs q
  | [], q, _ => rfl
  | (f, t, c) :: p, q, h => by
    unfold step at h
    split at h
    · cases h
    · rename_i hc
      have e : step xs ((f, t, c) :: p ++ q) = step xs (p ++ q) := by
        show step xs ((f, t, c) :: (p ++ q)) = _
        conv => lhs; unfold step
        rw [if_neg hc]
      rw [e]
      exact step_append xs p q h
theorem step_head (xs : List Nat) (f t : Nat) (c : Bool) (r : List Ln) (h : (c && xs.getD f 0 != xs.getD t 0) = true) : step xs ((f, t, c) :: r) = some ((xs.set f (min (xs.getD f 0) (xs.getD t 0))).set t (min (xs.getD f 0) (xs.getD t 0))) := by
  conv => lhs; unfold step
  rw [if_pos h]
theorem step_skip (xs : List Nat) (f t : Nat) (c : Bool) (r : List Ln) (h : (c && xs.getD f 0 != xs.getD t 0) = false) : step xs ((f, t, c) :: r) = step xs r := by
  conv => lhs; unfold step
  rw [if_neg (by rw [h]; simp)]
theorem lns_take {ls : List Lin} {k : Nat} (hk : k < ls.length) : lnsOf (ls.take (k + 1)) = lnsOf (ls.take k) ++ [lnOf ls[k]] := by
  unfold lnsOf
  rw [List.take_succ_eq_append_getElem hk, List.map_append]
  rfl
theorem lns_split {ls : List Lin} {k : Nat} (hk : k < ls.length) : lnsOf ls = lnsOf (ls.take k) ++ lnOf ls[k] :: lnsOf (ls.drop (k + 1)) := by
  unfold lnsOf
  conv => lhs; rw [← List.take_append_drop k ls, List.drop_eq_getElem_cons hk]
  rw [List.map_append, List.map_cons]
theorem sum_set : ∀ (xs : List Nat) (i m : Nat), i < xs.length → (xs.set i m).sum + xs.getD i 0 = xs.sum + m
  | [], i, m, h => by simp at h
  | x :: xs, 0, m, _ => by simp; omega
  | x :: xs, i + 1, m, h => by
    have := sum_set xs i m (by simp at h; omega)
    simp only [List.set_cons_succ, List.sum_cons, List.getD_cons_succ]
    omega
theorem set_less {xs : List Nat} {f t : Nat} (hf : f < xs.length) (ht : t < xs.length) (hne : xs.getD f 0 ≠ xs.getD t 0) :
    ((xs.set f (min (xs.getD f 0) (xs.getD t 0))).set t (min (xs.getD f 0) (xs.getD t 0))).sum < xs.sum := by
  have hft : f ≠ t := fun e => hne (by rw [e])
  have h1 := sum_set xs f (min (xs.getD f 0) (xs.getD t 0)) hf
  have h2 := sum_set (xs.set f (min (xs.getD f 0) (xs.getD t 0))) t (min (xs.getD f 0) (xs.getD t 0)) (by rw [List.length_set]; exact ht)
  have e : (xs.set f (min (xs.getD f 0) (xs.getD t 0))).getD t 0 = xs.getD t 0 := by
    simp [List.getD, List.getElem?_set_ne hft]
  rw [e] at h2
  omega
theorem steps_len {ls : List Ln} {xs ys : List Nat} (h : Steps ls xs ys) : ys.length = xs.length := by
  have hs : ∀ (ls : List Ln) (xs ys : List Nat), step xs ls = some ys → ys.length = xs.length := by
    intro ls
    induction ls with
    | nil => intro xs ys h; cases h
    | cons l r ih =>
      intro xs ys h
      obtain ⟨f, t, c⟩ := l
      unfold step at h
      split at h
      · injection h with h
        rw [← h, List.length_set, List.length_set]
      · exact ih xs ys h
  induction h with
  | refl => rfl
  | tail _ h2 ih => rw [hs _ _ _ h2, ih]
/-- The sum of a row of numbers in memory. -/
def cellN (w : World) (b i : Nat) : Nat := match w.cell? ⟨b, i, none⟩ with
  | some (.int _ q) => q.toNat
  | _ => 0
def rsum (w : World) (b n : Nat) : Nat := ((List.range n).map (cellN w b)).sum
theorem rsum_own {B : Nat} {w : World} {b n c : Nat} {xs : List Nat} (h : OwnE nE 3 B w (.slice (some ⟨b, 0, none⟩) n c) xs) : rsum w b n = xs.sum := by
  have hn : n = xs.length := by
    obtain ⟨A', c', e, _⟩ := h.sl
    injection e
  unfold rsum
  congr 1
  refine List.ext_getElem (by simp [hn]) fun i h1 h2 => ?_
  rw [List.getElem_map, List.getElem_range]
  obtain ⟨g, c', e, _, _, _, _, hc⟩ := h.at (by intro e; rw [e] at h2; simp at h2)
  injection e with e1 e2 e3
  injection e1 with e1
  injection e1 with e1 _ _
  subst e1
  unfold cellN
  rw [hc i h2]
  simp [nE]
theorem own_put {α : Type} {enc : α → Value} {E : TypeId} {B : Nat} {w : World} {g n cap : Nat} {xs : List α} (h : OwnE enc E B w (.slice (some ⟨g, 0, none⟩) n cap) xs) (i : Nat) (hi : i < xs.length) (y : α) :
    OwnE enc E B (w.setCell ⟨g, i, none⟩ (enc y)) (.slice (some ⟨g, 0, none⟩) n cap) (xs.set i y) := by
  obtain ⟨h0, h⟩ := h
  rcases h with ⟨e, _⟩ | ⟨g', cap', cur, e, h1, h2, h3, h4, h5, h6⟩
  · cases e
  · injection e with e1 e2 e3
    injection e1 with e1
    injection e1 with e1 _ _
    subst e1
    refine ⟨by simp, .inr ⟨g, cap', cur.setIfInBounds i (enc y), by rw [e3, e2]; simp, h1, ?_, by simpa using h3, h4, by simpa using h5, ?_⟩⟩
    · exact Box.set (show Box w g cur E from h2) i (enc y)
    · rw [Array.toList_setIfInBounds, List.take_set, List.length_set, h6, List.map_set]
theorem own_at {B : Nat} {w : World} {b n c : Nat} {xs : List Nat} (h : OwnE nE 3 B w (.slice (some ⟨b, 0, none⟩) n c) xs) (i : Nat) (hi : i < xs.length) : w.cell? ⟨b, i, none⟩ = some (.int .i64 ((xs.getD i 0 : Nat) : Int)) ∧ w.frozen? ⟨b, i, none⟩ = false := by
  obtain ⟨g, c', e, _, _, _, ⟨cur, hcur⟩, hc⟩ := h.at (by intro e; rw [e] at hi; simp at hi)
  injection e with e1 e2 e3
  injection e1 with e1
  injection e1 with e1 _ _
  subst e1
  refine ⟨by rw [hc i hi]; simp [nE, List.getD, List.getElem?_eq_getElem hi], ?_⟩
  exact (show Box w b cur 3 from hcur).frozen i
end Go.Proofs.Ytpgloooebaklmaa
