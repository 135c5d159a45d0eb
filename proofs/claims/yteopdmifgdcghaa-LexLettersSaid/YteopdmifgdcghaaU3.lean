/- The law LexLetters, walked. -/
import Derived.Test.YteopdmifgdcghaaU2
import Derived.Test.YteopdmifgdcghaaB1
namespace Go.Proofs.Yteopdmifgdcghaa
set_option linter.unusedSimpArgs false
set_option linter.unusedVariables false
open Go.RowKit
def rE (n : Int) : Value := .int .i32 n
theorem rE_one (n : Int) : (rE n).oneCell' = true := rfl
theorem info21 : (Try.prog.info? 21).map (fun i => (i.zero, i.size, i.bytes)) = some (some (.int .i32 0), 1, 4) := by kernel_rfl
theorem run_runes {P : Program} {w : World} {src dst E : TypeId} {v : Value} {l : List Int} (hs : P.underlying src = some (.slice E)) (he : P.underlying E = some (.int .i32)) (hd : P.underlying dst = some .string)
    (h : SlE rE w v l) : (convert src dst v).run P w = .ok (.string (encs l)) w := by
  obtain ⟨A, c, rfl, hc, hm, hcell⟩ := h
  by_cases h0 : l = []
  · subst h0
    cases A with
    | none => exact run_convert_runes_nil w src dst E _ c hs he hd
    | some ad =>
      have := run_convert_runes w src dst E ad 0 c [] (Nat.le_refl _) hs he hd (fun j hj => by cases hj)
      rw [List.take_nil, runesBytes_eq] at this
      exact this
  · obtain ⟨b, o', rfl, _, _⟩ := hcell 0 (List.length_pos_iff.2 h0)
    have := run_convert_runes w src dst E ⟨b, o', none⟩ l.length c l (Nat.le_refl _) hs he hd (fun j hj => by
      obtain ⟨b', o'', e, _, hc'⟩ := hcell j hj
      injection e with e; injection e with e1 e2
      subst e1; subst e2
      rw [Addr.add_lit, hc']
      simp [rE, List.getD, List.getElem?_eq_getElem hj])
    rw [List.take_length, runesBytes_eq] at this
    exact this
/-- The letter of a number. -/
def letR (n : Int) : Int := if 128 ≤ n then 945 + n % 25 else 97 + n % 26
def letRs (l : List Int) : List Int := l.map letR
theorem letR_is {n : Int} (h : 0 ≤ n) : (97 ≤ letR n ∧ letR n ≤ 122) ∨ (945 ≤ letR n ∧ letR n ≤ 969) := by
  unfold letR
  split <;> omega
theorem norm_valid {r : Int} (h : (97 ≤ r ∧ r ≤ 122) ∨ (945 ≤ r ∧ r ≤ 969)) : (norm r : Int) = r := by
  unfold norm
  have : Utf8.valid r = true := by unfold Utf8.valid; simp; omega
  rw [if_pos this]
  omega
theorem isL_norm (r : Int) : isL (norm r : Int) = isL r := by
  by_cases h : (97 ≤ r ∧ r ≤ 122) ∨ (945 ≤ r ∧ r ≤ 969)
  · rw [norm_valid h]
  · rw [isL_no h]
    unfold norm
    split
    · by_cases hr : 0 ≤ r
      · rw [Int.toNat_of_nonneg hr, isL_no h]
      · rw [isL_no (by omega)]
    · rfl
theorem nameB_map (l : List Int) : nameB (l.map norm) = (l.all isL && decide (1 ≤ l.length ∧ l.length ≤ 8)) := by
  unfold nameB
  rw [List.length_map, List.all_map]
  congr 2
  funext r
  exact isL_norm r
theorem all_letRs (l : List Int) (h : ∀ n ∈ l, 0 ≤ n) : (letRs l).all isL = true := by
  unfold letRs
  rw [List.all_map, List.all_eq_true]
  intro n hn
  exact isL_yes (letR_is (h n hn))
/-- Letters alone are a name, if there are not too many. -/
theorem name_letters (l : List Int) (h : ∀ n ∈ l, 0 ≤ n) : nameB (runes (encs (letRs l))) = decide (1 ≤ l.length ∧ l.length ≤ 8) := by
  rw [runes_encs, nameB_map, all_letRs l h]
  simp [letRs]
/-- With one rune more they are one if it is a letter. -/
theorem name_odd (l : List Int) (h : ∀ n ∈ l, 0 ≤ n) (n : Nat) (odd : Int) : nameB (runes (encs ((letRs l).take n ++ [odd] ++ (letRs l).drop n))) = (isL odd && decide (l.length + 1 ≤ 8)) := by
  have ha := all_letRs l h
  have e : (letRs l).all isL = (((letRs l).take n).all isL && ((letRs l).drop n).all isL) := by
    conv => lhs; rw [← List.take_append_drop n (letRs l)]
    rw [List.all_append]
  rw [ha] at e
  have h1 : ((letRs l).take n).all isL = true := by
    cases hx : ((letRs l).take n).all isL with
    | true => rfl
    | false => rw [hx] at e; cases e
  have h2 : ((letRs l).drop n).all isL = true := by
    rw [h1] at e
    simpa using e.symm
  rw [runes_encs, nameB_map, List.all_append, List.all_append, h1, h2]
  have hl : ((letRs l).take n ++ [odd] ++ (letRs l).drop n).length = l.length + 1 := by
    rw [List.length_append, List.length_append, List.length_take, List.length_drop]
    simp [letRs]
    omega
  rw [hl]
  have e1 : decide (1 ≤ l.length + 1 ∧ l.length + 1 ≤ 8) = decide (l.length + 1 ≤ 8) := by
    by_cases hh : l.length + 1 ≤ 8
    · rw [decide_eq_true hh, decide_eq_true ⟨by omega, hh⟩]
    · rw [decide_eq_false hh, decide_eq_false (fun h => hh h.2)]
  rw [e1]
  simp
theorem enc_size (l : List Int) : (encs l).size ≤ 4 * l.length := by
  rw [← runesBytes_eq]
  exact runesBytes_size_le l
section
variable {α : Type} {enc : α → Value} {E : TypeId} {B : Nat} {w : World} {A : Option Addr} {n c : Nat} {xs : List α}
theorem OwnE.cap (h : OwnE enc E B w (.slice A n c) xs) : n = xs.length ∧ xs.length ≤ c ∧ c ≤ maxLen := by
  obtain ⟨A', c', e, h1, h2, h3⟩ := h.sl
  injection e with e1 e2 e3
  subst e1 e2 e3
  exact ⟨rfl, h1, h2⟩
theorem OwnE.take (h : OwnE enc E B w (.slice A n c) xs) (m : Nat) (hm : m ≤ xs.length) : SlE enc w (.slice A m c) (xs.take m) := by
  obtain ⟨A', c', e, h1, h2, h3⟩ := h.sl
  injection e with e1 e2 e3
  subst e1 e2 e3
  refine ⟨A, c, by rw [List.length_take, Nat.min_eq_left hm], by rw [List.length_take]; omega, h2, fun i hi => ?_⟩
  rw [List.length_take] at hi
  obtain ⟨b, o, e, hb, hc⟩ := h3 i (by omega)
  exact ⟨b, o, e, hb, by rw [hc, List.getElem_take]⟩
end
end Go.Proofs.Yteopdmifgdcghaa
