/- Long division, in plain words. -/
import Derived.Test.YtkjlmibleoecgaaGreatDoorK0
namespace Go.Proofs.YtkjlmibleoecgaaGreatDoor
set_option linter.unusedSimpArgs false
set_option linter.unusedVariables false

theorem val_div_pow {b : Nat} (hb : 0 < b) {L : List Nat} (h : ∀ d ∈ L, d < b) (j : Nat) : val b L / b ^ j = val b (L.drop j) := by
  by_cases hj : j ≤ L.length
  · have e : L = L.take j ++ L.drop j := (List.take_append_drop j L).symm
    have hl : (L.take j).length = j := by rw [List.length_take]; omega
    have hv : val b L = val b (L.take j) + b ^ j * val b (L.drop j) := by
      conv => lhs; rw [e]
      rw [val_append, hl]
    have ht := val_lt hb (fun d hd => h d (List.mem_of_mem_take hd) : ∀ d ∈ L.take j, d < b)
    rw [hl] at ht
    rw [hv, Nat.add_mul_div_left _ _ (Nat.pow_pos hb), Nat.div_eq_of_lt ht, Nat.zero_add]
  · rw [List.drop_eq_nil_of_le (by omega)]
    have h1 := val_lt hb h
    have h2 : b ^ L.length ≤ b ^ j := Nat.pow_le_pow_right hb (by omega)
    rw [Nat.div_eq_of_lt (by omega)]; rfl
theorem val_zero_of {b : Nat} : ∀ {L : List Nat}, (∀ j, L.getD j 0 = 0) → val b L = 0
  | [], _ => rfl
  | d :: r, h => by
    have h0 : d = 0 := by simpa using h 0
    have hr : val b r = 0 := val_zero_of fun j => by simpa [List.getD_eq_getElem?_getD] using h (j + 1)
    rw [val, h0, hr]; simp
theorem val_drop_succ {b : Nat} (L : List Nat) (j : Nat) : val b (L.drop j) = L.getD j 0 + b * val b (L.drop (j + 1)) := by
  by_cases hj : j < L.length
  · rw [List.drop_eq_getElem_cons hj, val, getD_lt hj]
  · rw [List.drop_eq_nil_of_le (by omega), List.drop_eq_nil_of_le (by omega), List.getD_eq_getElem?_getD, List.getElem?_eq_none (by omega)]; rfl
theorem val_top {b : Nat} {L : List Nat} {j : Nat} (h : ∀ i, j ≤ i → L.getD i 0 = 0) : val b (L.drop j) = 0 :=
  val_zero_of fun i => by rw [List.getD_eq_getElem?_getD, List.getElem?_drop, ← List.getD_eq_getElem?_getD]; exact h _ (by omega)
theorem val_lt_top {b : Nat} (hb : 0 < b) {L : List Nat} (h : ∀ d ∈ L, d < b) {j : Nat} (hz : ∀ i, j ≤ i → L.getD i 0 = 0) : val b L < b ^ j := by
  have h1 := val_div_pow hb h j
  rw [val_top hz] at h1
  exact (Nat.div_eq_zero_iff.1 h1).elim (fun h => absurd h (by have := Nat.pow_pos (n := j) hb; omega)) id

theorem lt_div_succ {X P : Nat} (h : 0 < P) : X < (X / P + 1) * P := by rw [Nat.mul_comm]; exact Nat.lt_mul_div_succ X h
/-- The guess: never too low .. -/
theorem guess_le {V D P T M Bk X g : Nat} (hP : 0 < P) (hB : 0 < Bk) (hV : D * P ≤ V) (hM : M = Bk * P) (hT : X < (T + 1) * M) (hg : g ≤ X / (Bk * V)) (hV0 : 0 < V) : g * D ≤ T := by
  have h1 : g * (Bk * V) ≤ X := (Nat.le_div_iff_mul_le (Nat.mul_pos hB hV0)).1 hg
  have h2 : g * D * M ≤ g * (Bk * V) := by
    rw [hM]
    have : g * Bk * (D * P) ≤ g * Bk * V := Nat.mul_le_mul_left _ hV
    have e : g * D * (Bk * P) = g * Bk * (D * P) := by simp only [Nat.mul_assoc, Nat.mul_left_comm]
    rw [e, ← Nat.mul_assoc g Bk V]
    exact this
  have h3 : g * D * M < (T + 1) * M := by omega
  have := Nat.lt_of_mul_lt_mul_right h3
  omega
/-- .. and at most by one too high. -/
theorem guess_high {V D P T M Bk X g : Nat} (hV : V < (D + 1) * P) (hM : M = Bk * P) (hB : 0 < Bk) (hT : T * M ≤ X) (hg : g * D ≤ T) (hgD : g ≤ D + 1) (hV0 : 0 < V) : g ≤ X / (Bk * V) + 1 := by
  by_cases h0 : g = 0
  · subst h0; exact Nat.zero_le _
  obtain ⟨g', rfl⟩ : ∃ g', g = g' + 1 := ⟨g - 1, by omega⟩
  refine Nat.succ_le_succ ((Nat.le_div_iff_mul_le (Nat.mul_pos hB hV0)).2 ?_)
  have h1 : g' * (D + 1) ≤ T := by
    rw [Nat.add_mul, Nat.one_mul] at hg
    rw [Nat.mul_add, Nat.mul_one]
    omega
  have h2 : g' * (Bk * V) ≤ g' * (Bk * ((D + 1) * P)) := Nat.mul_le_mul_left _ (Nat.mul_le_mul_left _ (Nat.le_of_lt hV))
  have h3 : g' * (Bk * ((D + 1) * P)) = g' * (D + 1) * M := by rw [hM]; simp only [Nat.mul_assoc, Nat.mul_left_comm]
  have h4 : g' * (D + 1) * M ≤ T * M := Nat.mul_le_mul_right _ h1
  omega
/-- The digits that the guess looks at. -/
structure Look (b k n : Nat) (U vs : List Nat) : Prop where
  hb : 2 ≤ b
  hn : 2 ≤ n
  lenU : k + n < U.length
  ltU : ∀ d ∈ U, d < b
  hiU : ∀ i, k + n < i → U.getD i 0 = 0
  lenV : vs.length = n
  ltV : ∀ d ∈ vs, d < b
  topV : 1 ≤ vs.getD (n - 1) 0
  small : val b U < b ^ (k + 1) * val b vs
section
variable {b k n : Nat} {U vs : List Nat} (h : Look b k n U vs)
include h
theorem Look.v0 : 0 < val b vs := by
  have h1 := val_div_pow (by have := h.hb; omega) h.ltV (n - 1)
  have h2 := val_drop_succ (b := b) vs (n - 1)
  have h3 := h.topV
  by_cases h0 : val b vs = 0
  · rw [h0, Nat.zero_div] at h1; omega
  · omega
/-- The digit. -/
theorem Look.q_lt : val b U / (b ^ k * val b vs) < b := by
  have hp : 0 < b ^ k := Nat.pow_pos (by have := h.hb; omega)
  rw [Nat.div_lt_iff_lt_mul (Nat.mul_pos hp h.v0)]
  have := h.small
  rw [Nat.pow_succ] at this
  rw [Nat.mul_comm (b ^ k) b, Nat.mul_assoc] at this
  exact this
theorem Look.one : val b vs / b ^ (n - 1) = vs.getD (n - 1) 0 := by
  rw [val_div_pow (by have := h.hb; omega) h.ltV, val_drop_succ, List.drop_eq_nil_of_le (by have := h.lenV; have := h.hn; omega)]
  simp [val]
theorem Look.two : val b vs / b ^ (n - 2) = vs.getD (n - 1) 0 * b + vs.getD (n - 2) 0 := by
  rw [val_div_pow (by have := h.hb; omega) h.ltV, val_drop_succ, val_drop_succ, show n - 2 + 1 = n - 1 by have := h.hn; omega, List.drop_eq_nil_of_le (by have := h.lenV; have := h.hn; omega)]
  simp only [val, Nat.mul_zero, Nat.add_zero]
  rw [Nat.mul_comm, Nat.add_comm]
theorem Look.top2 : val b U / b ^ (k + (n - 1)) = U.getD (k + n) 0 * b + U.getD (k + n - 1) 0 := by
  have hn := h.hn
  rw [val_div_pow (by have := h.hb; omega) h.ltU, val_drop_succ, val_drop_succ, val_top (j := k + (n - 1) + 1 + 1) (fun i hi => h.hiU i (by omega)), show k + (n - 1) + 1 = k + n by omega, show k + (n - 1) = k + n - 1 by omega]
  rw [Nat.mul_zero, Nat.add_zero, Nat.mul_comm, Nat.add_comm]
theorem Look.top3 : val b U / b ^ (k + (n - 2)) = (U.getD (k + n) 0 * b + U.getD (k + n - 1) 0) * b + U.getD (k + n - 2) 0 := by
  have hn := h.hn
  rw [val_div_pow (by have := h.hb; omega) h.ltU, val_drop_succ, val_drop_succ, val_drop_succ, val_top (j := k + (n - 2) + 1 + 1 + 1) (fun i hi => h.hiU i (by omega)), show k + (n - 2) + 1 + 1 = k + n by omega, show k + (n - 2) + 1 = k + n - 1 by omega, show k + (n - 2) = k + n - 2 by omega]
  rw [Nat.mul_zero, Nat.add_zero, Nat.mul_comm b, Nat.mul_comm b, Nat.add_comm, Nat.add_comm (U.getD (k + n - 1) 0)]
/-- The first guess is not too low. -/
theorem Look.first {g : Nat} (hg : g = min ((U.getD (k + n) 0 * b + U.getD (k + n - 1) 0) / vs.getD (n - 1) 0) (b - 1)) : val b U / (b ^ k * val b vs) ≤ g := by
  have hb := h.hb
  have h1 := h.q_lt
  have hp : 0 < b ^ (n - 1) := Nat.pow_pos (by omega)
  have hk : 0 < b ^ k := Nat.pow_pos (by omega)
  have h2 : val b U / (b ^ k * val b vs) * vs.getD (n - 1) 0 ≤ U.getD (k + n) 0 * b + U.getD (k + n - 1) 0 := by
    refine guess_le (V := val b vs) (P := b ^ (n - 1)) (M := b ^ (k + (n - 1))) (X := val b U) hp hk ?_ (Nat.pow_add ..) ?_ (Nat.le_refl _) h.v0
    · rw [← h.one]; exact Nat.div_mul_le_self _ _
    · rw [← h.top2]; exact lt_div_succ (Nat.pow_pos (by omega))
  have h3 := (Nat.le_div_iff_mul_le (show 0 < vs.getD (n - 1) 0 from h.topV)).2 h2
  omega
/-- What is tested is tested rightly: a guess that is too great .. -/
theorem Look.more {g rest : Nat} (hr : rest + g * vs.getD (n - 1) 0 = U.getD (k + n) 0 * b + U.getD (k + n - 1) 0) (hc : rest * b + U.getD (k + n - 2) 0 < g * vs.getD (n - 2) 0) : val b U / (b ^ k * val b vs) < g := by
  have hb := h.hb
  have hp : 0 < b ^ (n - 2) := Nat.pow_pos (by omega)
  have hk : 0 < b ^ k := Nat.pow_pos (by omega)
  refine Nat.lt_of_not_le fun hle => ?_
  have h1 : g * (vs.getD (n - 1) 0 * b + vs.getD (n - 2) 0) ≤ (U.getD (k + n) 0 * b + U.getD (k + n - 1) 0) * b + U.getD (k + n - 2) 0 := by
    refine guess_le (V := val b vs) (P := b ^ (n - 2)) (M := b ^ (k + (n - 2))) (X := val b U) hp hk ?_ (Nat.pow_add ..) ?_ hle h.v0
    · rw [← h.two]; exact Nat.div_mul_le_self _ _
    · rw [← h.top3]; exact lt_div_succ (Nat.pow_pos (by omega))
  rw [← hr, Nat.mul_add, Nat.add_mul, Nat.mul_assoc] at h1
  omega
/-- .. and one that is not. -/
theorem Look.enough {g rest : Nat} (hg : g < b) (hr : rest + g * vs.getD (n - 1) 0 = U.getD (k + n) 0 * b + U.getD (k + n - 1) 0) (hv2 : vs.getD (n - 2) 0 < b) (hc : b ≤ rest ∨ g * vs.getD (n - 2) 0 ≤ rest * b + U.getD (k + n - 2) 0) : g ≤ val b U / (b ^ k * val b vs) + 1 := by
  have hb := h.hb
  have hk : 0 < b ^ k := Nat.pow_pos (by omega)
  have hp : 0 < b ^ (n - 2) := Nat.pow_pos (by omega)
  refine guess_high (D := vs.getD (n - 1) 0 * b + vs.getD (n - 2) 0) (P := b ^ (n - 2)) (T := (U.getD (k + n) 0 * b + U.getD (k + n - 1) 0) * b + U.getD (k + n - 2) 0) (M := b ^ (k + (n - 2))) ?_ (Nat.pow_add ..) hk ?_ ?_ ?_ h.v0
  · rw [← h.two]; exact lt_div_succ hp
  · rw [← h.top3]; exact Nat.div_mul_le_self _ _
  · rw [← hr, Nat.mul_add, Nat.add_mul, Nat.mul_assoc]
    rcases hc with hc | hc
    · have h1 : g * vs.getD (n - 2) 0 ≤ b * b := Nat.mul_le_mul (by omega) (by omega)
      have h2 : b * b ≤ rest * b := Nat.mul_le_mul_right _ hc
      omega
    · omega
  · have h1 : 1 * b ≤ vs.getD (n - 1) 0 * b := Nat.mul_le_mul_right _ h.topV
    omega
end
end Go.Proofs.YtkjlmibleoecgaaGreatDoor
