/- Long division, in plain words: what is taken away, and given back; the rest, shifted back. -/
import Derived.Test.YtkjlmibleoecgaaGreatDoorK7
namespace Go.Proofs.YtkjlmibleoecgaaGreatDoor
set_option linter.unusedSimpArgs false
set_option linter.unusedVariables false

theorem vset (b : Nat) : ∀ (L : List Nat) (j z : Nat), j < L.length → val b (L.set j z) + b ^ j * L.getD j 0 = val b L + b ^ j * z
  | [], j, z, h => by cases h
  | d :: r, 0, z, _ => by simp [val]; omega
  | d :: r, j + 1, z, h => by
    have ih := vset b r j z (by simpa using h)
    simp only [List.set_cons_succ, val, Nat.pow_succ]
    have e : (d :: r).getD (j + 1) 0 = r.getD j 0 := by simp [List.getD_eq_getElem?_getD]
    rw [e]
    have e1 : b * (val b (r.set j z) + b ^ j * r.getD j 0) = b * (val b r + b ^ j * z) := by rw [ih]
    simp only [Nat.mul_add] at e1
    rw [Nat.mul_comm (b ^ j) b, Nat.mul_assoc, Nat.mul_assoc]; omega
theorem vtake (b : Nat) (xs : List Nat) (k : Nat) : val b (xs.take (k + 1)) = val b (xs.take k) + b ^ k * xs.getD k 0 := by
  by_cases h : k < xs.length
  · rw [take_succ_getD 0 h, val_snoc, List.length_take, Nat.min_eq_left (by omega)]
  · rw [List.take_of_length_le (by omega), List.take_of_length_le (by omega), List.getD_eq_getElem?_getD, List.getElem?_eq_none (by omega)]; simp
theorem lt_set {b : Nat} {L : List Nat} (h : ∀ d ∈ L, d < b) (k : Nat) {z : Nat} (hz : z < b) : ∀ d ∈ L.set k z, d < b := fun e hm => by
  rcases List.mem_or_eq_of_mem_set hm with hm | rfl
  · exact h e hm
  · exact hz
theorem getD_set_ne {L : List Nat} {k j : Nat} (z : Nat) (h : k ≠ j) : (L.set k z).getD j 0 = L.getD j 0 := by
  rw [List.getD_eq_getElem?_getD, List.getElem?_set_ne h, ← List.getD_eq_getElem?_getD]
theorem getD_zero_of {b : Nat} (hb : 0 < b) {L : List Nat} (h : ∀ d ∈ L, d < b) {j : Nat} (hv : val b L < b ^ j) (i : Nat) (hi : j ≤ i) : L.getD i 0 = 0 := by
  have h1 := val_div_pow hb h i
  have h2 : b ^ j ≤ b ^ i := Nat.pow_le_pow_right hb hi
  rw [Nat.div_eq_of_lt (by omega), val_drop_succ] at h1
  omega
/-- What is taken away: the guess times the divisor, i digits of it. -/
structure SubMul (b k g : Nat) (U vs : List Nat) (i c bo : Nat) (L : List Nat) : Prop where
  len : L.length = U.length
  lt : ∀ d ∈ L, d < b
  rest : ∀ j, k + i ≤ j → L.getD j 0 = U.getD j 0
  hc : c < b
  hbo : bo ≤ 1
  sum : val b L + b ^ k * (g * val b (vs.take i)) = val b U + b ^ (k + i) * (c + bo)
theorem SubMul.start {b k g : Nat} {U vs : List Nat} (hb : 2 ≤ b) (hU : ∀ d ∈ U, d < b) : SubMul b k g U vs 0 0 0 U :=
  ⟨rfl, hU, fun _ _ => rfl, by omega, by omega, by simp [val]⟩
theorem SubMul.step {b k g : Nat} {U vs : List Nat} {i c bo : Nat} {L : List Nat} (h : SubMul b k g U vs i c bo L) (hb : 2 ≤ b) (hi : k + i < U.length) {d bo' : Nat} (hd : d < b) (hbo : bo' ≤ 1)
    (hg : g < b) (hv : vs.getD i 0 < b) (e : d + (c + g * vs.getD i 0) % b + bo = L.getD (k + i) 0 + b * bo') : SubMul b k g U vs (i + 1) ((c + g * vs.getD i 0) / b) bo' (L.set (k + i) d) := by
  have hp : g * vs.getD i 0 ≤ (b - 1) * (b - 1) := Nat.mul_le_mul (by omega) (by omega)
  have hc := h.hc
  refine ⟨by simp [h.len], lt_set h.lt _ hd, fun j hj => ?_, ?_, hbo, ?_⟩
  · rw [getD_set_ne _ (by omega)]; exact h.rest j (by omega)
  · rw [Nat.div_lt_iff_lt_mul (by omega)]
    obtain ⟨b', rfl⟩ : ∃ b', b = b' + 1 := ⟨b - 1, by omega⟩
    simp only [Nat.add_sub_cancel] at hp
    have : (b' + 1) * (b' + 1) = b' * b' + b' + (b' + 1) := by rw [Nat.add_mul, Nat.mul_add]; omega
    omega
  · have e0 := vset b L (k + i) d (by rw [h.len]; exact hi)
    have e2 := Nat.div_add_mod (c + g * vs.getD i 0) b
    have h1 := h.sum
    rw [vtake, show k + (i + 1) = k + i + 1 by omega, Nat.pow_succ]
    generalize (c + g * vs.getD i 0) / b = q at *
    generalize (c + g * vs.getD i 0) % b = r at *
    generalize L.getD (k + i) 0 = l at *
    generalize val b (L.set (k + i) d) = VL at *
    have e3 : b ^ (k + i) * (d + r + bo) = b ^ (k + i) * (l + b * bo') := by rw [e]
    have e4 : b ^ (k + i) * (b * q + r) = b ^ (k + i) * (c + g * vs.getD i 0) := by rw [e2]
    have e5 : b ^ k * (g * (b ^ i * vs.getD i 0)) = b ^ (k + i) * (g * vs.getD i 0) := by rw [Nat.pow_add, Nat.mul_assoc, Nat.mul_left_comm g]
    simp only [Nat.mul_add, ← Nat.mul_assoc] at e3 e4 e5 h1 e0 ⊢
    omega
/-- Behind it, with the digit ahead of the divisor's. -/
structure Taken (b k n g : Nat) (U vs : List Nat) (bo : Nat) (L : List Nat) : Prop where
  len : L.length = U.length
  lt : ∀ d ∈ L, d < b
  hi : ∀ j, k + n < j → L.getD j 0 = 0
  hbo : bo ≤ 1
  sum : val b L + b ^ k * (g * val b vs) = val b U + b ^ (k + n + 1) * bo
theorem SubMul.last {b k n g : Nat} {U vs : List Nat} {c bo : Nat} {L : List Nat} (h : SubMul b k g U vs n c bo L) (hl : Look b k n U vs) {d bo' : Nat} (hd : d < b) (hbo : bo' ≤ 1) (e : d + c + bo = L.getD (k + n) 0 + b * bo') : Taken b k n g U vs bo' (L.set (k + n) d) := by
  refine ⟨by simp [h.len], lt_set h.lt _ hd, fun j hj => ?_, hbo, ?_⟩
  · rw [getD_set_ne _ (by omega), h.rest j (by omega)]; exact hl.hiU j hj
  · have e0 := vset b L (k + n) d (by rw [h.len]; exact hl.lenU)
    have h1 := h.sum
    rw [List.take_of_length_le (by have := hl.lenV; omega)] at h1
    rw [Nat.pow_succ]
    generalize L.getD (k + n) 0 = l at *
    generalize val b (L.set (k + n) d) = VL at *
    have e3 : b ^ (k + n) * (d + c + bo) = b ^ (k + n) * (l + b * bo') := by rw [e]
    simp only [Nat.mul_add, ← Nat.mul_assoc] at e3 h1 e0 ⊢
    omega
section
variable {b k n g bo : Nat} {U vs L : List Nat}
theorem Taken.lt_top (h : Taken b k n g U vs bo L) (hl : Look b k n U vs) : val b L < b ^ (k + n + 1) := val_lt_top (by have := hl.hb; omega) h.lt fun i hi => h.hi i (by omega)
/-- Nothing borrowed: the guess was right. -/
theorem Taken.right (h : Taken b k n g U vs 0 L) (hl : Look b k n U vs) (hg : val b U / (b ^ k * val b vs) ≤ g) : g = val b U / (b ^ k * val b vs) ∧ val b L = val b U % (b ^ k * val b vs) := by
  have hk : 0 < b ^ k := Nat.pow_pos (by have := hl.hb; omega)
  have h1 := h.sum
  rw [Nat.mul_zero, Nat.add_zero] at h1
  have h2 : g * (b ^ k * val b vs) ≤ val b U := by rw [Nat.mul_left_comm]; omega
  have h3 := (Nat.le_div_iff_mul_le (Nat.mul_pos hk hl.v0)).2 h2
  have h4 : g = val b U / (b ^ k * val b vs) := by omega
  refine ⟨h4, ?_⟩
  have h5 := Nat.div_add_mod (val b U) (b ^ k * val b vs)
  rw [← h4, Nat.mul_assoc, Nat.mul_comm (val b vs)] at h5
  omega
/-- Borrowed: it was one too many. -/
theorem Taken.wrong (h : Taken b k n g U vs 1 L) (hl : Look b k n U vs) (hg : g ≤ val b U / (b ^ k * val b vs) + 1) : g = val b U / (b ^ k * val b vs) + 1 := by
  have hk : 0 < b ^ k := Nat.pow_pos (by have := hl.hb; omega)
  have h1 := h.sum
  have h0 := h.lt_top hl
  rw [Nat.mul_one] at h1
  refine Nat.le_antisymm hg (Nat.lt_of_not_le fun hle => ?_)
  have h3 := (Nat.le_div_iff_mul_le (Nat.mul_pos hk hl.v0)).1 hle
  rw [Nat.mul_left_comm] at h3
  omega
end
/-- What is given back. -/
structure Back (b k : Nat) (U vs : List Nat) (i c : Nat) (L : List Nat) : Prop where
  len : L.length = U.length
  lt : ∀ d ∈ L, d < b
  rest : ∀ j, k + i ≤ j → L.getD j 0 = U.getD j 0
  hc : c ≤ 1
  sum : val b L + b ^ (k + i) * c = val b U + b ^ k * val b (vs.take i)
theorem Back.start {b k : Nat} {U vs : List Nat} (hU : ∀ d ∈ U, d < b) : Back b k U vs 0 0 U := ⟨rfl, hU, fun _ _ => rfl, by omega, by simp [val]⟩
theorem Back.step {b k : Nat} {U vs : List Nat} {i c : Nat} {L : List Nat} (h : Back b k U vs i c L) (hi : k + i < U.length) {d c' : Nat} (hd : d < b) (hc : c' ≤ 1) (e : d + b * c' = L.getD (k + i) 0 + vs.getD i 0 + c) : Back b k U vs (i + 1) c' (L.set (k + i) d) := by
  refine ⟨by simp [h.len], lt_set h.lt _ hd, fun j hj => ?_, hc, ?_⟩
  · rw [getD_set_ne _ (by omega)]; exact h.rest j (by omega)
  · have e0 := vset b L (k + i) d (by rw [h.len]; exact hi)
    have h1 := h.sum
    rw [vtake, show k + (i + 1) = k + i + 1 by omega, Nat.pow_succ]
    generalize L.getD (k + i) 0 = l at *
    generalize val b (L.set (k + i) d) = VL at *
    have e3 : b ^ (k + i) * (d + b * c') = b ^ (k + i) * (l + vs.getD i 0 + c) := by rw [e]
    have e5 : b ^ k * (b ^ i * vs.getD i 0) = b ^ (k + i) * vs.getD i 0 := by rw [Nat.pow_add, Nat.mul_assoc]
    simp only [Nat.mul_add, ← Nat.mul_assoc] at e3 e5 h1 e0 ⊢
    omega
theorem Back.last {b k n : Nat} {U0 U vs : List Nat} {c q : Nat} {L : List Nat} (h : Back b k U vs n c L) (hl : Look b k n U0 vs) (ht : Taken b k n (q + 1) U0 vs 1 U) (hq : q = val b U0 / (b ^ k * val b vs)) :
    (∀ d ∈ L.set (k + n) ((L.getD (k + n) 0 + c) % b), d < b) ∧ (L.set (k + n) ((L.getD (k + n) 0 + c) % b)).length = U0.length ∧ val b (L.set (k + n) ((L.getD (k + n) 0 + c) % b)) = val b U0 % (b ^ k * val b vs) := by
  have hb := hl.hb
  have hd : (L.getD (k + n) 0 + c) % b < b := Nat.mod_lt _ (by omega)
  have hlt := lt_set h.lt (k + n) hd
  refine ⟨hlt, by simp [h.len, ht.len], ?_⟩
  have hll : k + n < L.length := by rw [h.len, ht.len]; exact hl.lenU
  have e0 := vset b L (k + n) ((L.getD (k + n) 0 + c) % b) hll
  have hz : ∀ i, k + n + 1 ≤ i → (L.set (k + n) ((L.getD (k + n) 0 + c) % b)).getD i 0 = 0 := fun i hi => by
    rw [getD_set_ne _ (by omega), h.rest i (by omega)]; exact ht.hi i (by omega)
  have htop := val_lt_top (by omega) hlt hz
  have h1 := h.sum
  rw [List.take_of_length_le (by have := hl.lenV; omega)] at h1
  have h2 := ht.sum
  rw [Nat.mul_one] at h2
  have e2 := Nat.div_add_mod (L.getD (k + n) 0 + c) b
  have hk : 0 < b ^ k := Nat.pow_pos (by omega)
  have h5 := Nat.div_add_mod (val b U0) (b ^ k * val b vs)
  have h6 := Nat.mod_lt (val b U0) (Nat.mul_pos hk hl.v0)
  rw [← hq] at h5
  have h7 : b ^ k * val b vs ≤ b ^ (k + n + 1) := by
    rw [show k + n + 1 = k + (n + 1) by omega, Nat.pow_add]
    refine Nat.mul_le_mul_left _ ?_
    have := val_lt (b := b) (by omega) hl.ltV
    rw [hl.lenV] at this
    have : b ^ n ≤ b ^ (n + 1) := Nat.pow_le_pow_right (by omega) (by omega)
    omega
  rw [Nat.pow_succ] at h2 htop h7
  generalize val b (L.set (k + n) ((L.getD (k + n) 0 + c) % b)) = Z at *
  generalize (L.getD (k + n) 0 + c) / b = q1 at *
  generalize (L.getD (k + n) 0 + c) % b = r1 at *
  generalize L.getD (k + n) 0 = l at *
  generalize val b U0 % (b ^ k * val b vs) = R at *
  have e4 : b ^ (k + n) * (b * q1 + r1) = b ^ (k + n) * (l + c) := by rw [e2]
  have e5 : b ^ k * ((q + 1) * val b vs) = b ^ k * val b vs * q + b ^ k * val b vs := by rw [Nat.add_mul, Nat.one_mul, Nat.mul_add, Nat.mul_comm q, Nat.mul_assoc]
  rw [e5] at h2
  simp only [Nat.mul_add, ← Nat.mul_assoc] at e4
  have key : Z + b ^ (k + n) * b * q1 = R + b ^ (k + n) * b := by omega
  rcases Nat.lt_or_ge q1 1 with hq1 | hq1
  · obtain rfl : q1 = 0 := by omega
    rw [Nat.mul_zero] at key
    omega
  · rcases Nat.lt_or_ge q1 2 with hq2 | hq2
    · obtain rfl : q1 = 1 := by omega
      rw [Nat.mul_one] at key
      omega
    · have : b ^ (k + n) * b * 2 ≤ b ^ (k + n) * b * q1 := Nat.mul_le_mul_left _ hq2
      omega
/-- What holds between two digits: k digits are left. -/
structure DivInv (b n X0 : Nat) (vs : List Nat) (k : Nat) (U Q : List Nat) : Prop where
  ltU : ∀ d ∈ U, d < b
  ltQ : ∀ d ∈ Q, d < b
  small : val b U < b ^ k * val b vs
  zero : ∀ j, j < k → Q.getD j 0 = 0
  sum : X0 = val b U + val b vs * val b Q
theorem DivInv.look {b n X0 : Nat} {vs : List Nat} {k : Nat} {U Q : List Nat} (h : DivInv b n X0 vs (k + 1) U Q) (hb : 2 ≤ b) (hn : 2 ≤ n) (hv : vs.length = n) (hlv : ∀ d ∈ vs, d < b) (ht : 1 ≤ vs.getD (n - 1) 0) (hU : k + n < U.length) : Look b k n U vs := by
  refine ⟨hb, hn, hU, h.ltU, fun i hi => ?_, hv, hlv, ht, h.small⟩
  have h1 := val_lt (b := b) (by omega) hlv
  rw [hv] at h1
  have h2 : b ^ (k + 1) * val b vs ≤ b ^ (k + 1) * b ^ n := Nat.mul_le_mul_left _ (by omega)
  rw [← Nat.pow_add] at h2
  have := h.small
  exact getD_zero_of (by omega) h.ltU (j := k + 1 + n) (by omega) i (by omega)
theorem DivInv.step {b n X0 : Nat} {vs : List Nat} {k : Nat} {U Q U' : List Nat} (h : DivInv b n X0 vs (k + 1) U Q) (hl : Look b k n U vs) (hq : k < Q.length) (hU : ∀ d ∈ U', d < b) (hv : val b U' = val b U % (b ^ k * val b vs)) :
    DivInv b n X0 vs k U' (Q.set k (val b U / (b ^ k * val b vs))) := by
  have hb := hl.hb
  have hk : 0 < b ^ k := Nat.pow_pos (by omega)
  refine ⟨hU, lt_set h.ltQ _ hl.q_lt, ?_, fun j hj => ?_, ?_⟩
  · rw [hv]; exact Nat.mod_lt _ (Nat.mul_pos hk hl.v0)
  · rw [getD_set_ne _ (by omega)]; exact h.zero j (by omega)
  · have e0 := vset b Q k (val b U / (b ^ k * val b vs)) hq
    rw [h.zero k (by omega), Nat.mul_zero, Nat.add_zero] at e0
    have h5 := Nat.div_add_mod (val b U) (b ^ k * val b vs)
    rw [hv, e0, Nat.mul_add, h.sum]
    have e : val b vs * (b ^ k * (val b U / (b ^ k * val b vs))) = b ^ k * val b vs * (val b U / (b ^ k * val b vs)) := by rw [← Nat.mul_assoc, Nat.mul_comm (val b vs)]
    omega
theorem DivInv.done {b n X0 : Nat} {vs U Q : List Nat} (h : DivInv b n X0 vs 0 U Q) (h0 : 0 < val b vs) : val b Q = X0 / val b vs ∧ val b U = X0 % val b vs := by
  have h1 := h.small
  rw [Nat.pow_zero, Nat.one_mul] at h1
  rw [h.sum]
  exact ⟨by rw [Nat.add_mul_div_left _ _ h0, Nat.div_eq_of_lt h1, Nat.zero_add], by rw [Nat.add_mul_mod_self_left, Nat.mod_eq_of_lt h1]⟩
/-- Digits of a number below a power. -/
theorem val_digits {b : Nat} (hb : 2 ≤ b) (z : Nat) : ∀ (R : List Nat), (∀ i, i < R.length → R.getD i 0 = z / b ^ i % b) → val b R = z % b ^ R.length
  | [], _ => by simp [val, Nat.mod_one]
  | d :: r, h => by
    have h0 : d = z % b := by have := h 0 (by simp); simpa using this
    have hr := val_digits hb (z / b) r fun i hi => by
      have := h (i + 1) (by simpa using hi)
      rw [Nat.pow_succ, Nat.mul_comm (b ^ i), ← Nat.div_div_eq_div_mul] at this
      simpa [List.getD_eq_getElem?_getD] using this
    rw [val, hr, h0, List.length_cons, Nat.pow_succ, Nat.mul_comm (b ^ r.length) b, Nat.mod_mul]
/-- A digit of a list that is shifted to the right by less than a digit. -/
theorem shifted_digit {b s t : Nat} (hs : s * t = b) (hs0 : 0 < s) {U : List Nat} (h : ∀ d ∈ U, d < b) (hb : 0 < b) (i : Nat) : (U.getD (i + 1) 0 * b + U.getD i 0) / s % b = val b U / s / b ^ i % b := by
  rw [Nat.div_div_eq_div_mul, Nat.mul_comm s, ← Nat.div_div_eq_div_mul, val_div_pow hb h, val_drop_succ, val_drop_succ]
  generalize val b (U.drop (i + 1 + 1)) = Z
  have e : U.getD i 0 + b * (U.getD (i + 1) 0 + b * Z) = (U.getD (i + 1) 0 * b + U.getD i 0) + s * (b * (t * Z)) := by
    rw [Nat.mul_add, Nat.mul_comm b (U.getD (i + 1) 0)]
    have : b * (b * Z) = s * (b * (t * Z)) := by
      conv => lhs; rw [← hs]
      rw [Nat.mul_assoc, Nat.mul_left_comm t, ← hs]
    omega
  rw [e, Nat.add_mul_div_left _ _ hs0, Nat.add_mul_mod_self_left]
end Go.Proofs.YtkjlmibleoecgaaGreatDoor
