/- Plain: what fractions are worth; the laws of fractions. -/
import Derived.Test.YtkjlmibleoecgaaGreatDoorQo
namespace Go.Proofs.YtkjlmibleoecgaaGreatDoor
set_option linter.unusedSimpArgs false
set_option linter.unusedVariables false
/-- A fraction in its lowest terms that is worth N over D. -/
structure Wr (n d N D : Int) : Prop where
  low : Low n d
  D0 : 0 < D
  eq : n * D = N * d
section
variable {n d N D n' d' N' D' : Int}
theorem Wr.d0 (h : Wr n d N D) : 0 < d := h.low.1
theorem Wr.den (h : Wr n d N D) : denZ d = d := denZ_pos h.low.1
theorem Wr.self (h : Low n d) : Wr n d n d := ⟨h, h.1, rfl⟩
theorem mk_wr {a b X Y : Int} (h : 0 < b) (hY : 0 < Y) (e : a * Y = X * b) : Wr (mkN a b) (mkD a b) X Y := by
  have hb : b ≠ 0 := by omega
  refine ⟨mk_low hb, hY, ?_⟩
  have h1 := mk_cross (a := a) hb
  have h2 : b * (mkN a b * Y) = b * (X * mkD a b) := by grind
  exact Int.eq_of_mul_eq_mul_left hb h2
theorem Wr.add (h : Wr n d N D) (h' : Wr n' d' N' D') : Wr (mkN (n * d' + n' * d) (d * d')) (mkD (n * d' + n' * d) (d * d')) (N * D' + N' * D) (D * D') := by
  refine mk_wr (mul_posI h.d0 h'.d0) (mul_posI h.D0 h'.D0) ?_
  have := h.eq
  have := h'.eq
  grind
theorem Wr.sub (h : Wr n d N D) (h' : Wr n' d' N' D') : Wr (mkN (n * d' - n' * d) (d * d')) (mkD (n * d' - n' * d) (d * d')) (N * D' - N' * D) (D * D') := by
  refine mk_wr (mul_posI h.d0 h'.d0) (mul_posI h.D0 h'.D0) ?_
  have := h.eq
  have := h'.eq
  grind
theorem Wr.mul (h : Wr n d N D) (h' : Wr n' d' N' D') : Wr (mkN (n * n') (d * d')) (mkD (n * n') (d * d')) (N * N') (D * D') := by
  refine mk_wr (mul_posI h.d0 h'.d0) (mul_posI h.D0 h'.D0) ?_
  have := h.eq
  have := h'.eq
  grind
theorem Wr.uniq (h : Wr n d N D) (h' : Wr n' d' N' D') (e : N * D' = N' * D) : n = n' ∧ d = d' := by
  refine low_uniq h.d0 h'.d0 h.low.2 h'.low.2 ?_
  have h1 := h.eq
  have h2 := h'.eq
  have k := mul_posI h.D0 h'.D0
  have h3 : (D * D') * (n * d') = (D * D') * (n' * d) := by grind
  exact Int.eq_of_mul_eq_mul_left (by omega) h3
theorem Wr.text (h : Wr n d N D) (h' : Wr n' d' N' D') (e : N * D' = N' * D) : ratS n d = ratS n' d' := by
  obtain ⟨rfl, rfl⟩ := h.uniq h' e
  rfl
/-- A quotient, times the divisor. -/
theorem div_back {n1 d1 n2 d2 : Int} (h1 : Low n1 d1) (h2 : Low n2 d2) (h0 : n2 ≠ 0) :
    Low (mkN (n1 * d2) (d1 * n2)) (mkD (n1 * d2) (d1 * n2)) ∧ ratS (mkN (mkN (n1 * d2) (d1 * n2) * n2) (mkD (n1 * d2) (d1 * n2) * d2)) (mkD (mkN (n1 * d2) (d1 * n2) * n2) (mkD (n1 * d2) (d1 * n2) * d2)) = ratS n1 d1 := by
  have hd : d1 * n2 ≠ 0 := Int.mul_ne_zero (by have := h1.1; omega) h0
  have hl := mk_low (a := n1 * d2) hd
  have hc := mk_cross (a := n1 * d2) hd
  refine ⟨hl, ?_⟩
  generalize mkN (n1 * d2) (d1 * n2) = qn at *
  generalize mkD (n1 * d2) (d1 * n2) = qd at *
  refine Wr.text (mk_wr (mul_posI hl.1 h2.1) h1.1 (X := n1) ?_) (Wr.self h1) rfl
  have h3 : (n2 * d1) * (qn * n2) = n2 * (n1 * (qd * d2)) := by grind
  have h4 : n2 * (qn * n2 * d1) = n2 * (n1 * (qd * d2)) := by grind
  exact Int.eq_of_mul_eq_mul_left h0 h4
/-- The sign of a difference. -/
theorem sub_sign {n1 d1 n2 d2 : Int} (h1 : Low n1 d1) (h2 : Low n2 d2) : sgZ (mkN (n1 * d2 - n2 * d1) (d1 * d2)) = cmpZ (n1 * d2) (n2 * d1) := by
  have hw := (Wr.self h1).sub (Wr.self h2)
  have e := hw.eq
  have hd := hw.d0
  have hD := hw.D0
  generalize mkN (n1 * d2 - n2 * d1) (d1 * d2) = sn at *
  generalize mkD (n1 * d2 - n2 * d1) (d1 * d2) = sd at *
  generalize n1 * d2 = x at *
  generalize n2 * d1 = y at *
  generalize d1 * d2 = D at *
  unfold sgZ cmpZ
  by_cases hn : sn < 0
  · have h3 : (x - y) * sd < 0 := by rw [← e]; exact Int.mul_neg_of_neg_of_pos hn hD
    have h4 : x - y < 0 := by
      rcases Int.lt_or_le (x - y) 0 with h | h
      · exact h
      · have := Int.mul_nonneg h (Int.le_of_lt hd); omega
    rw [if_pos hn, if_pos (by omega)]
  · by_cases hz : sn = 0
    · have h3 : (x - y) * sd = 0 := by rw [← e, hz, Int.zero_mul]
      have h4 : x - y = 0 := by
        rcases Int.mul_eq_zero.1 h3 with h | h
        · exact h
        · omega
      rw [if_neg hn, if_pos hz, if_neg (show ¬ x < y by omega), if_neg (show ¬ y < x by omega)]
    · have h3 : 0 < (x - y) * sd := by rw [← e]; exact Int.mul_pos (by omega) hD
      have h4 : 0 < x - y := by
        rcases Int.lt_or_le 0 (x - y) with h | h
        · exact h
        · have := Int.mul_nonpos_of_nonpos_of_nonneg h (Int.le_of_lt hd); omega
      rw [if_neg hn, if_neg hz, if_neg (show ¬ x < y by omega), if_pos (show y < x by omega)]
end
end Go.Proofs.YtkjlmibleoecgaaGreatDoor
