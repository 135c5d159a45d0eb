/- Plain: the order of fractions; what RatOrder asks. -/
import Derived.Test.YtkjlmibleoecgaaGreatDoorQ11
namespace Go.Proofs.YtkjlmibleoecgaaGreatDoor
set_option linter.unusedSimpArgs false
set_option linter.unusedVariables false
theorem denZ_pos {d : Int} (h : 0 < d) : denZ d = d := by unfold denZ; rw [if_neg (by omega)]
theorem mul_posI {a b : Int} (ha : 0 < a) (hb : 0 < b) : 0 < a * b := Int.mul_pos ha hb
theorem cmp_scale {x y k : Int} (hk : 0 < k) : cmpZ (x * k) (y * k) = cmpZ x y := by
  have h1 : x * k < y * k ↔ x < y := Int.mul_lt_mul_right hk
  have h2 : y * k < x * k ↔ y < x := Int.mul_lt_mul_right hk
  unfold cmpZ
  by_cases a : x < y
  · rw [if_pos (h1.2 a), if_pos a]
  · rw [if_neg (fun h => a (h1.1 h)), if_neg a]
    by_cases b : y < x
    · rw [if_pos (h2.2 b), if_pos b]
    · rw [if_neg (fun h => b (h2.1 h)), if_neg b]
theorem cmp_add (x y k : Int) : cmpZ (x + k) (y + k) = cmpZ x y := by
  unfold cmpZ
  (repeat' split) <;> first | rfl | omega
theorem cmp_neg (x y : Int) : cmpZ x y = -cmpZ y x := by
  unfold cmpZ
  (repeat' split) <;> omega
theorem cmp_eq {x y : Int} (h : x = y) : cmpZ x y = 0 := by
  unfold cmpZ
  (repeat' split) <;> omega
theorem cmp_zero_iff (x y : Int) : cmpZ x y = 0 ↔ x = y := by
  unfold cmpZ
  (repeat' split) <;> omega
/-- The order is of the worth alone. -/
theorem cmp_cong {n d N D n2 d2 N2 D2 : Int} (hd : 0 < d) (hD : 0 < D) (hd2 : 0 < d2) (hD2 : 0 < D2) (h : n * D = N * d) (h2 : n2 * D2 = N2 * d2) : cmpZ (n * d2) (n2 * d) = cmpZ (N * D2) (N2 * D) := by
  have k1 : 0 < D * D2 := mul_posI hD hD2
  have k2 : 0 < d * d2 := mul_posI hd hd2
  have e1 : n * d2 * (D * D2) = N * D2 * (d * d2) := by grind
  have e2 : n2 * d * (D * D2) = N2 * D * (d * d2) := by grind
  rw [← cmp_scale k1, e1, e2, cmp_scale k2]
theorem mk_worth {a b : Int} (h : b ≠ 0) : mkN a b * b = a * mkD a b ∧ 0 < mkD a b := ⟨mk_cross h, (mk_spec (a := a) h).2.2.2.1⟩
section
variable {n1 d1 n2 d2 sn sd mn md pn pd : Int}
/-- The middle. -/
theorem mid_worth (hd1 : 0 < d1) (hd2 : 0 < d2) (hs0 : 0 < sd) (hs : sn * (d1 * d2) = (n1 * d2 + n2 * d1) * sd) (hm : mn * (sd * 2) = sn * 1 * md) :
    mn * (2 * (d1 * d2)) = (n1 * d2 + n2 * d1) * md := by
  have h : sd * (mn * (2 * (d1 * d2))) = sd * ((n1 * d2 + n2 * d1) * md) := by grind
  exact Int.eq_of_mul_eq_mul_left (by omega) h
theorem mid_low (hd1 : 0 < d1) (hd2 : 0 < d2) (hm0 : 0 < md) (h : mn * (2 * (d1 * d2)) = (n1 * d2 + n2 * d1) * md) : cmpZ (mn * d1) (n1 * md) = -cmpZ (n1 * d2) (n2 * d1) := by
  have hD : 0 < 2 * (d1 * d2) := by have := mul_posI hd1 hd2; omega
  rw [cmp_cong hm0 hD hd1 hd1 h rfl]
  have e1 : (n1 * d2 + n2 * d1) * d1 = n2 * d1 * d1 + n1 * d2 * d1 := by grind
  have e2 : n1 * (2 * (d1 * d2)) = n1 * d2 * d1 + n1 * d2 * d1 := by grind
  rw [e1, e2, cmp_add, cmp_scale hd1]
  exact cmp_neg _ _
theorem mid_high (hd1 : 0 < d1) (hd2 : 0 < d2) (hm0 : 0 < md) (h : mn * (2 * (d1 * d2)) = (n1 * d2 + n2 * d1) * md) : cmpZ (mn * d2) (n2 * md) = cmpZ (n1 * d2) (n2 * d1) := by
  have hD : 0 < 2 * (d1 * d2) := by have := mul_posI hd1 hd2; omega
  rw [cmp_cong hm0 hD hd2 hd2 h rfl]
  have e1 : (n1 * d2 + n2 * d1) * d2 = n1 * d2 * d2 + n2 * d1 * d2 := by grind
  have e2 : n2 * (2 * (d1 * d2)) = n2 * d1 * d2 + n2 * d1 * d2 := by grind
  rw [e1, e2, cmp_add, cmp_scale hd2]
theorem mid_twice (hm0 : 0 < md) (hm : mn * (sd * 2) = sn * 1 * md) (hp : pn * (md * md) = (mn * md + mn * md) * pd) : cmpZ (pn * sd) (sn * pd) = 0 := by
  apply cmp_eq
  have hmm := mul_posI hm0 hm0
  have h : (md * md) * (pn * sd) = (md * md) * (sn * pd) := by grind
  exact Int.eq_of_mul_eq_mul_left (by omega) h
end
theorem numS_inj {a b : Int} (h : numS a = numS b) : a = b := by
  have ha : ∀ z : Int, ((numS z).data.toList.head? = some 45) ↔ z < 0 := fun z => by
    unfold numS
    split
    · rename_i hz
      rw [ByteArray.data_append, Array.toList_append]
      simp [hz]
    · rename_i hz
      constructor
      · intro e
        rw [decS_data] at e
        have := (dec_no (List.mem_of_mem_head? e)).1
        simp at this
      · intro e; omega
  have h1 := ha a
  rw [h] at h1
  have h2 : a < 0 ↔ b < 0 := h1.symm.trans (ha b)
  unfold numS at h
  by_cases hb : b < 0
  · rw [if_pos (h2.2 hb), if_pos hb] at h
    have h3 := congrArg (fun x => x.data.toList) h
    simp only [ByteArray.data_append, Array.toList_append] at h3
    have h4 := List.append_cancel_left h3
    have := decS_inj (data_injY h4)
    have := h2.2 hb
    omega
  · have hna : ¬ a < 0 := fun e => hb (h2.1 e)
    rw [if_neg hna, if_neg hb] at h
    have := decS_inj h
    omega
theorem ratS_inj {n1 d1 n2 d2 : Int} (h1 : Low n1 d1) (h2 : Low n2 d2) (h : ratS n1 d1 = ratS n2 d2) : n1 * d2 = n2 * d1 := by
  have k1 := denZ_pos h1.1
  have k2 := denZ_pos h2.1
  unfold ratS at h
  rw [k1, k2] at h
  have hno := numS_no47
  have hin : ∀ a b : Int, (47 : UInt8) ∈ ((numS a ++ ⟨#[47]⟩) ++ numS b).data.toList := fun a b => by
    rw [ByteArray.data_append, ByteArray.data_append, Array.toList_append, Array.toList_append]; simp
  by_cases e1 : d1 = 1
  · rw [if_pos e1] at h
    by_cases e2 : d2 = 1
    · rw [if_pos e2] at h
      rw [numS_inj h, e1, e2]
    · rw [if_neg e2] at h
      exact absurd (h ▸ hin n2 d2) (hno n1)
  · rw [if_neg e1] at h
    by_cases e2 : d2 = 1
    · rw [if_pos e2] at h
      exact absurd (h ▸ hin n1 d1) (hno n2)
    · rw [if_neg e2] at h
      have h3 := congrArg (fun x => x.data.toList) h
      simp only [ByteArray.data_append, Array.toList_append, List.append_assoc] at h3
      obtain ⟨f1, f2⟩ := cut_one (by simpa using h3) (hno n1) (hno n2)
      rw [numS_inj (data_injY f1), numS_inj (data_injY f2)]
/-- The same worth, the same text. -/
theorem low_text {s t : ByteArray} {n1 d1 n2 d2 : Int} (h1 : Low n1 d1) (h2 : Low n2 d2) (e1 : ratS n1 d1 = s) (e2 : ratS n2 d2 = t) : (cmpZ (n1 * d2) (n2 * d1) == 0) = (s.toList == t.toList) := by
  by_cases h : n1 * d2 = n2 * d1
  · obtain ⟨rfl, rfl⟩ := low_uniq h1.1 h2.1 h1.2 h2.2 h
    rw [cmp_eq h, ← e1, ← e2]; simp
  · have hc : cmpZ (n1 * d2) (n2 * d1) ≠ 0 := fun e => h ((cmp_zero_iff _ _).1 e)
    have hne : s.toList ≠ t.toList := by
      intro e
      rw [Lib.toList_data, Lib.toList_data] at e
      have e := data_injY e
      rw [← e1, ← e2] at e
      exact h (ratS_inj h1 h2 e)
    rw [beq_eq_false_iff_ne.2 hc, beq_eq_false_iff_ne.2 hne]
end Go.Proofs.YtkjlmibleoecgaaGreatDoor
