/- Plain lemmas on lists of digits: no program in sight. -/
import Derived.WalkKit
namespace Go.Proofs.YtkjlmibleoecgaaGreatDoor

/-- The noughts at the end are dropped. -/
def trim (xs : List Nat) : List Nat := (xs.reverse.dropWhile (· == 0)).reverse
theorem trim_nil : trim [] = [] := rfl
theorem trim_snoc (xs : List Nat) (x : Nat) : trim (xs ++ [x]) = if x = 0 then trim xs else xs ++ [x] := by
  unfold trim
  by_cases h : x = 0 <;> simp [h]
theorem trim_id {xs : List Nat} (h : ∀ x ∈ xs.getLast?, x ≠ 0) : trim xs = xs := by
  rcases List.eq_nil_or_concat xs with rfl | ⟨l, x, rfl⟩
  · rfl
  · rw [List.concat_eq_append] at *
    rw [trim_snoc, if_neg (h x (by simp))]
theorem trim_le (xs : List Nat) : (trim xs).length ≤ xs.length := by
  unfold trim; rw [List.length_reverse]; have := (List.dropWhile_suffix (fun x : Nat => x == 0) (l := xs.reverse)).length_le; simpa using this
theorem trim_prefix (xs : List Nat) : trim xs = xs.take (trim xs).length := by
  unfold trim
  have h := List.dropWhile_suffix (fun x : Nat => x == 0) (l := xs.reverse)
  generalize xs.reverse.dropWhile (fun x => x == 0) = s at h ⊢
  obtain ⟨t, ht⟩ := h
  have : xs = s.reverse ++ t.reverse := by rw [← List.reverse_append, ht, List.reverse_reverse]
  rw [this]; simp
/-- Taking one nought off the end changes nothing. -/
theorem trim_take_pred {xs : List Nat} {m : Nat} (h0 : 0 < m) (hm : m ≤ xs.length) (hz : xs.getD (m - 1) 0 = 0) : trim (xs.take (m - 1)) = trim (xs.take m) := by
  obtain ⟨k, rfl⟩ : ∃ k, m = k + 1 := ⟨m - 1, by omega⟩
  rw [List.take_succ_eq_append_getElem (by omega), trim_snoc, if_pos]
  · simp
  · simp only [Nat.add_sub_cancel, List.getD_eq_getElem?_getD, List.getElem?_eq_getElem (show k < xs.length by omega), Option.getD_some] at hz
    exact hz
theorem trim_take_id {xs : List Nat} {m : Nat} (h0 : 0 < m) (hm : m ≤ xs.length) (hz : xs.getD (m - 1) 0 ≠ 0) : trim (xs.take m) = xs.take m := by
  obtain ⟨k, rfl⟩ : ∃ k, m = k + 1 := ⟨m - 1, by omega⟩
  rw [List.take_succ_eq_append_getElem (by omega), trim_snoc, if_neg]
  simp only [Nat.add_sub_cancel, List.getD_eq_getElem?_getD, List.getElem?_eq_getElem (show k < xs.length by omega), Option.getD_some] at hz
  exact hz

/-- The number that digits to the base b are, the lowest first. -/
def val (b : Nat) : List Nat → Nat
  | [] => 0
  | d :: r => d + b * val b r
theorem val_append (b : Nat) (xs ys : List Nat) : val b (xs ++ ys) = val b xs + b ^ xs.length * val b ys := by
  induction xs with
  | nil => simp [val]
  | cons d r ih => simp only [List.cons_append, val, ih, List.length_cons, Nat.pow_succ, Nat.mul_add]; rw [Nat.add_assoc, ← Nat.mul_assoc, Nat.mul_comm b (b ^ r.length)]
theorem val_snoc (b : Nat) (xs : List Nat) (x : Nat) : val b (xs ++ [x]) = val b xs + b ^ xs.length * x := by rw [val_append]; simp [val]
theorem val_trim (b : Nat) (xs : List Nat) : val b (trim xs) = val b xs := by
  induction hn : xs.length generalizing xs with
  | zero => rw [List.length_eq_zero_iff.1 hn]; rfl
  | succ n ih =>
    rcases List.eq_nil_or_concat xs with rfl | ⟨l, x, rfl⟩
    · rfl
    · rw [List.concat_eq_append] at *
      rw [trim_snoc]
      split
      · next h => rw [ih l (by simpa using hn), val_snoc, h]; simp
      · rfl
theorem val_replicate (b n : Nat) : val b (List.replicate n 0) = 0 := by
  induction n with
  | zero => rfl
  | succ n ih => simp [List.replicate_succ, val, ih]
theorem val_lt {b : Nat} {xs : List Nat} (_hb : 0 < b) (h : ∀ d ∈ xs, d < b) : val b xs < b ^ xs.length := by
  induction xs with
  | nil => simp [val]
  | cons d r ih =>
    have h1 := ih (fun e he => h e (List.mem_cons_of_mem _ he))
    have h2 := h d (List.mem_cons_self ..)
    simp only [val, List.length_cons, Nat.pow_succ]
    have : b * val b r + b ≤ b * b ^ r.length := by rw [← Nat.mul_succ]; exact Nat.mul_le_mul_left _ h1
    rw [Nat.mul_comm (b ^ r.length) b]; omega

/-- Digits to the base b, the lowest first; of 0 none. -/
def dg (b n : Nat) : List Nat := if _h : n = 0 ∨ b < 2 then [] else (n % b) :: dg b (n / b)
termination_by n
decreasing_by
  have : 0 < n := by omega
  exact Nat.div_lt_self this (by omega)
theorem dg_zero (b : Nat) : dg b 0 = [] := by unfold dg; simp
theorem dg_pos {b n : Nat} (hb : 2 ≤ b) (hn : 0 < n) : dg b n = (n % b) :: dg b (n / b) := by
  rw [dg]; rw [dif_neg (by omega)]
theorem dg_val {b : Nat} (hb : 2 ≤ b) (n : Nat) : val b (dg b n) = n := by
  induction n using Nat.strongRecOn with
  | _ n ih =>
    by_cases h : n = 0
    · subst h; rw [dg_zero]; rfl
    · rw [dg_pos hb (by omega), val, ih _ (Nat.div_lt_self (by omega) (by omega))]
      have := Nat.div_add_mod n b; omega
theorem dg_lt {b : Nat} (hb : 2 ≤ b) (n : Nat) : ∀ d ∈ dg b n, d < b := by
  induction n using Nat.strongRecOn with
  | _ n ih =>
    by_cases h : n = 0
    · subst h; rw [dg_zero]; simp
    · rw [dg_pos hb (by omega)]
      intro d hd
      rcases List.mem_cons.1 hd with rfl | hd
      · exact Nat.mod_lt _ (by omega)
      · exact ih _ (Nat.div_lt_self (by omega) (by omega)) d hd
theorem dg_nil {b n : Nat} (hb : 2 ≤ b) : dg b n = [] ↔ n = 0 := by
  constructor
  · intro h
    by_cases h0 : n = 0
    · exact h0
    · rw [dg_pos hb (by omega)] at h; cases h
  · rintro rfl; exact dg_zero b
theorem dg_last {b : Nat} (hb : 2 ≤ b) (n : Nat) : ∀ x ∈ (dg b n).getLast?, x ≠ 0 := by
  induction n using Nat.strongRecOn with
  | _ n ih =>
    by_cases h : n = 0
    · subst h; rw [dg_zero]; simp
    · rw [dg_pos hb (by omega)]
      by_cases h2 : n / b = 0
      · rw [h2, dg_zero]
        have := Nat.div_add_mod n b
        rw [h2] at this
        simp; omega
      · have e : dg b (n / b) ≠ [] := fun e => h2 ((dg_nil hb).1 e)
        intro x hx
        rw [List.getLast?_cons_of_ne_nil e] at hx
        exact ih _ (Nat.div_lt_self (by omega) (by omega)) x hx
/-- Trimmed digits are the number's digits. -/
theorem dg_of {b : Nat} (hb : 2 ≤ b) {xs : List Nat} (h : ∀ d ∈ xs, d < b) : dg b (val b xs) = trim xs := by
  induction hn : xs.length generalizing xs with
  | zero => rw [List.length_eq_zero_iff.1 hn]; simp [val, dg_zero, trim_nil]
  | succ n ih =>
    cases xs with
    | nil => cases hn
    | cons d r =>
      have hr := ih (xs := r) (fun e he => h e (List.mem_cons_of_mem _ he)) (by simpa using hn)
      have hd := h d (List.mem_cons_self ..)
      have hm : (d + b * val b r) % b = d := by rw [Nat.add_mul_mod_self_left, Nat.mod_eq_of_lt hd]
      have hq : (d + b * val b r) / b = val b r := by rw [Nat.add_mul_div_left _ _ (by omega), Nat.div_eq_of_lt hd, Nat.zero_add]
      by_cases h0 : d + b * val b r = 0
      · rw [val, h0, dg_zero]
        have hv : val b r = 0 := by
          rcases Nat.eq_zero_of_add_eq_zero h0 with ⟨_, h2⟩
          rcases Nat.mul_eq_zero.1 h2 with h2 | h2
          · omega
          · exact h2
        rw [hv, dg_zero] at hr
        have hd0 : d = 0 := by omega
        subst hd0
        have : trim (0 :: r) = [] := by
          unfold trim at hr ⊢
          have e : r.reverse.dropWhile (fun x => x == 0) = [] := by simpa using hr.symm
          simp only [List.reverse_cons, List.dropWhile_append, e, List.isEmpty_nil, if_true]; simp
        exact this.symm
      · rw [val, dg_pos hb (by omega), hm, hq, hr]
        unfold trim
        rw [List.reverse_cons, List.dropWhile_append]
        by_cases he : r.reverse.dropWhile (fun x => x == 0) = []
        · have hv : val b r = 0 := by rw [← val_trim]; unfold trim; rw [he]; rfl
          have hd0 : d ≠ 0 := by rintro rfl; rw [hv] at h0; simp at h0
          simp [he, hd0]
        · have : (r.reverse.dropWhile (fun x => x == 0)).isEmpty = false := by simpa using he
          rw [this]; simp
theorem dg_trim {b : Nat} (hb : 2 ≤ b) (n : Nat) : trim (dg b n) = dg b n := trim_id (dg_last hb n)
theorem dg_len {b n L : Nat} (hb : 2 ≤ b) (h : n < b ^ L) : (dg b n).length ≤ L := by
  induction L generalizing n with
  | zero => have : n = 0 := by simpa using h
            subst this; rw [dg_zero]; simp
  | succ L ih =>
    by_cases h0 : n = 0
    · subst h0; rw [dg_zero]; simp
    · rw [dg_pos hb (by omega), List.length_cons]
      have := ih (n := n / b) (by rw [Nat.div_lt_iff_lt_mul (by omega)]; rw [Nat.pow_succ] at h; exact h)
      omega
theorem dg_lt_pow {b : Nat} (hb : 2 ≤ b) (n : Nat) : n < b ^ (dg b n).length := by
  have := val_lt (b := b) (by omega) (dg_lt hb n); rwa [dg_val hb] at this
theorem dg_len_add {b : Nat} (hb : 2 ≤ b) (x y : Nat) : (dg b (x + y)).length ≤ max (dg b x).length (dg b y).length + 1 := by
  refine dg_len hb ?_
  have h1 := dg_lt_pow hb x
  have h2 := dg_lt_pow hb y
  have h3 := Nat.pow_le_pow_right (show 0 < b by omega) (Nat.le_max_left (dg b x).length (dg b y).length)
  have h4 := Nat.pow_le_pow_right (show 0 < b by omega) (Nat.le_max_right (dg b x).length (dg b y).length)
  rw [Nat.pow_succ]
  have : b ^ max (dg b x).length (dg b y).length * 2 ≤ b ^ max (dg b x).length (dg b y).length * b := Nat.mul_le_mul_left _ hb
  omega
theorem dg_len_mul {b : Nat} (hb : 2 ≤ b) (x y : Nat) : (dg b (x * y)).length ≤ (dg b x).length + (dg b y).length := by
  refine dg_len hb ?_
  rw [Nat.pow_add]
  exact Nat.mul_lt_mul'' (dg_lt_pow hb x) (dg_lt_pow hb y)
theorem dg_len_mono {b : Nat} (hb : 2 ≤ b) {x y : Nat} (h : x ≤ y) : (dg b x).length ≤ (dg b y).length := dg_len hb (Nat.lt_of_le_of_lt h (dg_lt_pow hb y))
theorem pow_le_dg {b n : Nat} (hb : 2 ≤ b) (h : 0 < n) : b ^ ((dg b n).length - 1) ≤ n := by
  by_cases hl : n < b ^ ((dg b n).length - 1)
  · have h1 := dg_len hb hl
    have h2 : dg b n ≠ [] := fun e => by rw [dg_nil hb] at e; omega
    have h3 := List.length_pos_iff.2 h2
    omega
  · omega
/-- The number is in one list of digits alone. -/
theorem dg_unique {b : Nat} (hb : 2 ≤ b) {xs : List Nat} (h : ∀ d ∈ xs, d < b) (ht : trim xs = xs) : xs = dg b (val b xs) := by rw [dg_of hb h, ht]

theorem getD_take {α : Type} (xs : List α) (n i : Nat) (d : α) (h : i < n) : (xs.take n).getD i d = xs.getD i d := by
  simp [List.getD_eq_getElem?_getD, h]
theorem getD_lt {α : Type} {xs : List α} {i : Nat} {d : α} (h : i < xs.length) : xs.getD i d = xs[i] := by
  simp [List.getD_eq_getElem?_getD, List.getElem?_eq_getElem h]
theorem getD_mem {α : Type} {xs : List α} {i : Nat} {d : α} (h : i < xs.length) : xs.getD i d ∈ xs := by
  rw [getD_lt h]; exact List.getElem_mem h
theorem take_succ_getD {α : Type} {xs : List α} {i : Nat} (d : α) (h : i < xs.length) : xs.take (i + 1) = xs.take i ++ [xs.getD i d] := by
  rw [List.take_succ_eq_append_getElem h, getD_lt h]
end Go.Proofs.YtkjlmibleoecgaaGreatDoor
