/- Plain lemmas on lists of digits: no program in sight. -/
import Derived.WalkKit
import Derived.Test.YtkjlmibleoecgaaGreatDoorProg
import Derived.Below
import Derived.Deep.LoopGhost
import Derived.Deep.OwnRows
import Derived.BigGuard
import Derived.WalkLawsBesides
import Derived.WalkSpells
import Derived.OwnWalk
import Derived.IntWalk
import Derived.Lib.Hide
import Derived.Lib.ItoaNum
import Derived.Lib.ParseIntB
import Derived.Lib.SlTrimSet
import Derived.Laws.AppendOwn
import Derived.Deep.QuietTactic
import Derived.BigQuiet
import Derived.Laws.BitsAllLaws
namespace Go.Proofs.YtkjlmibleoecgaaGreatDoor

/-- The noughts at the end are dropped. -/
def trim (xs : List Nat) : List Nat := (xs.reverse.dropWhile (· == 0)).reverse
theorem trim_nil : trim [] = [] := rfl
theorem trim_snoc (xs : List Nat) (x : Nat) : trim (xs ++ [x]) = if x = 0 then trim xs else xs ++ [x] := by
  unfold trim
  by_cases h : x = 0 <;> simp [h]
theorem trim_id {xs : List Nat} (h : ∀ x ∈ xs.getLast?, x ≠ 0) : trim xs = xs := by
  rcases List.eq_nil_or_concat xs with rfl | ⟨l, x, rfl⟩
  · rfl
  · rw [List.concat_eq_append] at *
    rw [trim_snoc, if_neg (h x (by simp))]
theorem trim_le (xs : List Nat) : (trim xs).length ≤ xs.length := by
  unfold trim; rw [List.length_reverse]; have := (List.dropWhile_suffix (fun x : Nat => x == 0) (l := xs.reverse)).length_le; simpa using this
theorem trim_prefix (xs : List Nat) : trim xs = xs.take (trim xs).length := by
  unfold trim
  have h := List.dropWhile_suffix (fun x : Nat => x == 0) (l := xs.reverse)
  generalize xs.reverse.dropWhile (fun x => x == 0) = s at h ⊢
  obtain ⟨t, ht⟩ := h
  have : xs = s.reverse ++ t.reverse := by rw [← List.reverse_append, ht, List.reverse_reverse]
  rw [this]; simp
/-- Taking one nought off the end changes nothing. -/
theorem trim_take_pred {xs : List Nat} {m : Nat} (h0 : 0 < m) (hm : m ≤ xs.length) (hz : xs.getD (m - 1) 0 = 0) : trim (xs.take (m - 1)) = trim (xs.take m) := by
  obtain ⟨k, rfl⟩ : ∃ k, m = k + 1 := ⟨m - 1, by omega⟩
  rw [List.take_succ_eq_append_getElem (by omega), trim_snoc, if_pos]
  · simp
  · simp only [Nat.add_sub_cancel, List.getD_eq_getElem?_getD, List.getElem?_eq_getElem (show k < xs.length by omega), Option.getD_some] at hz
    exact hz
theorem trim_take_id {xs : List Nat} {m : Nat} (h0 : 0 < m) (hm : m ≤ xs.length) (hz : xs.getD (m - 1) 0 ≠ 0) : trim (xs.take m) = xs.take m := by
  obtain ⟨k, rfl⟩ : ∃ k, m = k + 1 := ⟨m - 1, by omega⟩
  rw [List.take_succ_eq_append_getElem (by omega), trim_snoc, if_neg]
  simp only [Nat.add_sub_cancel, List.getD_eq_getElem?_getD, List.getElem?_eq_getElem (show k < xs.length by omega), Option.getD_some] at hz
  exact hz

/-- The number that digits to the base b are, the lowest first. -/
def val (b : Nat) : List Nat → Nat
  | [] => 0
  | d :: r => d + b * val b r
theorem val_append (b : Nat) (xs ys : List Nat) : val b (xs ++ ys) = val b xs + b ^ xs.length * val b ys := by
  induction xs with
  | nil => simp [val]
  | cons d r ih => simp only [List.cons_append, val, ih, List.length_cons, Nat.pow_succ, Nat.mul_add]; rw [Nat.add_assoc, ← Nat.mul_assoc, Nat.mul_comm b (b ^ r.length)]
theorem val_snoc (b : Nat) (xs : List Nat) (x : Nat) : val b (xs ++ [x]) = val b xs + b ^ xs.length * x := by rw [val_append]; simp [val]
theorem val_trim (b : Nat) (xs : List Nat) : val b (trim xs) = val b xs := by
  induction hn : xs.length generalizing xs with
  | zero => rw [List.length_eq_zero_iff.1 hn]; rfl
  | succ n ih =>
    rcases List.eq_nil_or_concat xs with rfl | ⟨l, x, rfl⟩
    · rfl
    · rw [List.concat_eq_append] at *
      rw [trim_snoc]
      split
      · next h => rw [ih l (by simpa using hn), val_snoc, h]; simp
      · rfl
theorem val_replicate (b n : Nat) : val b (List.replicate n 0) = 0 := by
  induction n with
  | zero => rfl
  | succ n ih => simp [List.replicate_succ, val, ih]
theorem val_lt {b : Nat} {xs : List Nat} (_hb : 0 < b) (h : ∀ d ∈ xs, d < b) : val b xs < b ^ xs.length := by
  induction xs with
  | nil => simp [val]
  | cons d r ih =>
    have h1 := ih (fun e he => h e (List.mem_cons_of_mem _ he))
    have h2 := h d (List.mem_cons_self ..)
    simp only [val, List.length_cons, Nat.pow_succ]
    have : b * val b r + b ≤ b * b ^ r.length := by rw [← Nat.mul_succ]; exact Nat.mul_le_mul_left _ h1
    rw [Nat.mul_comm (b ^ r.length) b]; omega

/-- Digits to the base b, the lowest first; of 0 none. -/
def dg (b n : Nat) : List Nat := if _h : n = 0 ∨ b < 2 then [] else (n % b) :: dg b (n / b)
termination_by n
decreasing_by
  have : 0 < n := by omega
  exact Nat.div_lt_self this (by omega)
theorem dg_zero (b : Nat) : dg b 0 = [] := by unfold dg; simp
theorem dg_pos {b n : Nat} (hb : 2 ≤ b) (hn : 0 < n) : dg b n = (n % b) :: dg b (n / b) := by
  rw [dg]; rw [dif_neg (by omega)]
theorem dg_val {b : Nat} (hb : 2 ≤ b) (n : Nat) : val b (dg b n) = n := by
  induction n using Nat.strongRecOn with
  | _ n ih =>
    by_cases h : n = 0
    · subst h; rw [dg_zero]; rfl
    · rw [dg_pos hb (by omega), val, ih _ (Nat.div_lt_self (by omega) (by omega))]
      have := Nat.div_add_mod n b; omega
theorem dg_lt {b : Nat} (hb : 2 ≤ b) (n : Nat) : ∀ d ∈ dg b n, d < b := by
  induction n using Nat.strongRecOn with
  | _ n ih =>
    by_cases h : n = 0
    · subst h; rw [dg_zero]; simp
    · rw [dg_pos hb (by omega)]
      intro d hd
      rcases List.mem_cons.1 hd with rfl | hd
      · exact Nat.mod_lt _ (by omega)
      · exact ih _ (Nat.div_lt_self (by omega) (by omega)) d hd
theorem dg_nil {b n : Nat} (hb : 2 ≤ b) : dg b n = [] ↔ n = 0 := by
  constructor
  · intro h
    by_cases h0 : n = 0
    · exact h0
    · rw [dg_pos hb (by omega)] at h; cases h
  · rintro rfl; exact dg_zero b
theorem dg_last {b : Nat} (hb : 2 ≤ b) (n : Nat) : ∀ x ∈ (dg b n).getLast?, x ≠ 0 := by
  induction n using Nat.strongRecOn with
  | _ n ih =>
    by_cases h : n = 0
    · subst h; rw [dg_zero]; simp
    · rw [dg_pos hb (by omega)]
      by_cases h2 : n / b = 0
      · rw [h2, dg_zero]
        have := Nat.div_add_mod n b
        rw [h2] at this
        simp; omega
      · have e : dg b (n / b) ≠ [] := fun e => h2 ((dg_nil hb).1 e)
        intro x hx
        rw [List.getLast?_cons_of_ne_nil e] at hx
        exact ih _ (Nat.div_lt_self (by omega) (by omega)) x hx
/-- Trimmed digits are the number's digits. -/
theorem dg_of {b : Nat} (hb : 2 ≤ b) {xs : List Nat} (h : ∀ d ∈ xs, d < b) : dg b (val b xs) = trim xs := by
  induction hn : xs.length generalizing xs with
  | zero => rw [List.length_eq_zero_iff.1 hn]; simp [val, dg_zero, trim_nil]
  | succ n ih =>
    cases xs with
    | nil => cases hn
    | cons d r =>
      have hr := ih (xs := r) (fun e he => h e (List.mem_cons_of_mem _ he)) (by simpa using hn)
      have hd := h d (List.mem_cons_self ..)
      have hm : (d + b * val b r) % b = d := by rw [Nat.add_mul_mod_self_left, Nat.mod_eq_of_lt hd]
      have hq : (d + b * val b r) / b = val b r := by rw [Nat.add_mul_div_left _ _ (by omega), Nat.div_eq_of_lt hd, Nat.zero_add]
      by_cases h0 : d + b * val b r = 0
      · rw [val, h0, dg_zero]
        have hv : val b r = 0 := by
          rcases Nat.eq_zero_of_add_eq_zero h0 with ⟨_, h2⟩
          rcases Nat.mul_eq_zero.1 h2 with h2 | h2
          · omega
          · exact h2
        rw [hv, dg_zero] at hr
        have hd0 : d = 0 := by omega
        subst hd0
        have : trim (0 :: r) = [] := by
          unfold trim at hr ⊢
          have e : r.reverse.dropWhile (fun x => x == 0) = [] := by simpa using hr.symm
          simp only [List.reverse_cons, List.dropWhile_append, e, List.isEmpty_nil, if_true]; simp
        exact this.symm
      · rw [val, dg_pos hb (by omega), hm, hq, hr]
        unfold trim
        rw [List.reverse_cons, List.dropWhile_append]
        by_cases he : r.reverse.dropWhile (fun x => x == 0) = []
        · have hv : val b r = 0 := by rw [← val_trim]; unfold trim; rw [he]; rfl
          have hd0 : d ≠ 0 := by rintro rfl; rw [hv] at h0; simp at h0
          simp [he, hd0]
        · have : (r.reverse.dropWhile (fun x => x == 0)).isEmpty = false := by simpa using he
          rw [this]; simp
theorem dg_trim {b : Nat} (hb : 2 ≤ b) (n : Nat) : trim (dg b n) = dg b n := trim_id (dg_last hb n)
theorem dg_len {b n L : Nat} (hb : 2 ≤ b) (h : n < b ^ L) : (dg b n).length ≤ L := by
  induction L generalizing n with
  | zero => have : n = 0 := by simpa using h
            subst this; rw [dg_zero]; simp
  | succ L ih =>
    by_cases h0 : n = 0
    · subst h0; rw [dg_zero]; simp
    · rw [dg_pos hb (by omega), List.length_cons]
      have := ih (n := n / b) (by rw [Nat.div_lt_iff_lt_mul (by omega)]; rw [Nat.pow_succ] at h; exact h)
      omega
theorem dg_lt_pow {b : Nat} (hb : 2 ≤ b) (n : Nat) : n < b ^ (dg b n).length := by
  have := val_lt (b := b) (by omega) (dg_lt hb n); rwa [dg_val hb] at this
theorem dg_len_add {b : Nat} (hb : 2 ≤ b) (x y : Nat) : (dg b (x + y)).length ≤ max (dg b x).length (dg b y).length + 1 := by
  refine dg_len hb ?_
  have h1 := dg_lt_pow hb x
  have h2 := dg_lt_pow hb y
  have h3 := Nat.pow_le_pow_right (show 0 < b by omega) (Nat.le_max_left (dg b x).length (dg b y).length)
  have h4 := Nat.pow_le_pow_right (show 0 < b by omega) (Nat.le_max_right (dg b x).length (dg b y).length)
  rw [Nat.pow_succ]
  have : b ^ max (dg b x).length (dg b y).length * 2 ≤ b ^ max (dg b x).length (dg b y).length * b := Nat.mul_le_mul_left _ hb
  omega
theorem dg_len_mul {b : Nat} (hb : 2 ≤ b) (x y : Nat) : (dg b (x * y)).length ≤ (dg b x).length + (dg b y).length := by
  refine dg_len hb ?_
  rw [Nat.pow_add]
  exact Nat.mul_lt_mul'' (dg_lt_pow hb x) (dg_lt_pow hb y)
theorem dg_len_mono {b : Nat} (hb : 2 ≤ b) {x y : Nat} (h : x ≤ y) : (dg b x).length ≤ (dg b y).length := dg_len hb (Nat.lt_of_le_of_lt h (dg_lt_pow hb y))
theorem pow_le_dg {b n : Nat} (hb : 2 ≤ b) (h : 0 < n) : b ^ ((dg b n).length - 1) ≤ n := by
  by_cases hl : n < b ^ ((dg b n).length - 1)
  · have h1 := dg_len hb hl
    have h2 : dg b n ≠ [] := fun e => by rw [dg_nil hb] at e; omega
    have h3 := List.length_pos_iff.2 h2
    omega
  · omega
/-- The number is in one list of digits alone. -/
theorem dg_unique {b : Nat} (hb : 2 ≤ b) {xs : List Nat} (h : ∀ d ∈ xs, d < b) (ht : trim xs = xs) : xs = dg b (val b xs) := by rw [dg_of hb h, ht]

theorem getD_take {α : Type} (xs : List α) (n i : Nat) (d : α) (h : i < n) : (xs.take n).getD i d = xs.getD i d := by
  simp [List.getD_eq_getElem?_getD, h]
theorem getD_lt {α : Type} {xs : List α} {i : Nat} {d : α} (h : i < xs.length) : xs.getD i d = xs[i] := by
  simp [List.getD_eq_getElem?_getD, List.getElem?_eq_getElem h]
theorem getD_mem {α : Type} {xs : List α} {i : Nat} {d : α} (h : i < xs.length) : xs.getD i d ∈ xs := by
  rw [getD_lt h]; exact List.getElem_mem h
theorem take_succ_getD {α : Type} {xs : List α} {i : Nat} (d : α) (h : i < xs.length) : xs.take (i + 1) = xs.take i ++ [xs.getD i d] := by
  rw [List.take_succ_eq_append_getElem h, getD_lt h]
end Go.Proofs.YtkjlmibleoecgaaGreatDoor
/- Slices that read as lists of numbers, and what is new in a world. -/
namespace Go.Proofs.YtkjlmibleoecgaaGreatDoor
open Go.RowKit

def B32 : Nat := 4294967296
theorem B32_eq : B32 = 4294967296 := rfl
theorem B32_2 : 2 ≤ B32 := by rw [B32_eq]; omega
theorem cast_mod (a : Nat) : ((a % B32 : Nat) : Int) = (a : Int) % 4294967296 := by rw [B32_eq]; exact Int.natCast_emod a 4294967296
theorem cast_div (a : Nat) : ((a / B32 : Nat) : Int) = (a : Int) / 4294967296 := by rw [B32_eq]; exact Int.natCast_ediv a 4294967296
theorem cast_mad (a b c : Nat) : ((a + b * c : Nat) : Int) = (a : Int) + (b : Int) * (c : Int) := by rw [Int.natCast_add, Int.natCast_mul]
/-- v is a slice of elements of type E that reads as xs in w. -/
def Sl (E : TypeId) (k : IntKind) (w : World) (v : Value) (xs : List Nat) : Prop :=
  ∃ A c, v = .slice A xs.length c ∧ xs.length ≤ c ∧ c ≤ maxLen ∧ ∀ i, i < xs.length → ∃ b o C fr, A = some ⟨b, o, none⟩ ∧ w.heap[b]? = some (.cells C E fr) ∧ w.cell? ⟨b, o + i, none⟩ = some (.int k (xs.getD i 0 : Nat))
theorem lt_of_block {w : World} {b : Nat} {o : Obj} (h : w.heap[b]? = some o) : b < w.heap.size := by
  by_cases hb : b < w.heap.size
  · exact hb
  · rw [Array.getElem?_eq_none (by omega)] at h; cases h
/-- Block b is of these cells. -/
def Box (w : World) (b : Nat) (C : Array Value) (t : TypeId) : Prop := w.heap[b]? = some (.cells C t (0, 0))
theorem ret_i64 {a b : Int} (h : a = b) : Ending.returned (.int .i64 a) = .returned (.int .i64 b) := by rw [h]
/-- w' is w and new blocks. -/
def New (w w' : World) : Prop := Below w.heap.size w w'
theorem New.refl (w : World) : New w w := Below.refl _ _
theorem New.le {w w' : World} (h : New w w') : w.heap.size ≤ w'.heap.size := Below.size h
theorem New.trans {a b c : World} (h : New a b) (k : New b c) : New a c := Below.trans h (Below.mono k h.le)
theorem New.alloc {a b : World} (h : New a b) (o : Obj) : New a (b.alloc o) := Below.alloc h h.le o
theorem New.drew {a b : World} (h : New a b) : New a b.drew := Below.drew h
theorem New.drewN {a b : World} (h : New a b) (n : Nat) : New a (b.drewN n) := Below.trans h ⟨rfl, rfl, rfl, Nat.le_refl _, fun _ _ => rfl⟩
theorem New.cell {w w' : World} (h : New w w') {b o : Nat} (hb : b < w.heap.size) : w'.cell? ⟨b, o, none⟩ = w.cell? ⟨b, o, none⟩ := Below.cell h (p := ⟨b, o, none⟩) hb
theorem New.still {w w' : World} (h : New w w') {b o : Nat} {v : Value} (hc : w.cell? ⟨b, o, none⟩ = some v) : w'.cell? ⟨b, o, none⟩ = some v := by
  by_cases hb : b < w.heap.size
  · rw [h.cell hb]; exact hc
  · exfalso
    have : w.heap[b]? = none := by rw [Array.getElem?_eq_none]; omega
    simp [World.cell?, this] at hc
theorem New.setCell {a b : World} (h : New a b) {p : Addr} (hp : a.heap.size ≤ p.block) (u : Value) : New a (b.setCell p u) := Below.setCell h hp u
theorem New.block {w w' : World} (h : New w w') {b : Nat} {o : Obj} (hb : w.heap[b]? = some o) : w'.heap[b]? = some o := by
  rw [Below.block h b (lt_of_block hb)]; exact hb
theorem Sl.new {E : TypeId} {k : IntKind} {w w' : World} {v : Value} {xs : List Nat} (h : Sl E k w v xs) (hb : New w w') : Sl E k w' v xs := by
  obtain ⟨A, c, e, h1, h2, h3⟩ := h
  refine ⟨A, c, e, h1, h2, fun i hi => ?_⟩
  obtain ⟨b, o, C, fr, e, hl, hc⟩ := h3 i hi
  exact ⟨b, o, C, fr, e, hb.block hl, hb.still hc⟩
/-- A cell of a block of another type is turned. -/
theorem Sl.set {E : TypeId} {k : IntKind} {w : World} {v : Value} {xs : List Nat} (h : Sl E k w v xs) {p i : Nat} {C' : Array Value} {T : TypeId} {fr' : Nat × Nat} (hp : w.heap[p]? = some (.cells C' T fr')) (ht : T ≠ E) (u : Value) : Sl E k (w.setCell ⟨p, i, none⟩ u) v xs := by
  obtain ⟨A, c, e, h1, h2, h3⟩ := h
  refine ⟨A, c, e, h1, h2, fun i hi => ?_⟩
  obtain ⟨b, o, C, fr, e, hl, hc⟩ := h3 i hi
  have hne : b ≠ p := by
    rintro rfl
    rw [hp] at hl
    injection hl with hl; injection hl with _ hl _
    exact ht hl
  have hbl : (w.setCell ⟨p, i, none⟩ u).heap[b]? = w.heap[b]? := Below.heap_setCell w _ u b hne
  refine ⟨b, o, C, fr, e, by rw [Below.heap_setCell w _ u b hne]; exact hl, ?_⟩
  rw [← hc]
  exact World.cell?_of_block (Below.heap_setCell w _ u b hne)
theorem Box.new {w w' : World} (hn : New w w') {b : Nat} {C : Array Value} {t : TypeId} (h : Box w b C t) : Box w' b C t := hn.block h
theorem Box.cell {w : World} {b : Nat} {C : Array Value} {t : TypeId} (h : Box w b C t) (i : Nat) : w.cell? ⟨b, i, none⟩ = C[i]? := by
  simp only [World.cell?]; rw [show w.heap[b]? = _ from h]; rfl
theorem Box.frozen {w : World} {b : Nat} {C : Array Value} {t : TypeId} (h : Box w b C t) (i : Nat) : w.frozen? ⟨b, i, none⟩ = false := by
  simp [World.frozen?, show w.heap[b]? = _ from h]
theorem Box.lt {w : World} {b : Nat} {C : Array Value} {t : TypeId} (h : Box w b C t) : b < w.heap.size := lt_of_block h
theorem Box.last (w : World) (C : Array Value) (t : TypeId) : Box (w.alloc (.cells C t)) w.heap.size C t := by unfold Box World.alloc; simp
theorem Box.alloc {w : World} {b : Nat} {C : Array Value} {t : TypeId} (h : Box w b C t) (o : Obj) : Box (w.alloc o) b C t := Box.new ((New.refl w).alloc o) h
theorem Box.last2 (w : World) (o : Obj) (C : Array Value) (t : TypeId) : Box ((w.alloc o).alloc (.cells C t)) (w.heap.size + 1) C t := by have := Box.last (w.alloc o) C t; simpa using this
theorem Box.last3 (w : World) (o p : Obj) (C : Array Value) (t : TypeId) : Box (((w.alloc o).alloc p).alloc (.cells C t)) (w.heap.size + 1 + 1) C t := by have := Box.last ((w.alloc o).alloc p) C t; simpa using this
theorem Box.far {w : World} {b : Nat} {C : Array Value} {t : TypeId} (h : Box w b C t) {p i : Nat} (hp : b ≠ p) (u : Value) : Box (w.setCell ⟨p, i, none⟩ u) b C t := by
  unfold Box; rw [Below.heap_setCell w _ u b hp]; exact h
/-- v is the program's nat that is n. -/
def NatV (w : World) (v : Value) (n : Nat) : Prop := ∃ u, v = .agg #[u] ∧ Sl 89 .u32 w u (dg B32 n)
theorem NatV.form {w : World} {v : Value} {n : Nat} (h : NatV w v n) : ∃ A l c, v = .agg #[.slice A l c] := by
  obtain ⟨_, rfl, A, c, rfl, _⟩ := h; exact ⟨A, _, c, rfl⟩
theorem NatV.zero (w : World) : NatV w (.agg #[.slice none 0 0]) 0 :=
  ⟨_, rfl, none, 0, by rw [dg_zero]; rfl, by rw [dg_zero]; simp, Nat.zero_le _, fun i hi => by rw [dg_zero] at hi; cases hi⟩
theorem NatV.sl {w : World} {u : Value} {n : Nat} (h : NatV w (.agg #[u]) n) : Sl 89 .u32 w u (dg B32 n) := by
  obtain ⟨x, e, h⟩ := h; obtain rfl : u = x := by simpa using e
  exact h
theorem Sl.form {E : TypeId} {k : IntKind} {w : World} {v : Value} {xs : List Nat} (h : Sl E k w v xs) : ∃ A c, v = .slice A xs.length c := by
  obtain ⟨A, c, rfl, _⟩ := h; exact ⟨A, c, rfl⟩
theorem NatV.new {w w' : World} {v : Value} {n : Nat} (h : NatV w v n) (hb : New w w') : NatV w' v n := by
  obtain ⟨u, e, h⟩ := h; exact ⟨u, e, h.new hb⟩
theorem NatV.set {w : World} {v : Value} {n : Nat} (h : NatV w v n) {p i : Nat} {C : Array Value} {T : TypeId} (hp : Box w p C T) (ht : T ≠ 89) (u : Value) : NatV (w.setCell ⟨p, i, none⟩ u) v n := by
  obtain ⟨x, e, h⟩ := h; exact ⟨x, e, h.set hp ht u⟩
/-- The cells of a row of numbers. -/
def ecells (k : IntKind) (xs : List Nat) : Array Value := (xs.map fun x : Nat => Value.int k (x : Int)).toArray
theorem ecells_size (k : IntKind) (xs : List Nat) : (ecells k xs).size = xs.length := by simp [ecells]
theorem ecells_get (k : IntKind) {xs : List Nat} {i : Nat} (h : i < xs.length) : (ecells k xs)[i]? = some (.int k (xs.getD i 0 : Nat)) := by
  simp [ecells, List.getElem?_eq_getElem h]
theorem ecells_set (k : IntKind) (xs : List Nat) (i x : Nat) : (ecells k xs).setIfInBounds i (.int k (x : Int)) = ecells k (xs.set i x) := by
  simp [ecells, List.map_set]
theorem ecells_made (k : IntKind) (n : Nat) : madeCells #[.int k 0] n = ecells k (List.replicate n 0) := by
  apply Array.ext
  · simp [size_madeCells, ecells_size]
  · intro i h1 h2
    simp [madeCells, ecells, Nat.mod_one]
theorem heap_new (w : World) (o : Obj) : (w.alloc o).heap[w.heap.size]? = some o := by unfold World.alloc; simp
/-- A row in a block reads as a slice. -/
theorem Sl.of_block {k : IntKind} {w : World} {b : Nat} {t : TypeId} {xs : List Nat} (h : Box w b (ecells k xs) t) (hl : xs.length ≤ maxLen) :
    Sl t k w (.slice (some ⟨b, 0, none⟩) xs.length xs.length) xs :=
  ⟨_, _, rfl, Nat.le_refl _, hl, fun i hi => ⟨b, 0, _, _, rfl, h, by rw [h.cell, Nat.zero_add]; exact ecells_get k hi⟩⟩
end Go.Proofs.YtkjlmibleoecgaaGreatDoor
/- Plain lemmas on decimal texts. -/
namespace Go.Proofs.YtkjlmibleoecgaaGreatDoor
open Go.Lib

/-- Is it a digit? -/
def dig (c : UInt8) : Bool := decide (48 ≤ c.toNat ∧ c.toNat ≤ 57)
/-- The number that digits are. -/
def numL (l : List UInt8) : Nat := l.foldl (fun a c => a * 10 + (c.toNat - 48)) 0
theorem numL_snoc (l : List UInt8) (c : UInt8) : numL (l ++ [c]) = numL l * 10 + (c.toNat - 48) := by simp [numL]
theorem numL_nil : numL [] = 0 := rfl
theorem numL_append (l : List UInt8) : ∀ r : List UInt8, numL (l ++ r) = numL l * 10 ^ r.length + numL r := by
  intro r
  induction hn : r.length generalizing r with
  | zero => rw [List.length_eq_zero_iff.1 hn]; simp [numL]
  | succ n ih =>
    rcases List.eq_nil_or_concat r with rfl | ⟨r', c, rfl⟩
    · cases hn
    · rw [List.concat_eq_append] at *
      have := ih r' (by simpa using hn)
      rw [← List.append_assoc, numL_snoc, this, numL_snoc, Nat.pow_succ, Nat.add_mul, Nat.mul_assoc]
      omega
theorem numL_lt {l : List UInt8} (h : l.all dig = true) : numL l < 10 ^ l.length := by
  induction hn : l.length generalizing l with
  | zero => rw [List.length_eq_zero_iff.1 hn]; simp [numL]
  | succ n ih =>
    rcases List.eq_nil_or_concat l with rfl | ⟨r, c, rfl⟩
    · cases hn
    · rw [List.concat_eq_append] at *
      simp only [List.all_append, Bool.and_eq_true, List.all_cons, List.all_nil, and_true] at h
      have h1 := ih h.1 (by simpa using hn)
      have h2 := h.2
      simp only [dig, decide_eq_true_eq] at h2
      rw [numL_snoc, Nat.pow_succ]; omega
/-- Is it a number's text? -/
def isNum (l : List UInt8) : Bool := !l.isEmpty && l.all dig && (l.head? != some 48 || l.length == 1)
def pErr (l : List UInt8) : Int := if isNum l = true then 0 else 10
def pNum (l : List UInt8) : Nat := if isNum l = true then numL l else 0
theorem isNum_snoc {l : List UInt8} {c : UInt8} (h : isNum (l ++ [c]) = true) (hl : l ≠ []) : isNum l = true ∧ dig c = true ∧ l.head? ≠ some 48 := by
  cases l with
  | nil => exact absurd rfl hl
  | cons a r =>
    simp [isNum] at h ⊢
    exact ⟨⟨⟨h.1.1, h.1.2.1⟩, .inl h.2⟩, h.1.2.2, h.2⟩
theorem numL_pos {l : List UInt8} (hl : l ≠ []) (hd : l.all dig = true) (h0 : l.head? ≠ some 48) : 0 < numL l := by
  cases l with
  | nil => exact absurd rfl hl
  | cons a r =>
    have e := numL_append [a] r
    rw [List.singleton_append] at e
    rw [e]
    simp only [List.all_cons, Bool.and_eq_true, dig, decide_eq_true_eq] at hd
    have ha : a.toNat ≠ 48 := fun h => h0 (by simp; exact UInt8.toNat_inj.1 h)
    have : 1 ≤ numL [a] := by simp [numL]; omega
    have h10 : 0 < 10 ^ r.length := Nat.pow_pos (by omega)
    have := Nat.mul_le_mul this h10
    omega
theorem dec_small {i : Nat} (h : i < 10) : decDigits i = [UInt8.ofNat (48 + i)] := decDigits_one h
theorem dec_big {u : Nat} (h : ¬ u < 10) : decDigits u = decDigits (u / 10) ++ [UInt8.ofNat (48 + u % 10)] := by
  conv => lhs; rw [decDigits]
  rw [dif_neg h]
theorem dec_num {l : List UInt8} (h : isNum l = true) : decDigits (numL l) = l := by
  induction hn : l.length generalizing l with
  | zero => rw [List.length_eq_zero_iff.1 hn] at h; simp [isNum] at h
  | succ n ih =>
    rcases List.eq_nil_or_concat l with rfl | ⟨r, c, rfl⟩
    · cases hn
    · rw [List.concat_eq_append] at *
      by_cases hr : r = []
      · subst hr
        simp only [List.nil_append] at *
        have hc : dig c = true := by simp [isNum] at h; exact h
        simp only [dig, decide_eq_true_eq] at hc
        have e : numL [c] = c.toNat - 48 := by simp [numL]
        rw [e, dec_small (by omega)]
        congr 1
        apply UInt8.toNat_inj.1
        rw [UInt8.toNat_ofNat']
        omega
      · obtain ⟨h1, h2, h3⟩ := isNum_snoc h hr
        have hp := numL_pos hr (by simp [isNum] at h1; simpa using h1.1.2) h3
        simp only [dig, decide_eq_true_eq] at h2
        rw [numL_snoc, dec_big (by omega), show (numL r * 10 + (c.toNat - 48)) / 10 = numL r from by omega, ih h1 (by simpa using hn)]
        congr 2
        apply UInt8.toNat_inj.1
        rw [UInt8.toNat_ofNat']
        omega
theorem num_dec (u : Nat) : numL (decDigits u) = u := by
  induction u using Nat.strongRecOn with
  | _ u ih =>
    by_cases h : u < 10
    · rw [dec_small h]
      simp [numL, UInt8.toNat_ofNat']; omega
    · rw [dec_big h, numL_snoc, ih _ (by omega), UInt8.toNat_ofNat']; omega
theorem dec_dig (u : Nat) : (decDigits u).all dig = true := by
  induction u using Nat.strongRecOn with
  | _ u ih =>
    by_cases h : u < 10
    · rw [dec_small h]
      simp [dig, UInt8.toNat_ofNat']; omega
    · rw [dec_big h, List.all_append, ih _ (by omega)]
      simp [dig, UInt8.toNat_ofNat']; omega
theorem dec_ne (u : Nat) : decDigits u ≠ [] := by
  by_cases h : u < 10
  · rw [dec_small h]; simp
  · rw [dec_big h]; simp
theorem dec_head (u : Nat) : (decDigits u).head? = some 48 → u = 0 := by
  induction u using Nat.strongRecOn with
  | _ u ih =>
    intro hh
    by_cases h : u < 10
    · rw [dec_small h] at hh
      simp at hh
      have := congrArg UInt8.toNat hh
      rw [UInt8.toNat_ofNat'] at this
      simp at this; omega
    · rw [dec_big h, List.head?_append] at hh
      have h1 := dec_ne (u / 10)
      cases hd : decDigits (u / 10) with
      | nil => exact absurd hd h1
      | cons a r =>
        rw [hd] at hh
        have := ih (u / 10) (by omega) (by rw [hd]; simpa using hh); omega
theorem isNum_dec (u : Nat) : isNum (decDigits u) = true := by
  unfold isNum
  have h1 := dec_ne u
  have h2 := dec_dig u
  by_cases h : (decDigits u).head? = some 48
  · rw [dec_head u h, dec_small (by omega)]; decide
  · have h3 : ((decDigits u).head? != some 48) = true := by simpa using h
    rw [h2, h3]; simp [h1]
theorem pErr_dec (u : Nat) : pErr (decDigits u) = 0 := by unfold pErr; rw [if_pos (isNum_dec u)]
theorem pNum_dec (u : Nat) : pNum (decDigits u) = u := by unfold pNum; rw [if_pos (isNum_dec u), num_dec]
theorem dec_inj {a b : Nat} (h : decDigits a = decDigits b) : a = b := by rw [← num_dec a, ← num_dec b, h]

theorem parseM_ok {M : Nat} : ∀ (l : List UInt8) (acc : Nat), l.all dig = true → (∀ k, k ≤ l.length → acc * 10 ^ k + 10 ^ k ≤ 1000000000) → 1000000000 ≤ M → parseUintM M acc l = .ok (l.foldl (fun a c => a * 10 + (c.toNat - 48)) acc)
  | [], acc, _, _, _ => rfl
  | c :: r, acc, h, hb, hM => by
    simp only [List.all_cons, Bool.and_eq_true] at h
    have hc := h.1
    simp only [dig, decide_eq_true_eq] at hc
    have h1 := hb 1 (by simp)
    simp only [parseUintM]
    rw [if_pos hc, if_neg (by omega), if_neg (by omega), parseM_ok r _ h.2 _ hM]
    · rfl
    · intro k hk
      have h2 := hb (k + 1) (by simp; omega)
      rw [Nat.pow_succ] at h2
      have h3 : (acc * 10 + (c.toNat - 48)) * 10 ^ k + 10 ^ k ≤ (acc * 10 + 9) * 10 ^ k + 10 ^ k := by
        have := Nat.mul_le_mul_right (10 ^ k) (show acc * 10 + (c.toNat - 48) ≤ acc * 10 + 9 by omega)
        omega
      have h4 : (acc * 10 + 9) * 10 ^ k + 10 ^ k = acc * (10 ^ k * 10) + 10 ^ k * 10 := by
        rw [Nat.add_mul, Nat.mul_assoc, Nat.mul_comm 10 (10 ^ k)]; omega
      omega
theorem parse32_ok {l : List UInt8} (h0 : l ≠ []) (hd : l.all dig = true) (hl : l.length ≤ 9) : parseUintB 32 l = .ok (numL l) := by
  unfold parseUintB
  rw [if_neg h0]
  exact parseM_ok l 0 hd (fun k hk => by
    have : 10 ^ k ≤ 10 ^ 9 := Nat.pow_le_pow_right (by omega) (by omega)
    omega) (by decide)
def tens : List UInt8 := [48, 49, 50, 51, 52, 53, 54, 55, 56, 57]
theorem tens_dig (c : UInt8) : tens.contains c = dig c := by
  rw [Bool.eq_iff_iff]
  simp only [tens, dig, decide_eq_true_eq, List.contains_iff_mem, List.mem_cons, List.not_mem_nil, or_false]
  constructor
  · rintro (rfl | rfl | rfl | rfl | rfl | rfl | rfl | rfl | rfl | rfl) <;> decide
  · intro h
    have : c = UInt8.ofNat c.toNat := by simp
    generalize c.toNat = n at *
    subst this
    have : n = 48 ∨ n = 49 ∨ n = 50 ∨ n = 51 ∨ n = 52 ∨ n = 53 ∨ n = 54 ∨ n = 55 ∨ n = 56 ∨ n = 57 := by omega
    rcases this with rfl | rfl | rfl | rfl | rfl | rfl | rfl | rfl | rfl | rfl <;> simp
theorem trim_digits (l : List UInt8) : trimS l tens = [] ↔ l.all dig = true := by
  have e : (fun c => tens.contains c) = dig := funext tens_dig
  unfold trimS trimLeftS trimRightS
  rw [e]
  constructor
  · intro h
    have h1 : ∀ m : List UInt8, m.dropWhile dig = [] ↔ m.all dig = true := fun m => by
      induction m with
      | nil => simp
      | cons a r ih =>
        simp only [List.dropWhile_cons, List.all_cons]
        cases dig a <;> simp [ih]
    rw [h1, List.all_reverse, ← h1] at h
    by_cases h2 : l.reverse.dropWhile dig = []
    · rw [h1, List.all_reverse] at h2; exact h2
    · exfalso
      have h3 := List.head?_dropWhile_not dig l.reverse
      generalize l.reverse.dropWhile dig = m at *
      cases m with
      | nil => exact h2 rfl
      | cons a r =>
        simp at h3 h
        rw [List.dropWhile_cons] at h
        simp [h3] at h
  · intro h
    have h1 : l.reverse.dropWhile dig = [] := by
      have h2 : ∀ m : List UInt8, m.all dig = true → m.dropWhile dig = [] := fun m => by
        induction m with
        | nil => simp
        | cons a r ih => intro hm; simp only [List.all_cons, Bool.and_eq_true] at hm; rw [List.dropWhile_cons, if_pos hm.1, ih hm.2]
      exact h2 _ (by rw [List.all_reverse]; exact h)
    rw [h1]; rfl
end Go.Proofs.YtkjlmibleoecgaaGreatDoor
/- Long division, in plain words. -/
namespace Go.Proofs.YtkjlmibleoecgaaGreatDoor
set_option linter.unusedSimpArgs false
set_option linter.unusedVariables false

theorem val_div_pow {b : Nat} (hb : 0 < b) {L : List Nat} (h : ∀ d ∈ L, d < b) (j : Nat) : val b L / b ^ j = val b (L.drop j) := by
  by_cases hj : j ≤ L.length
  · have e : L = L.take j ++ L.drop j := (List.take_append_drop j L).symm
    have hl : (L.take j).length = j := by rw [List.length_take]; omega
    have hv : val b L = val b (L.take j) + b ^ j * val b (L.drop j) := by
      conv => lhs; rw [e]
      rw [val_append, hl]
    have ht := val_lt hb (fun d hd => h d (List.mem_of_mem_take hd) : ∀ d ∈ L.take j, d < b)
    rw [hl] at ht
    rw [hv, Nat.add_mul_div_left _ _ (Nat.pow_pos hb), Nat.div_eq_of_lt ht, Nat.zero_add]
  · rw [List.drop_eq_nil_of_le (by omega)]
    have h1 := val_lt hb h
    have h2 : b ^ L.length ≤ b ^ j := Nat.pow_le_pow_right hb (by omega)
    rw [Nat.div_eq_of_lt (by omega)]; rfl
theorem val_zero_of {b : Nat} : ∀ {L : List Nat}, (∀ j, L.getD j 0 = 0) → val b L = 0
  | [], _ => rfl
  | d :: r, h => by
    have h0 : d = 0 := by simpa using h 0
    have hr : val b r = 0 := val_zero_of fun j => by simpa [List.getD_eq_getElem?_getD] using h (j + 1)
    rw [val, h0, hr]; simp
theorem val_drop_succ {b : Nat} (L : List Nat) (j : Nat) : val b (L.drop j) = L.getD j 0 + b * val b (L.drop (j + 1)) := by
  by_cases hj : j < L.length
  · rw [List.drop_eq_getElem_cons hj, val, getD_lt hj]
  · rw [List.drop_eq_nil_of_le (by omega), List.drop_eq_nil_of_le (by omega), List.getD_eq_getElem?_getD, List.getElem?_eq_none (by omega)]; rfl
theorem val_top {b : Nat} {L : List Nat} {j : Nat} (h : ∀ i, j ≤ i → L.getD i 0 = 0) : val b (L.drop j) = 0 :=
  val_zero_of fun i => by rw [List.getD_eq_getElem?_getD, List.getElem?_drop, ← List.getD_eq_getElem?_getD]; exact h _ (by omega)
theorem val_lt_top {b : Nat} (hb : 0 < b) {L : List Nat} (h : ∀ d ∈ L, d < b) {j : Nat} (hz : ∀ i, j ≤ i → L.getD i 0 = 0) : val b L < b ^ j := by
  have h1 := val_div_pow hb h j
  rw [val_top hz] at h1
  exact (Nat.div_eq_zero_iff.1 h1).elim (fun h => absurd h (by have := Nat.pow_pos (n := j) hb; omega)) id

theorem lt_div_succ {X P : Nat} (h : 0 < P) : X < (X / P + 1) * P := by rw [Nat.mul_comm]; exact Nat.lt_mul_div_succ X h
/-- The guess: never too low .. -/
theorem guess_le {V D P T M Bk X g : Nat} (hP : 0 < P) (hB : 0 < Bk) (hV : D * P ≤ V) (hM : M = Bk * P) (hT : X < (T + 1) * M) (hg : g ≤ X / (Bk * V)) (hV0 : 0 < V) : g * D ≤ T := by
  have h1 : g * (Bk * V) ≤ X := (Nat.le_div_iff_mul_le (Nat.mul_pos hB hV0)).1 hg
  have h2 : g * D * M ≤ g * (Bk * V) := by
    rw [hM]
    have : g * Bk * (D * P) ≤ g * Bk * V := Nat.mul_le_mul_left _ hV
    have e : g * D * (Bk * P) = g * Bk * (D * P) := by simp only [Nat.mul_assoc, Nat.mul_left_comm]
    rw [e, ← Nat.mul_assoc g Bk V]
    exact this
  have h3 : g * D * M < (T + 1) * M := by omega
  have := Nat.lt_of_mul_lt_mul_right h3
  omega
/-- .. and at most by one too high. -/
theorem guess_high {V D P T M Bk X g : Nat} (hV : V < (D + 1) * P) (hM : M = Bk * P) (hB : 0 < Bk) (hT : T * M ≤ X) (hg : g * D ≤ T) (hgD : g ≤ D + 1) (hV0 : 0 < V) : g ≤ X / (Bk * V) + 1 := by
  by_cases h0 : g = 0
  · subst h0; exact Nat.zero_le _
  obtain ⟨g', rfl⟩ : ∃ g', g = g' + 1 := ⟨g - 1, by omega⟩
  refine Nat.succ_le_succ ((Nat.le_div_iff_mul_le (Nat.mul_pos hB hV0)).2 ?_)
  have h1 : g' * (D + 1) ≤ T := by
    rw [Nat.add_mul, Nat.one_mul] at hg
    rw [Nat.mul_add, Nat.mul_one]
    omega
  have h2 : g' * (Bk * V) ≤ g' * (Bk * ((D + 1) * P)) := Nat.mul_le_mul_left _ (Nat.mul_le_mul_left _ (Nat.le_of_lt hV))
  have h3 : g' * (Bk * ((D + 1) * P)) = g' * (D + 1) * M := by rw [hM]; simp only [Nat.mul_assoc, Nat.mul_left_comm]
  have h4 : g' * (D + 1) * M ≤ T * M := Nat.mul_le_mul_right _ h1
  omega
/-- The digits that the guess looks at. -/
structure Look (b k n : Nat) (U vs : List Nat) : Prop where
  hb : 2 ≤ b
  hn : 2 ≤ n
  lenU : k + n < U.length
  ltU : ∀ d ∈ U, d < b
  hiU : ∀ i, k + n < i → U.getD i 0 = 0
  lenV : vs.length = n
  ltV : ∀ d ∈ vs, d < b
  topV : 1 ≤ vs.getD (n - 1) 0
  small : val b U < b ^ (k + 1) * val b vs
section
variable {b k n : Nat} {U vs : List Nat} (h : Look b k n U vs)
include h
theorem Look.v0 : 0 < val b vs := by
  have h1 := val_div_pow (by have := h.hb; omega) h.ltV (n - 1)
  have h2 := val_drop_succ (b := b) vs (n - 1)
  have h3 := h.topV
  by_cases h0 : val b vs = 0
  · rw [h0, Nat.zero_div] at h1; omega
  · omega
/-- The digit. -/
theorem Look.q_lt : val b U / (b ^ k * val b vs) < b := by
  have hp : 0 < b ^ k := Nat.pow_pos (by have := h.hb; omega)
  rw [Nat.div_lt_iff_lt_mul (Nat.mul_pos hp h.v0)]
  have := h.small
  rw [Nat.pow_succ] at this
  rw [Nat.mul_comm (b ^ k) b, Nat.mul_assoc] at this
  exact this
theorem Look.one : val b vs / b ^ (n - 1) = vs.getD (n - 1) 0 := by
  rw [val_div_pow (by have := h.hb; omega) h.ltV, val_drop_succ, List.drop_eq_nil_of_le (by have := h.lenV; have := h.hn; omega)]
  simp [val]
theorem Look.two : val b vs / b ^ (n - 2) = vs.getD (n - 1) 0 * b + vs.getD (n - 2) 0 := by
  rw [val_div_pow (by have := h.hb; omega) h.ltV, val_drop_succ, val_drop_succ, show n - 2 + 1 = n - 1 by have := h.hn; omega, List.drop_eq_nil_of_le (by have := h.lenV; have := h.hn; omega)]
  simp only [val, Nat.mul_zero, Nat.add_zero]
  rw [Nat.mul_comm, Nat.add_comm]
theorem Look.top2 : val b U / b ^ (k + (n - 1)) = U.getD (k + n) 0 * b + U.getD (k + n - 1) 0 := by
  have hn := h.hn
  rw [val_div_pow (by have := h.hb; omega) h.ltU, val_drop_succ, val_drop_succ, val_top (j := k + (n - 1) + 1 + 1) (fun i hi => h.hiU i (by omega)), show k + (n - 1) + 1 = k + n by omega, show k + (n - 1) = k + n - 1 by omega]
  rw [Nat.mul_zero, Nat.add_zero, Nat.mul_comm, Nat.add_comm]
theorem Look.top3 : val b U / b ^ (k + (n - 2)) = (U.getD (k + n) 0 * b + U.getD (k + n - 1) 0) * b + U.getD (k + n - 2) 0 := by
  have hn := h.hn
  rw [val_div_pow (by have := h.hb; omega) h.ltU, val_drop_succ, val_drop_succ, val_drop_succ, val_top (j := k + (n - 2) + 1 + 1 + 1) (fun i hi => h.hiU i (by omega)), show k + (n - 2) + 1 + 1 = k + n by omega, show k + (n - 2) + 1 = k + n - 1 by omega, show k + (n - 2) = k + n - 2 by omega]
  rw [Nat.mul_zero, Nat.add_zero, Nat.mul_comm b, Nat.mul_comm b, Nat.add_comm, Nat.add_comm (U.getD (k + n - 1) 0)]
/-- The first guess is not too low. -/
theorem Look.first {g : Nat} (hg : g = min ((U.getD (k + n) 0 * b + U.getD (k + n - 1) 0) / vs.getD (n - 1) 0) (b - 1)) : val b U / (b ^ k * val b vs) ≤ g := by
  have hb := h.hb
  have h1 := h.q_lt
  have hp : 0 < b ^ (n - 1) := Nat.pow_pos (by omega)
  have hk : 0 < b ^ k := Nat.pow_pos (by omega)
  have h2 : val b U / (b ^ k * val b vs) * vs.getD (n - 1) 0 ≤ U.getD (k + n) 0 * b + U.getD (k + n - 1) 0 := by
    refine guess_le (V := val b vs) (P := b ^ (n - 1)) (M := b ^ (k + (n - 1))) (X := val b U) hp hk ?_ (Nat.pow_add ..) ?_ (Nat.le_refl _) h.v0
    · rw [← h.one]; exact Nat.div_mul_le_self _ _
    · rw [← h.top2]; exact lt_div_succ (Nat.pow_pos (by omega))
  have h3 := (Nat.le_div_iff_mul_le (show 0 < vs.getD (n - 1) 0 from h.topV)).2 h2
  omega
/-- What is tested is tested rightly: a guess that is too great .. -/
theorem Look.more {g rest : Nat} (hr : rest + g * vs.getD (n - 1) 0 = U.getD (k + n) 0 * b + U.getD (k + n - 1) 0) (hc : rest * b + U.getD (k + n - 2) 0 < g * vs.getD (n - 2) 0) : val b U / (b ^ k * val b vs) < g := by
  have hb := h.hb
  have hp : 0 < b ^ (n - 2) := Nat.pow_pos (by omega)
  have hk : 0 < b ^ k := Nat.pow_pos (by omega)
  refine Nat.lt_of_not_le fun hle => ?_
  have h1 : g * (vs.getD (n - 1) 0 * b + vs.getD (n - 2) 0) ≤ (U.getD (k + n) 0 * b + U.getD (k + n - 1) 0) * b + U.getD (k + n - 2) 0 := by
    refine guess_le (V := val b vs) (P := b ^ (n - 2)) (M := b ^ (k + (n - 2))) (X := val b U) hp hk ?_ (Nat.pow_add ..) ?_ hle h.v0
    · rw [← h.two]; exact Nat.div_mul_le_self _ _
    · rw [← h.top3]; exact lt_div_succ (Nat.pow_pos (by omega))
  rw [← hr, Nat.mul_add, Nat.add_mul, Nat.mul_assoc] at h1
  omega
/-- .. and one that is not. -/
theorem Look.enough {g rest : Nat} (hg : g < b) (hr : rest + g * vs.getD (n - 1) 0 = U.getD (k + n) 0 * b + U.getD (k + n - 1) 0) (hv2 : vs.getD (n - 2) 0 < b) (hc : b ≤ rest ∨ g * vs.getD (n - 2) 0 ≤ rest * b + U.getD (k + n - 2) 0) : g ≤ val b U / (b ^ k * val b vs) + 1 := by
  have hb := h.hb
  have hk : 0 < b ^ k := Nat.pow_pos (by omega)
  have hp : 0 < b ^ (n - 2) := Nat.pow_pos (by omega)
  refine guess_high (D := vs.getD (n - 1) 0 * b + vs.getD (n - 2) 0) (P := b ^ (n - 2)) (T := (U.getD (k + n) 0 * b + U.getD (k + n - 1) 0) * b + U.getD (k + n - 2) 0) (M := b ^ (k + (n - 2))) ?_ (Nat.pow_add ..) hk ?_ ?_ ?_ h.v0
  · rw [← h.two]; exact lt_div_succ hp
  · rw [← h.top3]; exact Nat.div_mul_le_self _ _
  · rw [← hr, Nat.mul_add, Nat.add_mul, Nat.mul_assoc]
    rcases hc with hc | hc
    · have h1 : g * vs.getD (n - 2) 0 ≤ b * b := Nat.mul_le_mul (by omega) (by omega)
      have h2 : b * b ≤ rest * b := Nat.mul_le_mul_right _ hc
      omega
    · omega
  · have h1 : 1 * b ≤ vs.getD (n - 1) 0 * b := Nat.mul_le_mul_right _ h.topV
    omega
end
end Go.Proofs.YtkjlmibleoecgaaGreatDoor
/- Blocks in a row: what was laid one behind the other. -/
namespace Go.Proofs.YtkjlmibleoecgaaGreatDoor
set_option linter.unusedSimpArgs false
set_option linter.unusedVariables false
open Go.RowKit
/-- The blocks from p on are these. -/
def Bxs (w : World) : Nat → List (Array Value × TypeId) → Prop
  | _, [] => True
  | p, x :: L => Box w p x.1 x.2 ∧ Bxs w (p + 1) L
def allocs (w : World) : List (Array Value × TypeId) → World
  | [] => w
  | x :: L => allocs (w.alloc (.cells x.1 x.2)) L
theorem Bxs.new {w w' : World} (hn : New w w') : ∀ {L : List (Array Value × TypeId)} {p : Nat}, Bxs w p L → Bxs w' p L
  | [], _, _ => trivial
  | _ :: _, _, h => ⟨h.1.new hn, Bxs.new hn h.2⟩
theorem allocs_new : ∀ (L : List (Array Value × TypeId)) (w : World), New w (allocs w L)
  | [], w => New.refl w
  | x :: L, w => ((New.refl w).alloc (.cells x.1 x.2)).trans (allocs_new L _)
theorem allocs_bxs : ∀ (L : List (Array Value × TypeId)) (w : World), Bxs (allocs w L) w.heap.size L
  | [], _ => trivial
  | x :: L, w => ⟨(Box.last w x.1 x.2).new (allocs_new L _), by have := allocs_bxs L (w.alloc (.cells x.1 x.2)); rw [World.size_alloc] at this; exact this⟩
theorem Bxs.far {w : World} {q i : Nat} {u : Value} : ∀ {L : List (Array Value × TypeId)} {p : Nat}, Bxs w p L → (q < p ∨ p + L.length ≤ q) → Bxs (w.setCell ⟨q, i, none⟩ u) p L
  | [], _, _, _ => trivial
  | _ :: L, p, h, hq => ⟨h.1.far (by simp at hq; omega) u, Bxs.far h.2 (by simp at hq; omega)⟩
theorem Bxs.lt {w : World} : ∀ {L : List (Array Value × TypeId)} {p : Nat}, Bxs w p L → L ≠ [] → p + L.length ≤ w.heap.size
  | [], _, _, h => absurd rfl h
  | [_], p, h, _ => by have := h.1.lt; simp; omega
  | _ :: y :: L, p, h, _ => by have := Bxs.lt h.2 (by simp); simp at this ⊢; omega
theorem Box.cells2 {w : World} {p : Nat} {a b : Value} {T : TypeId} (h : Box w p #[a, b] T) : w.cell? ⟨p, 0, none⟩ = some a ∧ w.cell? ⟨p, 1, none⟩ = some b := ⟨h.cell 0, h.cell 1⟩
theorem Box.cells1 {w : World} {p : Nat} {a : Value} {T : TypeId} (h : Box w p #[a] T) : w.cell? ⟨p, 0, none⟩ = some a := h.cell 0
theorem Bxs.two {w : World} {p : Nat} {C1 C2 : Array Value} {T1 T2 : TypeId} (h : Bxs w p [(C1, T1), (C2, T2)]) : Box w p C1 T1 ∧ Box w (p + 1) C2 T2 := ⟨h.1, h.2.1⟩
theorem Bxs.three {w : World} {p : Nat} {C1 C2 C3 : Array Value} {T1 T2 T3 : TypeId} (h : Bxs w p [(C1, T1), (C2, T2), (C3, T3)]) : Box w p C1 T1 ∧ Box w (p + 1) C2 T2 ∧ Box w (p + 1 + 1) C3 T3 := ⟨h.1, h.2.1, h.2.2.1⟩
theorem Bxs.four {w : World} {p : Nat} {C1 C2 C3 C4 : Array Value} {T1 T2 T3 T4 : TypeId} (h : Bxs w p [(C1, T1), (C2, T2), (C3, T3), (C4, T4)]) : Box w p C1 T1 ∧ Box w (p + 1) C2 T2 ∧ Box w (p + 1 + 1) C3 T3 ∧ Box w (p + 1 + 1 + 1) C4 T4 := ⟨h.1, h.2.1, h.2.2.1, h.2.2.2.1⟩
end Go.Proofs.YtkjlmibleoecgaaGreatDoor
/- Rows of a call's own, that grow by append. -/
namespace Go.Proofs.YtkjlmibleoecgaaGreatDoor
set_option linter.unusedSimpArgs false
set_option linter.unusedVariables false
open Go.RowKit

/-- v is a slice, of a block at or behind B, that owns the row xs. -/
def OwnE {α : Type} (enc : α → Value) (E : TypeId) (B : Nat) (w : World) (v : Value) (xs : List α) : Prop := w.ownsRow B E 1 v xs.length (xs.map enc)
theorem OwnE.nil {α : Type} (enc : α → Value) (E : TypeId) (B : Nat) (w : World) : OwnE enc E B w (.slice none 0 0) [] := ⟨rfl, .inl ⟨rfl, rfl⟩⟩
theorem OwnE.form {α : Type} {enc : α → Value} {E : TypeId} {B : Nat} {w : World} {v : Value} {xs : List α} (h : OwnE enc E B w v xs) : ∃ A c, v = .slice A xs.length c := by
  rcases h.2 with ⟨rfl, h0⟩ | ⟨g, cap, cur, rfl, _⟩
  · exact ⟨none, 0, by rw [h0]⟩
  · exact ⟨_, _, rfl⟩
theorem OwnE.new {α : Type} {enc : α → Value} {E : TypeId} {B : Nat} {w w' : World} {v : Value} {xs : List α} (h : OwnE enc E B w v xs) (hn : New w w') : OwnE enc E B w' v xs := by
  refine ⟨h.1, ?_⟩
  rcases h.2 with ⟨rfl, h0⟩ | ⟨g, cap, cur, rfl, h1, h2, h3⟩
  · exact .inl ⟨rfl, h0⟩
  · exact .inr ⟨g, cap, cur, rfl, h1, hn.block h2, h3⟩
/-- A cell of a block of another type is turned. -/
theorem OwnE.set {α : Type} {enc : α → Value} {E : TypeId} {B : Nat} {w : World} {v : Value} {xs : List α} (h : OwnE enc E B w v xs) {p i : Nat} {C' : Array Value} {T : TypeId} {fr' : Nat × Nat} (hp : w.heap[p]? = some (.cells C' T fr')) (ht : T ≠ E) (u : Value) : OwnE enc E B (w.setCell ⟨p, i, none⟩ u) v xs := by
  refine ⟨h.1, ?_⟩
  rcases h.2 with ⟨rfl, h0⟩ | ⟨g, cap, cur, rfl, h1, h2, h3⟩
  · exact .inl ⟨rfl, h0⟩
  · have hne : g ≠ p := by
      rintro rfl
      rw [hp] at h2
      injection h2 with h2; injection h2 with _ h2 _
      exact ht h2
    exact .inr ⟨g, cap, cur, rfl, h1, by rw [Below.heap_setCell w _ u g hne]; exact h2, h3⟩
theorem OwnE.at {α : Type} {enc : α → Value} {E : TypeId} {B : Nat} {w : World} {v : Value} {xs : List α} (h : OwnE enc E B w v xs) (h0 : xs ≠ []) : ∃ g c, v = .slice (some ⟨g, 0, none⟩) xs.length c ∧ xs.length ≤ c ∧ c ≤ maxLen ∧ B ≤ g ∧ (∃ cur, w.heap[g]? = some (.cells cur E (0, 0))) ∧ ∀ i (hi : i < xs.length), w.cell? ⟨g, i, none⟩ = some (enc xs[i]) := by
  rcases h.2 with ⟨rfl, h1⟩ | ⟨g, cap, cur, rfl, h1, h2, h3, h4, h5, h6⟩
  · exact absurd (List.length_eq_zero_iff.1 h1) h0
  · refine ⟨g, cap, rfl, h3, h4, h1, ⟨cur, h2⟩, fun i hi => ?_⟩
    simp only [World.cell?, h2]
    have e : (cur.toList.take (xs.length * 1))[i]? = (xs.map enc)[i]? := by rw [h6]
    rw [List.getElem?_take_of_lt (by omega), List.getElem?_map, List.getElem?_eq_getElem hi] at e
    simpa using e
theorem OwnE.sl {E : TypeId} {k : IntKind} {B : Nat} {w : World} {v : Value} {xs : List Nat} (h : OwnE (fun x : Nat => Value.int k (x : Int)) E B w v xs) : Sl E k w v xs := by
  by_cases h0 : xs = []
  · subst h0
    rcases h.2 with ⟨rfl, _⟩ | ⟨g, cap, cur, rfl, h1, h2, h3, h4, h5, h6⟩
    · exact ⟨none, 0, rfl, Nat.le_refl _, Nat.zero_le _, fun i hi => by cases hi⟩
    · exact ⟨_, _, rfl, h3, h4, fun i hi => by cases hi⟩
  · obtain ⟨g, c, rfl, h1, h2, _, ⟨cur, h3⟩, h4⟩ := h.at h0
    exact ⟨_, _, rfl, h1, h2, fun i hi => ⟨g, 0, cur, _, rfl, h3, by rw [Nat.zero_add, h4 i hi, getD_lt hi]⟩⟩
/-- A row of one's own is a block. -/
theorem OwnE.of_box {α : Type} {enc : α → Value} {E : TypeId} {B : Nat} {w : World} {g : Nat} {xs : List α} (h : Box w g (xs.map enc).toArray E) (hB : B ≤ g) (hl : xs.length ≤ maxLen) : OwnE enc E B w (.slice (some ⟨g, 0, none⟩) xs.length xs.length) xs :=
  ⟨by simp, .inr ⟨g, _, _, rfl, hB, h, Nat.le_refl _, hl, by simp, by simp [← List.map_take]⟩⟩
section
variable {P : Program} {α : Type}
theorem app_own (enc : α → Value) (w0 w : World) {ops : Array Oper} {rest : List Oper} {o : Oper} {a : Act} {Q : Exit → Act → World → Prop} (hgd : o.guard = none) (s x : Operand) (t E : TypeId)
    (ho : o.op = .call { callee := .builtin .append, args := #[s, x], argTypes := #[t, t] })
    (z : Value) (bytes : Nat) (ht : P.underlying t = some (.slice E)) (hi : (P.info? E).map (fun i => (i.zero, i.size, i.bytes)) = some (some z, 1, bytes)) (hzs : z.cells.size = 1) (hby : bytes ≤ 16)
    (v : Value) (xs : List α) (hs : a.eval s = v) (hn : New w0 w) (hown : OwnE enc E w0.heap.size w v xs)
    (b i c : Nat) (y : α) (hx : a.eval x = .slice (some ⟨b, i, none⟩) 1 c) (hy : w.cell? ⟨b, i, none⟩ = some (enc y)) (h1 : (enc y).oneCell' = true) (hl : xs.length ≤ 1099511627776)
    (h : ∀ A c' w', OwnE enc E w0.heap.size w' (.slice A (xs.length + 1) c') (xs ++ [y]) → New w0 w' → wpList P ops Q rest (a.put o.dst (.slice A (xs.length + 1) c')) w') : wpList P ops Q (o :: rest) a w := by
  obtain ⟨i0, hi, hz0, hz1, hz2⟩ := info_parts hi
  refine wpList_append_own w hgd s x t ho w0.heap.size E i0 z 1 bytes ht hi hz0 hz1 hz2 hzs (by decide) v xs.length (xs.map enc) hs hown ⟨b, i, none⟩ 1 c [enc y] hx rfl ?_ ?_ (by unfold maxLen; omega) ?_ hn.le ?_
  · intro j u hj
    cases j with
    | zero => simp at hj; rw [← hj]; exact hy
    | succ j => simp at hj
  · intro u hu; simp at hu; rw [hu]; exact h1
  · have : (xs.length + 1) * bytes ≤ (xs.length + 1) * 16 := Nat.mul_le_mul_left _ hby
    omega
  · intro v' w' ho hg _
    have hown' : OwnE enc E w0.heap.size w' v' (xs ++ [y]) := by unfold OwnE; rw [List.map_append, List.length_append]; exact ho
    obtain ⟨A, c', rfl⟩ := hown'.form
    rw [List.length_append] at *
    refine h A c' w' hown' (Below.grown hn hg hn.le fun k hk => ?_)
    rcases hown.2 with ⟨rfl, _⟩ | ⟨g, cap, cur, rfl, h1, _⟩
    · simp [Value.ownBlock] at hk
    · simp [Value.ownBlock] at hk; omega
end
end Go.Proofs.YtkjlmibleoecgaaGreatDoor
/- Plain: a number's decimal text, nine digits at a time. -/
namespace Go.Proofs.YtkjlmibleoecgaaGreatDoor
open Go.Lib (decDigits)

/-- Zeros ahead, to nine digits. -/
def pad9 (l : List UInt8) : List UInt8 := List.replicate (9 - l.length) 48 ++ l
theorem numL_zeros (k : Nat) (l : List UInt8) : numL (List.replicate k 48 ++ l) = numL l := by
  rw [numL_append]
  have : numL (List.replicate k 48) = 0 := by
    induction k with
    | zero => rfl
    | succ k ih =>
      rw [List.replicate_succ', numL_snoc, ih]; rfl
  rw [this, Nat.zero_mul, Nat.zero_add]
theorem dec_len_le {u k : Nat} (h : u < 10 ^ k) (hk : 0 < k) : (decDigits u).length ≤ k := by
  rcases Nat.eq_zero_or_pos u with rfl | h0
  · rw [dec_small (by omega)]; simp; omega
  · have hne := dec_ne u
    have hh : (decDigits u).head? ≠ some 48 := fun h1 => by have := dec_head u h1; omega
    have hd := dec_dig u
    have hv := num_dec u
    generalize decDigits u = l at *
    rw [← hv] at h
    cases l with
    | nil => exact absurd rfl hne
    | cons a r =>
      have e : numL (a :: r) = numL [a] * 10 ^ r.length + numL r := by rw [show a :: r = [a] ++ r from rfl, numL_append]
      have ha : 0 < numL [a] := numL_pos (by simp) (by simp at hd; simp [hd.1]) (by simpa using hh)
      have h1 : 10 ^ r.length ≤ numL [a] * 10 ^ r.length := Nat.le_mul_of_pos_left _ ha
      have h2 : 10 ^ r.length < 10 ^ k := by omega
      have := (Nat.pow_lt_pow_iff_right (a := 10) (by omega)).1 h2
      simp; omega
theorem pad9_len {u : Nat} (h : u < 1000000000) : (pad9 (decDigits u)).length = 9 := by
  have := dec_len_le (u := u) (k := 9) h (by omega)
  unfold pad9; simp; omega
theorem dec_nine {m : Nat} (h : 0 < m / 1000000000) : decDigits m = decDigits (m / 1000000000) ++ pad9 (decDigits (m % 1000000000)) := by
  have hr : m % 1000000000 < 1000000000 := Nat.mod_lt _ (by omega)
  have hn : numL (decDigits (m / 1000000000) ++ pad9 (decDigits (m % 1000000000))) = m := by
    rw [numL_append, pad9_len hr, num_dec]
    unfold pad9
    rw [numL_zeros, num_dec]
    have := Nat.div_add_mod m 1000000000
    have e : (10 : Nat) ^ 9 = 1000000000 := rfl
    rw [e]; omega
  have hi : isNum (decDigits (m / 1000000000) ++ pad9 (decDigits (m % 1000000000))) = true := by
    have hne := dec_ne (m / 1000000000)
    have hh : (decDigits (m / 1000000000)).head? ≠ some 48 := fun h1 => by have := dec_head _ h1; omega
    have h1 := dec_dig (m / 1000000000)
    have h2 := dec_dig (m % 1000000000)
    generalize decDigits (m / 1000000000) = a at *
    generalize decDigits (m % 1000000000) = b at *
    have hz : (List.replicate (9 - b.length) (48 : UInt8)).all dig = true := by
      rw [List.all_eq_true]; intro x hx; rw [List.eq_of_mem_replicate hx]; rfl
    unfold isNum pad9
    cases a with
    | nil => exact absurd rfl hne
    | cons c r =>
      rw [List.all_append, List.all_append, h1, h2, hz]
      have h3 : (some c != some 48) = true := by simpa using hh
      simp only [List.cons_append, List.head?_cons, h3]
      rfl
  have := dec_num hi
  rw [hn] at this
  exact this
end Go.Proofs.YtkjlmibleoecgaaGreatDoor
/- Long division, in plain words: what is taken away, and given back; the rest, shifted back. -/
namespace Go.Proofs.YtkjlmibleoecgaaGreatDoor
set_option linter.unusedSimpArgs false
set_option linter.unusedVariables false

theorem vset (b : Nat) : ∀ (L : List Nat) (j z : Nat), j < L.length → val b (L.set j z) + b ^ j * L.getD j 0 = val b L + b ^ j * z
  | [], j, z, h => by cases h
  | d :: r, 0, z, _ => by simp [val]; omega
  | d :: r, j + 1, z, h => by
    have ih := vset b r j z (by simpa using h)
    simp only [List.set_cons_succ, val, Nat.pow_succ]
    have e : (d :: r).getD (j + 1) 0 = r.getD j 0 := by simp [List.getD_eq_getElem?_getD]
    rw [e]
    have e1 : b * (val b (r.set j z) + b ^ j * r.getD j 0) = b * (val b r + b ^ j * z) := by rw [ih]
    simp only [Nat.mul_add] at e1
    rw [Nat.mul_comm (b ^ j) b, Nat.mul_assoc, Nat.mul_assoc]; omega
theorem vtake (b : Nat) (xs : List Nat) (k : Nat) : val b (xs.take (k + 1)) = val b (xs.take k) + b ^ k * xs.getD k 0 := by
  by_cases h : k < xs.length
  · rw [take_succ_getD 0 h, val_snoc, List.length_take, Nat.min_eq_left (by omega)]
  · rw [List.take_of_length_le (by omega), List.take_of_length_le (by omega), List.getD_eq_getElem?_getD, List.getElem?_eq_none (by omega)]; simp
theorem lt_set {b : Nat} {L : List Nat} (h : ∀ d ∈ L, d < b) (k : Nat) {z : Nat} (hz : z < b) : ∀ d ∈ L.set k z, d < b := fun e hm => by
  rcases List.mem_or_eq_of_mem_set hm with hm | rfl
  · exact h e hm
  · exact hz
theorem getD_set_ne {L : List Nat} {k j : Nat} (z : Nat) (h : k ≠ j) : (L.set k z).getD j 0 = L.getD j 0 := by
  rw [List.getD_eq_getElem?_getD, List.getElem?_set_ne h, ← List.getD_eq_getElem?_getD]
theorem getD_zero_of {b : Nat} (hb : 0 < b) {L : List Nat} (h : ∀ d ∈ L, d < b) {j : Nat} (hv : val b L < b ^ j) (i : Nat) (hi : j ≤ i) : L.getD i 0 = 0 := by
  have h1 := val_div_pow hb h i
  have h2 : b ^ j ≤ b ^ i := Nat.pow_le_pow_right hb hi
  rw [Nat.div_eq_of_lt (by omega), val_drop_succ] at h1
  omega
/-- What is taken away: the guess times the divisor, i digits of it. -/
structure SubMul (b k g : Nat) (U vs : List Nat) (i c bo : Nat) (L : List Nat) : Prop where
  len : L.length = U.length
  lt : ∀ d ∈ L, d < b
  rest : ∀ j, k + i ≤ j → L.getD j 0 = U.getD j 0
  hc : c < b
  hbo : bo ≤ 1
  sum : val b L + b ^ k * (g * val b (vs.take i)) = val b U + b ^ (k + i) * (c + bo)
theorem SubMul.start {b k g : Nat} {U vs : List Nat} (hb : 2 ≤ b) (hU : ∀ d ∈ U, d < b) : SubMul b k g U vs 0 0 0 U :=
  ⟨rfl, hU, fun _ _ => rfl, by omega, by omega, by simp [val]⟩
theorem SubMul.step {b k g : Nat} {U vs : List Nat} {i c bo : Nat} {L : List Nat} (h : SubMul b k g U vs i c bo L) (hb : 2 ≤ b) (hi : k + i < U.length) {d bo' : Nat} (hd : d < b) (hbo : bo' ≤ 1)
    (hg : g < b) (hv : vs.getD i 0 < b) (e : d + (c + g * vs.getD i 0) % b + bo = L.getD (k + i) 0 + b * bo') : SubMul b k g U vs (i + 1) ((c + g * vs.getD i 0) / b) bo' (L.set (k + i) d) := by
  have hp : g * vs.getD i 0 ≤ (b - 1) * (b - 1) := Nat.mul_le_mul (by omega) (by omega)
  have hc := h.hc
  refine ⟨by simp [h.len], lt_set h.lt _ hd, fun j hj => ?_, ?_, hbo, ?_⟩
  · rw [getD_set_ne _ (by omega)]; exact h.rest j (by omega)
  · rw [Nat.div_lt_iff_lt_mul (by omega)]
    obtain ⟨b', rfl⟩ : ∃ b', b = b' + 1 := ⟨b - 1, by omega⟩
    simp only [Nat.add_sub_cancel] at hp
    have : (b' + 1) * (b' + 1) = b' * b' + b' + (b' + 1) := by rw [Nat.add_mul, Nat.mul_add]; omega
    omega
  · have e0 := vset b L (k + i) d (by rw [h.len]; exact hi)
    have e2 := Nat.div_add_mod (c + g * vs.getD i 0) b
    have h1 := h.sum
    rw [vtake, show k + (i + 1) = k + i + 1 by omega, Nat.pow_succ]
    generalize (c + g * vs.getD i 0) / b = q at *
    generalize (c + g * vs.getD i 0) % b = r at *
    generalize L.getD (k + i) 0 = l at *
    generalize val b (L.set (k + i) d) = VL at *
    have e3 : b ^ (k + i) * (d + r + bo) = b ^ (k + i) * (l + b * bo') := by rw [e]
    have e4 : b ^ (k + i) * (b * q + r) = b ^ (k + i) * (c + g * vs.getD i 0) := by rw [e2]
    have e5 : b ^ k * (g * (b ^ i * vs.getD i 0)) = b ^ (k + i) * (g * vs.getD i 0) := by rw [Nat.pow_add, Nat.mul_assoc, Nat.mul_left_comm g]
    simp only [Nat.mul_add, ← Nat.mul_assoc] at e3 e4 e5 h1 e0 ⊢
    omega
/-- Behind it, with the digit ahead of the divisor's. -/
structure Taken (b k n g : Nat) (U vs : List Nat) (bo : Nat) (L : List Nat) : Prop where
  len : L.length = U.length
  lt : ∀ d ∈ L, d < b
  hi : ∀ j, k + n < j → L.getD j 0 = 0
  hbo : bo ≤ 1
  sum : val b L + b ^ k * (g * val b vs) = val b U + b ^ (k + n + 1) * bo
theorem SubMul.last {b k n g : Nat} {U vs : List Nat} {c bo : Nat} {L : List Nat} (h : SubMul b k g U vs n c bo L) (hl : Look b k n U vs) {d bo' : Nat} (hd : d < b) (hbo : bo' ≤ 1) (e : d + c + bo = L.getD (k + n) 0 + b * bo') : Taken b k n g U vs bo' (L.set (k + n) d) := by
  refine ⟨by simp [h.len], lt_set h.lt _ hd, fun j hj => ?_, hbo, ?_⟩
  · rw [getD_set_ne _ (by omega), h.rest j (by omega)]; exact hl.hiU j hj
  · have e0 := vset b L (k + n) d (by rw [h.len]; exact hl.lenU)
    have h1 := h.sum
    rw [List.take_of_length_le (by have := hl.lenV; omega)] at h1
    rw [Nat.pow_succ]
    generalize L.getD (k + n) 0 = l at *
    generalize val b (L.set (k + n) d) = VL at *
    have e3 : b ^ (k + n) * (d + c + bo) = b ^ (k + n) * (l + b * bo') := by rw [e]
    simp only [Nat.mul_add, ← Nat.mul_assoc] at e3 h1 e0 ⊢
    omega
section
variable {b k n g bo : Nat} {U vs L : List Nat}
theorem Taken.lt_top (h : Taken b k n g U vs bo L) (hl : Look b k n U vs) : val b L < b ^ (k + n + 1) := val_lt_top (by have := hl.hb; omega) h.lt fun i hi => h.hi i (by omega)
/-- Nothing borrowed: the guess was right. -/
theorem Taken.right (h : Taken b k n g U vs 0 L) (hl : Look b k n U vs) (hg : val b U / (b ^ k * val b vs) ≤ g) : g = val b U / (b ^ k * val b vs) ∧ val b L = val b U % (b ^ k * val b vs) := by
  have hk : 0 < b ^ k := Nat.pow_pos (by have := hl.hb; omega)
  have h1 := h.sum
  rw [Nat.mul_zero, Nat.add_zero] at h1
  have h2 : g * (b ^ k * val b vs) ≤ val b U := by rw [Nat.mul_left_comm]; omega
  have h3 := (Nat.le_div_iff_mul_le (Nat.mul_pos hk hl.v0)).2 h2
  have h4 : g = val b U / (b ^ k * val b vs) := by omega
  refine ⟨h4, ?_⟩
  have h5 := Nat.div_add_mod (val b U) (b ^ k * val b vs)
  rw [← h4, Nat.mul_assoc, Nat.mul_comm (val b vs)] at h5
  omega
/-- Borrowed: it was one too many. -/
theorem Taken.wrong (h : Taken b k n g U vs 1 L) (hl : Look b k n U vs) (hg : g ≤ val b U / (b ^ k * val b vs) + 1) : g = val b U / (b ^ k * val b vs) + 1 := by
  have hk : 0 < b ^ k := Nat.pow_pos (by have := hl.hb; omega)
  have h1 := h.sum
  have h0 := h.lt_top hl
  rw [Nat.mul_one] at h1
  refine Nat.le_antisymm hg (Nat.lt_of_not_le fun hle => ?_)
  have h3 := (Nat.le_div_iff_mul_le (Nat.mul_pos hk hl.v0)).1 hle
  rw [Nat.mul_left_comm] at h3
  omega
end
/-- What is given back. -/
structure Back (b k : Nat) (U vs : List Nat) (i c : Nat) (L : List Nat) : Prop where
  len : L.length = U.length
  lt : ∀ d ∈ L, d < b
  rest : ∀ j, k + i ≤ j → L.getD j 0 = U.getD j 0
  hc : c ≤ 1
  sum : val b L + b ^ (k + i) * c = val b U + b ^ k * val b (vs.take i)
theorem Back.start {b k : Nat} {U vs : List Nat} (hU : ∀ d ∈ U, d < b) : Back b k U vs 0 0 U := ⟨rfl, hU, fun _ _ => rfl, by omega, by simp [val]⟩
theorem Back.step {b k : Nat} {U vs : List Nat} {i c : Nat} {L : List Nat} (h : Back b k U vs i c L) (hi : k + i < U.length) {d c' : Nat} (hd : d < b) (hc : c' ≤ 1) (e : d + b * c' = L.getD (k + i) 0 + vs.getD i 0 + c) : Back b k U vs (i + 1) c' (L.set (k + i) d) := by
  refine ⟨by simp [h.len], lt_set h.lt _ hd, fun j hj => ?_, hc, ?_⟩
  · rw [getD_set_ne _ (by omega)]; exact h.rest j (by omega)
  · have e0 := vset b L (k + i) d (by rw [h.len]; exact hi)
    have h1 := h.sum
    rw [vtake, show k + (i + 1) = k + i + 1 by omega, Nat.pow_succ]
    generalize L.getD (k + i) 0 = l at *
    generalize val b (L.set (k + i) d) = VL at *
    have e3 : b ^ (k + i) * (d + b * c') = b ^ (k + i) * (l + vs.getD i 0 + c) := by rw [e]
    have e5 : b ^ k * (b ^ i * vs.getD i 0) = b ^ (k + i) * vs.getD i 0 := by rw [Nat.pow_add, Nat.mul_assoc]
    simp only [Nat.mul_add, ← Nat.mul_assoc] at e3 e5 h1 e0 ⊢
    omega
theorem Back.last {b k n : Nat} {U0 U vs : List Nat} {c q : Nat} {L : List Nat} (h : Back b k U vs n c L) (hl : Look b k n U0 vs) (ht : Taken b k n (q + 1) U0 vs 1 U) (hq : q = val b U0 / (b ^ k * val b vs)) :
    (∀ d ∈ L.set (k + n) ((L.getD (k + n) 0 + c) % b), d < b) ∧ (L.set (k + n) ((L.getD (k + n) 0 + c) % b)).length = U0.length ∧ val b (L.set (k + n) ((L.getD (k + n) 0 + c) % b)) = val b U0 % (b ^ k * val b vs) := by
  have hb := hl.hb
  have hd : (L.getD (k + n) 0 + c) % b < b := Nat.mod_lt _ (by omega)
  have hlt := lt_set h.lt (k + n) hd
  refine ⟨hlt, by simp [h.len, ht.len], ?_⟩
  have hll : k + n < L.length := by rw [h.len, ht.len]; exact hl.lenU
  have e0 := vset b L (k + n) ((L.getD (k + n) 0 + c) % b) hll
  have hz : ∀ i, k + n + 1 ≤ i → (L.set (k + n) ((L.getD (k + n) 0 + c) % b)).getD i 0 = 0 := fun i hi => by
    rw [getD_set_ne _ (by omega), h.rest i (by omega)]; exact ht.hi i (by omega)
  have htop := val_lt_top (by omega) hlt hz
  have h1 := h.sum
  rw [List.take_of_length_le (by have := hl.lenV; omega)] at h1
  have h2 := ht.sum
  rw [Nat.mul_one] at h2
  have e2 := Nat.div_add_mod (L.getD (k + n) 0 + c) b
  have hk : 0 < b ^ k := Nat.pow_pos (by omega)
  have h5 := Nat.div_add_mod (val b U0) (b ^ k * val b vs)
  have h6 := Nat.mod_lt (val b U0) (Nat.mul_pos hk hl.v0)
  rw [← hq] at h5
  have h7 : b ^ k * val b vs ≤ b ^ (k + n + 1) := by
    rw [show k + n + 1 = k + (n + 1) by omega, Nat.pow_add]
    refine Nat.mul_le_mul_left _ ?_
    have := val_lt (b := b) (by omega) hl.ltV
    rw [hl.lenV] at this
    have : b ^ n ≤ b ^ (n + 1) := Nat.pow_le_pow_right (by omega) (by omega)
    omega
  rw [Nat.pow_succ] at h2 htop h7
  generalize val b (L.set (k + n) ((L.getD (k + n) 0 + c) % b)) = Z at *
  generalize (L.getD (k + n) 0 + c) / b = q1 at *
  generalize (L.getD (k + n) 0 + c) % b = r1 at *
  generalize L.getD (k + n) 0 = l at *
  generalize val b U0 % (b ^ k * val b vs) = R at *
  have e4 : b ^ (k + n) * (b * q1 + r1) = b ^ (k + n) * (l + c) := by rw [e2]
  have e5 : b ^ k * ((q + 1) * val b vs) = b ^ k * val b vs * q + b ^ k * val b vs := by rw [Nat.add_mul, Nat.one_mul, Nat.mul_add, Nat.mul_comm q, Nat.mul_assoc]
  rw [e5] at h2
  simp only [Nat.mul_add, ← Nat.mul_assoc] at e4
  have key : Z + b ^ (k + n) * b * q1 = R + b ^ (k + n) * b := by omega
  rcases Nat.lt_or_ge q1 1 with hq1 | hq1
  · obtain rfl : q1 = 0 := by omega
    rw [Nat.mul_zero] at key
    omega
  · rcases Nat.lt_or_ge q1 2 with hq2 | hq2
    · obtain rfl : q1 = 1 := by omega
      rw [Nat.mul_one] at key
      omega
    · have : b ^ (k + n) * b * 2 ≤ b ^ (k + n) * b * q1 := Nat.mul_le_mul_left _ hq2
      omega
/-- What holds between two digits: k digits are left. -/
structure DivInv (b n X0 : Nat) (vs : List Nat) (k : Nat) (U Q : List Nat) : Prop where
  ltU : ∀ d ∈ U, d < b
  ltQ : ∀ d ∈ Q, d < b
  small : val b U < b ^ k * val b vs
  zero : ∀ j, j < k → Q.getD j 0 = 0
  sum : X0 = val b U + val b vs * val b Q
theorem DivInv.look {b n X0 : Nat} {vs : List Nat} {k : Nat} {U Q : List Nat} (h : DivInv b n X0 vs (k + 1) U Q) (hb : 2 ≤ b) (hn : 2 ≤ n) (hv : vs.length = n) (hlv : ∀ d ∈ vs, d < b) (ht : 1 ≤ vs.getD (n - 1) 0) (hU : k + n < U.length) : Look b k n U vs := by
  refine ⟨hb, hn, hU, h.ltU, fun i hi => ?_, hv, hlv, ht, h.small⟩
  have h1 := val_lt (b := b) (by omega) hlv
  rw [hv] at h1
  have h2 : b ^ (k + 1) * val b vs ≤ b ^ (k + 1) * b ^ n := Nat.mul_le_mul_left _ (by omega)
  rw [← Nat.pow_add] at h2
  have := h.small
  exact getD_zero_of (by omega) h.ltU (j := k + 1 + n) (by omega) i (by omega)
theorem DivInv.step {b n X0 : Nat} {vs : List Nat} {k : Nat} {U Q U' : List Nat} (h : DivInv b n X0 vs (k + 1) U Q) (hl : Look b k n U vs) (hq : k < Q.length) (hU : ∀ d ∈ U', d < b) (hv : val b U' = val b U % (b ^ k * val b vs)) :
    DivInv b n X0 vs k U' (Q.set k (val b U / (b ^ k * val b vs))) := by
  have hb := hl.hb
  have hk : 0 < b ^ k := Nat.pow_pos (by omega)
  refine ⟨hU, lt_set h.ltQ _ hl.q_lt, ?_, fun j hj => ?_, ?_⟩
  · rw [hv]; exact Nat.mod_lt _ (Nat.mul_pos hk hl.v0)
  · rw [getD_set_ne _ (by omega)]; exact h.zero j (by omega)
  · have e0 := vset b Q k (val b U / (b ^ k * val b vs)) hq
    rw [h.zero k (by omega), Nat.mul_zero, Nat.add_zero] at e0
    have h5 := Nat.div_add_mod (val b U) (b ^ k * val b vs)
    rw [hv, e0, Nat.mul_add, h.sum]
    have e : val b vs * (b ^ k * (val b U / (b ^ k * val b vs))) = b ^ k * val b vs * (val b U / (b ^ k * val b vs)) := by rw [← Nat.mul_assoc, Nat.mul_comm (val b vs)]
    omega
theorem DivInv.done {b n X0 : Nat} {vs U Q : List Nat} (h : DivInv b n X0 vs 0 U Q) (h0 : 0 < val b vs) : val b Q = X0 / val b vs ∧ val b U = X0 % val b vs := by
  have h1 := h.small
  rw [Nat.pow_zero, Nat.one_mul] at h1
  rw [h.sum]
  exact ⟨by rw [Nat.add_mul_div_left _ _ h0, Nat.div_eq_of_lt h1, Nat.zero_add], by rw [Nat.add_mul_mod_self_left, Nat.mod_eq_of_lt h1]⟩
/-- Digits of a number below a power. -/
theorem val_digits {b : Nat} (hb : 2 ≤ b) (z : Nat) : ∀ (R : List Nat), (∀ i, i < R.length → R.getD i 0 = z / b ^ i % b) → val b R = z % b ^ R.length
  | [], _ => by simp [val, Nat.mod_one]
  | d :: r, h => by
    have h0 : d = z % b := by have := h 0 (by simp); simpa using this
    have hr := val_digits hb (z / b) r fun i hi => by
      have := h (i + 1) (by simpa using hi)
      rw [Nat.pow_succ, Nat.mul_comm (b ^ i), ← Nat.div_div_eq_div_mul] at this
      simpa [List.getD_eq_getElem?_getD] using this
    rw [val, hr, h0, List.length_cons, Nat.pow_succ, Nat.mul_comm (b ^ r.length) b, Nat.mod_mul]
/-- A digit of a list that is shifted to the right by less than a digit. -/
theorem shifted_digit {b s t : Nat} (hs : s * t = b) (hs0 : 0 < s) {U : List Nat} (h : ∀ d ∈ U, d < b) (hb : 0 < b) (i : Nat) : (U.getD (i + 1) 0 * b + U.getD i 0) / s % b = val b U / s / b ^ i % b := by
  rw [Nat.div_div_eq_div_mul, Nat.mul_comm s, ← Nat.div_div_eq_div_mul, val_div_pow hb h, val_drop_succ, val_drop_succ]
  generalize val b (U.drop (i + 1 + 1)) = Z
  have e : U.getD i 0 + b * (U.getD (i + 1) 0 + b * Z) = (U.getD (i + 1) 0 * b + U.getD i 0) + s * (b * (t * Z)) := by
    rw [Nat.mul_add, Nat.mul_comm b (U.getD (i + 1) 0)]
    have : b * (b * Z) = s * (b * (t * Z)) := by
      conv => lhs; rw [← hs]
      rw [Nat.mul_assoc, Nat.mul_left_comm t, ← hs]
    omega
  rw [e, Nat.add_mul_div_left _ _ hs0, Nat.add_mul_mod_self_left]
end Go.Proofs.YtkjlmibleoecgaaGreatDoor
/- The program's nat, part 1. -/
namespace Go.Proofs.YtkjlmibleoecgaaGreatDoor
open Go.RowKit

set_option maxHeartbeats 800000 in
theorem trimmed_c {xs : List Nat} {u : Value} {w : World} (h : Sl 89 .u32 w u xs) :
    Calls Tryz.prog 74 #[u] w fun e w' => ∃ v, e = .returned (.agg #[v]) ∧ Sl 89 .u32 w' v (trim xs) ∧ New w w' := by
  obtain ⟨A, c, rfl, hc, hm, hr⟩ := h
  have hm0 := hm
  unfold maxLen at hm
  have hfin : ∀ w', New w w' → Sl 89 .u32 w' (.slice A (trim xs).length c) (trim xs) := fun w' hb => by
    have hl := trim_le xs
    refine Sl.new ⟨A, c, rfl, by omega, hm0, fun i hi => ?_⟩ hb
    obtain ⟨b, o, C, fr, e, h1, h2⟩ := hr i (by omega)
    refine ⟨b, o, C, fr, e, h1, ?_⟩
    have e1 : (trim xs).getD i 0 = (xs.take (trim xs).length).getD i 0 := congrArg (fun l : List Nat => l.getD i 0) (trim_prefix xs)
    rw [e1, getD_take _ _ _ _ hi]; exact h2
  have HF := Lib.hid hfin
  clear hfin hm0
  go_enter Tryz.func74, Tryz.ntmps74
  go_wp2
  go_loopw [0] (fun v w' => ∃ m : Nat, v = .slice A m c ∧ m ≤ xs.length ∧ (trim (xs.take m) = trim xs) ∧ ∃ n, w' = (w.alloc (.cells #[.slice none 0 0] 26)).drewN n) (fun v _ => match v with | .slice _ m _ => m | _ => 0)
  case atStart => exact ⟨xs.length, rfl, Nat.le_refl _, by simp, 0, rfl⟩
  case round =>
    obtain ⟨m, rfl, hm1, ht, n, rfl⟩ := hrel
    have HT := Lib.hid ht
    clear ht
    by_cases h0 : 0 < m
    · obtain ⟨b, o, C, fr, rfl, hbl, hcell⟩ := hr (m - 1) (by omega)
      have hb := lt_of_block hbl
      clear hbl
      clear hr
      by_cases hz : xs.getD (m - 1) 0 = 0
      · have hcell' : w.cell? ⟨b, o + (m - 1), none⟩ = some (.int .u32 0) := by rw [hcell, hz]; rfl
        have HZ := Lib.hid hz
        clear hcell hz
        go_wp2
        go_roundw
        case rel => exact ⟨m - 1, rfl, by omega, by rw [trim_take_pred h0 hm1 HZ.out]; exact HT.out, _, rfl⟩
        case measure => simp; omega
      · have hz' : (((xs.getD (m - 1) 0 : Nat) : Int) == 0) = false := by rw [beq_eq_false_iff_ne]; omega
        have ht2 : trim xs = xs.take m := by rw [← HT.out, trim_take_id h0 hm1 hz]
        have hlen : (trim xs).length = m := by rw [ht2, List.length_take]; omega
        have hf : ∀ w', New w w' → Sl 89 .u32 w' (.slice (some ⟨b, o, none⟩) m c) (trim xs) := by
          have := HF.out; rw [hlen] at this; exact this
        have HL := Lib.hid hf
        clear hlen ht2 hf
        generalize hd : xs.getD (m - 1) 0 = d at hz hz' hcell
        have HD := Lib.hid hd
        clear hd hz
        go_wp2
        refine bodyPost_ret (v := .agg #[.slice (some ⟨b, o, none⟩) m c]) (by simp [results, Tryz.results74, go_sem]) rfl ⟨_, rfl, ?_, ?_⟩
        · exact HL.out _ ((((New.refl w).alloc _).drewN _).setCell (Nat.le_refl _) _)
        · exact (((New.refl w).alloc _).drewN _).setCell (Nat.le_refl _) _
    · obtain rfl : m = 0 := by omega
      have hlen : (trim xs).length = 0 := by rw [← HT.out]; rfl
      have hf : ∀ w', New w w' → Sl 89 .u32 w' (.slice A 0 c) (trim xs) := by
        have := HF.out; rw [hlen] at this; exact this
      have HL := Lib.hid hf
      clear hr hlen hf
      go_wp2
      refine bodyPost_ret (v := .agg #[.slice A 0 c]) (by simp [results, Tryz.results74, go_sem]) rfl ⟨_, rfl, ?_, ?_⟩
      · exact HL.out _ ((((New.refl w).alloc _).drewN _).setCell (Nat.le_refl _) _)
      · exact (((New.refl w).alloc _).drewN _).setCell (Nat.le_refl _) _
end Go.Proofs.YtkjlmibleoecgaaGreatDoor
/- Append to a row of one's own: what else stays. -/
namespace Go.Proofs.YtkjlmibleoecgaaGreatDoor
open Go.RowKit
variable {P : Program} {α : Type}
theorem app_own2 (enc : α → Value) (w0 w : World) {ops : Array Oper} {rest : List Oper} {o : Oper} {a : Act} {Q : Exit → Act → World → Prop} (hgd : o.guard = none) (s x : Operand) (t E : TypeId)
    (ho : o.op = .call { callee := .builtin .append, args := #[s, x], argTypes := #[t, t] })
    (z : Value) (bytes : Nat) (ht : P.underlying t = some (.slice E)) (hi : (P.info? E).map (fun i => (i.zero, i.size, i.bytes)) = some (some z, 1, bytes)) (hzs : z.cells.size = 1) (hby : bytes ≤ 16)
    (v : Value) (xs : List α) (hs : a.eval s = v) (hn : New w0 w) (hown : OwnE enc E w0.heap.size w v xs)
    (b i c : Nat) (y : α) (hx : a.eval x = .slice (some ⟨b, i, none⟩) 1 c) (hy : w.cell? ⟨b, i, none⟩ = some (enc y)) (h1 : (enc y).oneCell' = true) (hl : xs.length ≤ 1099511627776)
    (h : ∀ A c' w', OwnE enc E w0.heap.size w' (.slice A (xs.length + 1) c') (xs ++ [y]) → New w0 w' → (∀ (p : Nat) (C : Array Value) (T : TypeId) (fr : Nat × Nat), w.heap[p]? = some (Obj.cells C T fr) → T ≠ E → w'.heap[p]? = some (Obj.cells C T fr)) → w.heap.size ≤ w'.heap.size → wpList P ops Q rest (a.put o.dst (.slice A (xs.length + 1) c')) w') : wpList P ops Q (o :: rest) a w := by
  obtain ⟨i0, hi, hz0, hz1, hz2⟩ := info_parts hi
  refine wpList_append_own w hgd s x t ho w0.heap.size E i0 z 1 bytes ht hi hz0 hz1 hz2 hzs (by decide) v xs.length (xs.map enc) hs hown ⟨b, i, none⟩ 1 c [enc y] hx rfl ?_ ?_ (by unfold maxLen; omega) ?_ hn.le ?_
  · intro j u hj
    cases j with
    | zero => simp at hj; rw [← hj]; exact hy
    | succ j => simp at hj
  · intro u hu; simp at hu; rw [hu]; exact h1
  · have : (xs.length + 1) * bytes ≤ (xs.length + 1) * 16 := Nat.mul_le_mul_left _ hby
    omega
  · intro v' w' ho hg _
    have hown' : OwnE enc E w0.heap.size w' v' (xs ++ [y]) := by unfold OwnE; rw [List.map_append, List.length_append]; exact ho
    obtain ⟨A, c', rfl⟩ := hown'.form
    rw [List.length_append] at *
    refine h A c' w' hown' (Below.grown hn hg hn.le fun k hk => ?_) (fun p C T fr hp hT => ?_) hg.size
    · rcases hown.2 with ⟨rfl, _⟩ | ⟨g, cap, cur, rfl, h1, _⟩
      · simp [Value.ownBlock] at hk
      · simp [Value.ownBlock] at hk; omega
    · rw [hg.block p (lt_of_block hp) ?_]
      · exact hp
      · intro hk
        rcases hown.2 with ⟨rfl, _⟩ | ⟨g, cap, cur, rfl, h1, h2, _⟩
        · simp [Value.ownBlock] at hk
        · simp [Value.ownBlock] at hk
          subst hk
          rw [hp] at h2
          injection h2 with h2; injection h2 with _ h2 _
          exact hT h2
/-- What else is kept: a slice of another type. -/
theorem Sl.kept {E : TypeId} {k : IntKind} {w w' : World} {v : Value} {xs : List Nat} (h : Sl E k w v xs) {F : TypeId} (hne : E ≠ F) (hk : ∀ (p : Nat) (C : Array Value) (T : TypeId) (fr : Nat × Nat), w.heap[p]? = some (Obj.cells C T fr) → T ≠ F → w'.heap[p]? = some (Obj.cells C T fr)) : Sl E k w' v xs := by
  obtain ⟨A, c, e, h1, h2, h3⟩ := h
  refine ⟨A, c, e, h1, h2, fun i hi => ?_⟩
  obtain ⟨b, o, C, fr, e, hl, hc⟩ := h3 i hi
  have hb := hk b C E fr hl hne
  refine ⟨b, o, C, fr, e, hb, ?_⟩
  rw [← hc]
  exact World.cell?_of_block (hb.trans hl.symm)
theorem NatV.kept {w w' : World} {v : Value} {n : Nat} (h : NatV w v n) {F : TypeId} (hne : 89 ≠ F) (hk : ∀ (p : Nat) (C : Array Value) (T : TypeId) (fr : Nat × Nat), w.heap[p]? = some (Obj.cells C T fr) → T ≠ F → w'.heap[p]? = some (Obj.cells C T fr)) : NatV w' v n := by
  obtain ⟨u, e, h⟩ := h
  exact ⟨u, e, h.kept hne hk⟩
end Go.Proofs.YtkjlmibleoecgaaGreatDoor
/- The program's nat, part 2: Of, scaled, parted. -/
namespace Go.Proofs.YtkjlmibleoecgaaGreatDoor
open Go.RowKit

theorem info_u32 : (Tryz.prog.info? 89).map (fun i => (i.zero, i.size, i.bytes)) = some (some (.int .u32 0), 1, 4) := by kernel_rfl
theorem make_u32 (n : Nat) (h : n ≤ 70368744177664) (w : World) : (Instr.makeSlice 24 (.int .i64 (n : Int)) (.int .i64 (n : Int))).run Tryz.prog w = .ok (.slice (some ⟨w.heap.size, 0, none⟩) n n) (w.alloc (.cells (ecells .u32 (List.replicate n 0)) 89)) := by
  rw [← ecells_made]
  exact run_make_row' 24 89 _ 4 (by kernel_rfl) info_u32 rfl .i64 .i64 n (by omega) (by omega) w

set_option maxHeartbeats 800000 in
theorem of_c {n : Nat} (hn : n < 18446744073709551616) (w : World) :
    Calls Tryz.prog 69 #[.int .u64 (n : Int)] w fun e w' => ∃ v, e = .returned v ∧ NatV w' v n ∧ New w w' := by
  have hn' : (n : Int) ≤ 18446744073709551615 := by omega
  clear hn
  go_enter Tryz.func69, Tryz.ntmps69
  go_wp2_with fail
  have hbx := (Box.last w #[.slice none 0 0] 26).alloc (.cells #[.int .u32 ((n : Int) % 4294967296), .int .u32 ((n : Int) / 4294967296)] 89)
  have hrow := Box.last2 w (.cells #[.slice none 0 0] 26) #[.int .u32 ((n : Int) % 4294967296), .int .u32 ((n : Int) / 4294967296)] 89
  have he : #[Value.int .u32 ((n : Int) % 4294967296), Value.int .u32 ((n : Int) / 4294967296)] = ecells .u32 [n % B32, n / B32] := by
    rw [B32_eq]; simp [ecells]
  have hs : Sl 89 .u32 _ (.slice (some ⟨w.heap.size + 1, 0, none⟩) 2 2) [n % B32, n / B32] := Sl.of_block (by rw [← he]; exact hrow) (by simp [maxLen])
  clear he hrow
  refine (trimmed_c hs).mono ?_
  rintro e w1 ⟨v, rfl, h1, h2⟩
  have hb1 := hbx.new h2
  have hc : w1.cell? ⟨w.heap.size, 0, none⟩ = some (.slice none 0 0) := hb1.cell 0
  have hf := hb1.frozen 0
  have hv : NatV w1 (.agg #[v]) n := by
    refine ⟨v, rfl, ?_⟩
    rw [← dg_of B32_2 (xs := [n % B32, n / B32])] at h1
    · have : val B32 [n % B32, n / B32] = n := by simp only [val, Nat.mul_zero, Nat.add_zero]; have := Nat.div_add_mod n B32; omega
      rw [this] at h1; exact h1
    · intro d hd
      rw [B32_eq] at *
      simp at hd; omega
  obtain ⟨A1, l1, c1, e1⟩ := hv.form
  obtain rfl : v = .slice A1 l1 c1 := by simpa using e1
  have HB := Lib.hid hb1
  clear hs hbx h1 hb1 e1
  go_wp2
  refine bodyPost_ret (v := .agg #[.slice A1 l1 c1]) (by simp [results, Tryz.results69, go_sem, hc]) rfl ⟨_, rfl, hv.set HB.out (by decide) _, ?_⟩
  exact ((((New.refl w).alloc _).alloc _).trans h2).setCell (Nat.le_refl _) _

/-- One round of 'scaled': the digit and the carry. -/
def scStep (by_ : Nat) (s : List Nat × Nat) (x : Nat) : List Nat × Nat := (s.1 ++ [(s.2 + x * by_) % B32], (s.2 + x * by_) / B32)
def scAll (by_ more : Nat) (xs : List Nat) : List Nat × Nat := xs.foldl (scStep by_) ([], more)
theorem scAll_snoc (by_ more : Nat) (xs : List Nat) (x : Nat) : scAll by_ more (xs ++ [x]) = scStep by_ (scAll by_ more xs) x := by simp [scAll]
theorem scAll_facts {by_ more : Nat} (hb : by_ < B32) (hm : more < B32) (n : Nat) : ∀ xs : List Nat, xs.length = n → (∀ d ∈ xs, d < B32) →
    (scAll by_ more xs).1.length = xs.length ∧ (∀ d ∈ (scAll by_ more xs).1, d < B32) ∧ (scAll by_ more xs).2 < B32 ∧ val B32 (scAll by_ more xs).1 + B32 ^ xs.length * (scAll by_ more xs).2 = val B32 xs * by_ + more := by
  induction n with
  | zero => intro xs hn h; rw [List.length_eq_zero_iff.1 hn]; simp [scAll, val, hm]
  | succ n ih =>
    intro xs hn h
    rcases List.eq_nil_or_concat xs with rfl | ⟨l, x, rfl⟩
    · cases hn
    · rw [List.concat_eq_append] at *
      obtain ⟨h1, h2, h3, h4⟩ := ih l (by simpa using hn) (fun d hd => h d (by simp [hd]))
      have hx := h x (by simp)
      rw [scAll_snoc]
      generalize scAll by_ more l = s at *
      obtain ⟨ds, c⟩ := s
      simp only [scStep] at *
      have hc : (c + x * by_) / B32 < B32 := by
        rw [Nat.div_lt_iff_lt_mul (by rw [B32_eq]; omega)]
        have : x * by_ ≤ (B32 - 1) * (B32 - 1) := Nat.mul_le_mul (by omega) (by omega)
        rw [B32_eq] at *; omega
      refine ⟨by simp [h1], ?_, hc, ?_⟩
      · intro d hd
        rcases List.mem_append.1 hd with hd | hd
        · exact h2 d hd
        · simp at hd; subst hd; exact Nat.mod_lt _ (by rw [B32_eq]; omega)
      · rw [val_snoc, val_snoc, List.length_append, List.length_singleton, Nat.pow_succ, h1]
        have e := Nat.div_add_mod (c + x * by_) B32
        have e2 : B32 ^ l.length * ((c + x * by_) % B32) + B32 ^ l.length * B32 * ((c + x * by_) / B32) = B32 ^ l.length * (c + x * by_) := by
          rw [Nat.mul_assoc, ← Nat.mul_add, Nat.add_comm, e]
        rw [Nat.add_assoc, e2, Nat.mul_add, ← Nat.add_assoc, h4, Nat.add_mul, Nat.mul_assoc]; omega
theorem sc_le {by_ : Nat} (hb : by_ < B32) (c x : Nat) (hc : c < B32) (hx : x < B32) : (c : Int) + (x : Int) * (by_ : Int) ≤ 18446744073709551615 := by
  have h1 : x * by_ ≤ (B32 - 1) * (B32 - 1) := Nat.mul_le_mul (by omega) (by omega)
  have h2 : ((x * by_ : Nat) : Int) = (x : Int) * (by_ : Int) := by exact Int.natCast_mul _ _
  rw [← h2]; rw [B32_eq] at *; omega

set_option maxHeartbeats 1000000 in
theorem scaled_c {x by_ more : Nat} {v : Value} {w : World} (h : NatV w v x) (hb : by_ < B32) (hm : more < B32) (hl : (dg B32 x).length ≤ 1099511627776) :
    Calls Tryz.prog 107 #[v, .int .u32 (by_ : Int), .int .u32 (more : Int)] w fun e w' => ∃ v, e = .returned v ∧ NatV w' v (x * by_ + more) ∧ New w w' := by
  obtain ⟨u, rfl, A, c, rfl, hc, hmax, hr⟩ := h
  have hxs := dg_lt B32_2 x
  have hval := dg_val B32_2 x
  generalize dg B32 x = xs at *
  generalize hn : xs.length = n at *
  have hmk := make_u32 (n + 1) (by omega)
  rw [show ((n + 1 : Nat) : Int) = (n : Int) + 1 from by omega] at hmk
  have hby : (by_ : Int) ≤ 4294967295 := by rw [B32_eq] at hb; omega
  have hmo : (more : Int) ≤ 4294967295 := by rw [B32_eq] at hm; omega
  go_enter Tryz.func107, Tryz.ntmps107
  go_wp2
  go_loopw [8, 9, 10, 21] (fun c8 _ _ i w' => ∃ k : Nat, k ≤ n ∧ i = .int .i64 (k : Int) ∧ c8 = .int .u64 ((scAll by_ more (xs.take k)).2 : Nat) ∧
    w' = ((w.alloc (.cells #[.slice A n c] 26)).alloc (.cells #[.slice none 0 0] 26)).alloc (.cells (ecells .u32 ((scAll by_ more (xs.take k)).1 ++ List.replicate (n + 1 - k) 0)) 89)) (fun _ _ _ i _ => n - (intOf i).toNat)
  case atStart => exact ⟨0, by omega, rfl, rfl, rfl⟩
  case round =>
    obtain ⟨k, hk, rfl, rfl, rfl⟩ := hrel
    have hfa := scAll_facts hb hm k (xs.take k) (by rw [List.length_take]; omega) (fun d hd => hxs d (List.mem_of_mem_take hd))
    by_cases hlt : k < n
    · obtain ⟨b, o, C, fr, rfl, hbl, hcell⟩ := hr k hlt
      have hb0 := lt_of_block hbl
      have hstep : scAll by_ more (xs.take (k + 1)) = scStep by_ (scAll by_ more (xs.take k)) (xs.getD k 0) := by
        rw [take_succ_getD 0 (by omega), scAll_snoc]
      have hx : xs.getD k 0 < B32 := hxs _ (getD_mem (by omega))
      generalize hxk : xs.getD k 0 = d at *
      generalize scAll by_ more (xs.take k) = s at *
      obtain ⟨ds, c0⟩ := s
      simp only [scStep] at *
      obtain ⟨hdl, -, hc0, -⟩ := hfa
      have hdl' : ds.length = k := by rw [hdl, List.length_take]; omega
      have hle := sc_le hb c0 d hc0 hx
      have hw0 : IntKind.u64.wrap (d : Int) = (d : Int) := IntWalk.u64_in _ (by rw [B32_eq] at hx; omega)
      have hw1 : IntKind.u64.wrap ((d : Int) * (by_ : Int)) = (d : Int) * (by_ : Int) := IntWalk.u64_in _ (by have : (0 : Int) ≤ (d : Int) * (by_ : Int) := Int.mul_nonneg (by omega) (by omega); omega)
      have hw2 : IntKind.u64.wrap ((c0 : Int) + (d : Int) * (by_ : Int)) = (c0 : Int) + (d : Int) * (by_ : Int) := IntWalk.u64_in _ (by have : (0 : Int) ≤ (d : Int) * (by_ : Int) := Int.mul_nonneg (by omega) (by omega); omega)
      have hck : (ecells .u32 (ds ++ List.replicate (n + 1 - k) 0))[k]? = some (.int .u32 0) := by
        rw [ecells_get _ (by simp; omega)]
        simp [List.getD_eq_getElem?_getD, hdl', show 0 < n + 1 - k from by omega]
      have hset : (ecells .u32 (ds ++ List.replicate (n + 1 - k) 0)).setIfInBounds k (.int .u32 (((c0 : Int) + (d : Int) * (by_ : Int)) % 4294967296)) = ecells .u32 ((ds ++ [(c0 + d * by_) % B32]) ++ List.replicate (n + 1 - (k + 1)) 0) := by
        rw [show ((c0 : Int) + (d : Int) * (by_ : Int)) % 4294967296 = (((c0 + d * by_) % B32 : Nat) : Int) from by rw [cast_mod, cast_mad], ecells_set, ← hdl', show n + 1 - ds.length = (n + 1 - (ds.length + 1)) + 1 from by omega, List.replicate_succ]
        simp
      have hc8 : ((c0 : Int) + (d : Int) * (by_ : Int)) / 4294967296 = (((c0 + d * by_) / B32 : Nat) : Int) := by rw [cast_div, cast_mad]
      generalize ecells .u32 (ds ++ List.replicate (n + 1 - k) 0) = EC at *
      have HS := Lib.hid hstep
      have HE := Lib.hid hset
      have H8 := Lib.hid hc8
      have HV := Lib.hid hval
      have HX := Lib.hid hxk
      have HN := Lib.hid hn
      have HD := Lib.hid hdl'
      have hc3 := fun o1 o2 o3 => (((New.refl w).alloc o1).alloc o2).alloc o3 |>.still hcell
      clear hr hmk hdl hcell hstep hset hc8 hval hxk hn hdl' hbl hxs
      go_wp2
      go_roundw
      case rel =>
        refine ⟨k + 1, by omega, by go_num, ?_, ?_⟩
        · rw [HS.out, H8.out]
        · rw [HS.out, HE.out]
      case measure => simp [intOf]; omega
    · obtain rfl : k = n := by omega
      rw [List.take_of_length_le (by omega)] at hfa ⊢
      generalize scAll by_ more xs = s at *
      obtain ⟨ds, c0⟩ := s
      obtain ⟨hdl, hds, hc0, hv⟩ := hfa
      simp only at *
      have hdl' : ds.length = k := by rw [hdl]; exact hn
      have hck : (ecells .u32 (ds ++ List.replicate (k + 1 - k) 0))[k]? = some (.int .u32 0) := by
        rw [ecells_get _ (by simp; omega)]
        simp [List.getD_eq_getElem?_getD, hdl']
      have hset : (ecells .u32 (ds ++ List.replicate (k + 1 - k) 0)).setIfInBounds k (.int .u32 ((c0 : Int) % 4294967296)) = ecells .u32 (ds ++ [c0]) := by
        rw [show ((c0 : Int)) % 4294967296 = (c0 : Int) from by rw [B32_eq] at hc0; omega, ecells_set, ← hdl', show ds.length + 1 - ds.length = 1 from by omega]
        simp
      generalize ecells .u32 (ds ++ List.replicate (k + 1 - k) 0) = EC at *
      have HE := Lib.hid hset
      have HN := Lib.hid hn
      have HD := Lib.hid hdl'
      have HV := Lib.hid hv
      have HX := Lib.hid hval
      have HL := Lib.hid hds
      clear hr hmk hdl hset hn hdl' hv hval hds hxs
      go_wp2_with fail
      rw [HE.out]
      have hbx := ((Box.last (w.alloc (.cells #[.slice A k c] 26)) #[.slice none 0 0] 26)).alloc (.cells (ecells .u32 (ds ++ [c0])) 89)
      have hrow := Box.last3 w (.cells #[.slice A k c] 26) (.cells #[.slice none 0 0] 26) (ecells .u32 (ds ++ [c0])) 89
      have hs := Sl.of_block hrow (by have := HD.out; simp [maxLen]; omega)
      rw [show (ds ++ [c0]).length = k + 1 from by simp [HD.out]] at hs
      refine (trimmed_c hs).mono ?_
      rintro e w1 ⟨v, rfl, h1, h2⟩
      have hb1 := hbx.new h2
      have hcx : w1.cell? ⟨w.heap.size + 1, 0, none⟩ = some (.slice none 0 0) := by have := hb1.cell 0; simpa using this
      have hfx : w1.frozen? ⟨w.heap.size + 1, 0, none⟩ = false := by have := hb1.frozen 0; simpa using this
      have hv : NatV w1 (.agg #[v]) (x * by_ + more) := by
        refine ⟨v, rfl, ?_⟩
        rw [← HX.out, ← HV.out, HN.out, ← HD.out, ← val_snoc, dg_of B32_2]
        · exact h1
        · intro d hd
          rcases List.mem_append.1 hd with hd | hd
          · exact HL.out d hd
          · simp at hd; subst hd; exact hc0
      obtain ⟨A1, l1, c1, e1⟩ := hv.form
      obtain rfl : v = .slice A1 l1 c1 := by simpa using e1
      have HB := Lib.hid hb1
      clear hs hbx h1 hb1 e1 hrow
      go_wp2
      refine bodyPost_ret (v := .agg #[.slice A1 l1 c1]) (by simp [results, Tryz.results107, go_sem, hcx]) rfl ⟨_, rfl, hv.set (by simpa using HB.out) (by decide) _, ?_⟩
      exact (((((New.refl w).alloc _).alloc _).alloc _).trans h2).setCell (by simp) _
/-- What is known behind the last call of a function whose result lies in a cell. -/
theorem at_end {w W w1 : World} {p : Nat} {C : Array Value} (hb : Box W p C 26) (hW : New w W) (hp : w.heap.size ≤ p) (h : New W w1) :
    Box w1 p C 26 ∧ (∀ u, New w (w1.setCell ⟨p, 0, none⟩ u)) ∧ (∀ v n u, NatV w1 v n → NatV (w1.setCell ⟨p, 0, none⟩ u) v n) :=
  ⟨hb.new h, fun _ => (hW.trans h).setCell hp _, fun _ _ u hv => hv.set (hb.new h) (by decide) u⟩
theorem nat_of {w : World} {v : Value} {xs : List Nat} {n : Nat} (h : Sl 89 .u32 w v (trim xs)) (hd : ∀ d ∈ xs, d < B32) (hn : val B32 xs = n) : NatV w (.agg #[v]) n :=
  ⟨v, rfl, by rw [← hn, dg_of B32_2 hd]; exact h⟩

/-- 'parted', from the top: digits of the quotient, the remainder. -/
def pt (by_ : Nat) : List Nat → List Nat × Nat
  | [] => ([], 0)
  | x :: r => (((pt by_ r).2 * B32 + x) / by_ :: (pt by_ r).1, ((pt by_ r).2 * B32 + x) % by_)
theorem pt_facts {by_ : Nat} (h0 : 0 < by_) (hb : by_ < B32) : ∀ xs : List Nat, (∀ d ∈ xs, d < B32) →
    (pt by_ xs).1.length = xs.length ∧ (∀ d ∈ (pt by_ xs).1, d < B32) ∧ (pt by_ xs).2 < by_ ∧ val B32 (pt by_ xs).1 * by_ + (pt by_ xs).2 = val B32 xs
  | [], _ => by simp [pt, val, h0]
  | x :: r, h => by
    obtain ⟨h1, h2, h3, h4⟩ := pt_facts h0 hb r (fun d hd => h d (List.mem_cons_of_mem _ hd))
    have hx := h x (List.mem_cons_self ..)
    simp only [pt]
    generalize pt by_ r = s at *
    obtain ⟨q, c⟩ := s
    simp only at *
    refine ⟨by simp [h1], ?_, Nat.mod_lt _ h0, ?_⟩
    · intro d hd
      rcases List.mem_cons.1 hd with rfl | hd
      · rw [Nat.div_lt_iff_lt_mul h0]
        have : (c + 1) * B32 ≤ by_ * B32 := Nat.mul_le_mul_right _ h3
        rw [Nat.add_mul, Nat.mul_comm by_] at this
        omega
      · exact h2 d hd
    · simp only [val]
      have e := Nat.div_add_mod (c * B32 + x) by_
      rw [Nat.mul_comm by_] at e
      rw [Nat.add_mul, ← h4, Nat.mul_add, ← Nat.mul_assoc, Nat.mul_comm B32 c]
      omega
theorem or_u64 {c x : Nat} (hc : c < B32) (hx : x < B32) : Go.bits .or .u64 ((c : Int) * 4294967296) (x : Int) = ((c * B32 + x : Nat) : Int) := by
  rw [B32_eq] at *
  have h := Nat.two_pow_add_eq_or_of_lt (i := 32) (b := x) (by omega) c
  have e : ((c : Int) * 4294967296) = ((2 ^ 32 * c : Nat) : Int) := by omega
  rw [e, u64_or_nat _ _ (by omega) (by omega), ← h, Nat.mul_comm]
theorem pt_drop {by_ k : Nat} {xs : List Nat} (h0 : 0 < k) (hk : k ≤ xs.length) : pt by_ (xs.drop (k - 1)) = (((pt by_ (xs.drop k)).2 * B32 + xs.getD (k - 1) 0) / by_ :: (pt by_ (xs.drop k)).1, ((pt by_ (xs.drop k)).2 * B32 + xs.getD (k - 1) 0) % by_) := by
  rw [List.drop_eq_getElem_cons (by omega : k - 1 < xs.length), getD_lt (by omega), show k - 1 + 1 = k from by omega]; rfl

set_option maxHeartbeats 1000000 in
theorem parted_c {x by_ : Nat} {v : Value} {w : World} (h : NatV w v x) (h0 : 0 < by_) (hb : by_ < B32) (hl : (dg B32 x).length ≤ 1099511627776) :
    Calls Tryz.prog 68 #[v, .int .u32 (by_ : Int)] w fun e w' => ∃ v, e = .returned (.tuple #[v, .int .u32 ((x % by_ : Nat) : Int)]) ∧ NatV w' v (x / by_) ∧ New w w' := by
  obtain ⟨u, rfl, A, c, rfl, hc, hmax, hr⟩ := h
  have hxs := dg_lt B32_2 x
  have hval := dg_val B32_2 x
  generalize dg B32 x = xs at *
  generalize hn : xs.length = n at *
  have hmk := make_u32 n (by omega)
  have hby : (by_ : Int) ≤ 4294967295 := by rw [B32_eq] at hb; omega
  have hby0 : 0 < (by_ : Int) := by omega
  have hw0 : IntKind.u64.wrap (by_ : Int) = (by_ : Int) := IntWalk.u64_in _ (by omega)
  go_enter Tryz.func68, Tryz.ntmps68
  go_wp2
  go_loopw [7, 8] (fun c7 i w' => ∃ k : Nat, k ≤ n ∧ i = .int .i64 ((k : Int) - 1) ∧ c7 = .int .u64 ((pt by_ (xs.drop k)).2 : Nat) ∧
    w' = ((w.alloc (.cells #[.slice A n c] 26)).alloc (.cells #[.slice none 0 0] 26)).alloc (.cells (ecells .u32 (List.replicate k 0 ++ (pt by_ (xs.drop k)).1)) 89)) (fun _ i _ => (intOf i + 1).toNat)
  case atStart => exact ⟨n, Nat.le_refl _, rfl, by rw [List.drop_of_length_le (by omega)]; rfl, by rw [List.drop_of_length_le (by omega)]; simp [pt]⟩
  case round =>
    obtain ⟨k, hk, rfl, rfl, rfl⟩ := hrel
    have hfa := pt_facts h0 hb (xs.drop k) (fun d hd => hxs d (List.mem_of_mem_drop hd))
    by_cases hlt : 0 < k
    · obtain ⟨b, o, C, fr, rfl, hbl, hcell⟩ := hr (k - 1) (by omega)
      have hstep := pt_drop (by_ := by_) hlt (by omega : k ≤ xs.length)
      have hx : xs.getD (k - 1) 0 < B32 := hxs _ (getD_mem (by omega))
      generalize hxk : xs.getD (k - 1) 0 = d at *
      generalize pt by_ (xs.drop k) = s at *
      obtain ⟨q, r⟩ := s
      obtain ⟨hql, -, hr0, -⟩ := hfa
      simp only at *
      have hr32 : r < B32 := by omega
      have hw1 : IntKind.u64.wrap ((r : Int) * 4294967296) = (r : Int) * 4294967296 := IntWalk.u64_in _ (by rw [B32_eq] at hr32; omega)
      have hw2 : IntKind.u64.wrap (d : Int) = (d : Int) := IntWalk.u64_in _ (by rw [B32_eq] at hx; omega)
      have hor := or_u64 hr32 hx
      obtain ⟨z, hz⟩ : ∃ z : Nat, z = r * B32 + d := ⟨_, rfl⟩
      rw [← hz] at hor hstep
      have hz64 : (z : Int) ≤ 18446744073709551615 := by rw [hz, B32_eq] at *; omega
      have hqz : z / by_ < B32 := by
        rw [Nat.div_lt_iff_lt_mul h0, hz]
        have : (r + 1) * B32 ≤ by_ * B32 := Nat.mul_le_mul_right _ hr0
        rw [Nat.add_mul, Nat.mul_comm by_] at this
        omega
      have hq : Int.tdiv (z : Int) (by_ : Int) = ((z / by_ : Nat) : Int) := by rw [Int.tdiv_eq_ediv_of_nonneg (by omega)]; exact (Int.natCast_ediv _ _).symm
      have hm : Int.tmod (z : Int) (by_ : Int) = ((z % by_ : Nat) : Int) := by rw [Int.tmod_eq_emod_of_nonneg (by omega)]; exact (Int.natCast_emod _ _).symm
      generalize z / by_ = qd at *
      generalize z % by_ = rd at *
      have hw3 : IntKind.u64.wrap ((qd : Nat) : Int) = ((qd : Nat) : Int) := IntWalk.u64_in _ (by rw [B32_eq] at hqz; omega)
      have hck : (ecells .u32 (List.replicate k 0 ++ q))[k - 1]? = some (.int .u32 0) := by
        rw [ecells_get _ (by simp; omega)]
        simp [List.getD_eq_getElem?_getD, List.getElem?_append, show k - 1 < k from by omega]
      have hset : (ecells .u32 (List.replicate k 0 ++ q)).setIfInBounds (k - 1) (.int .u32 ((qd : Int) % 4294967296)) = ecells .u32 (List.replicate (k - 1) 0 ++ (qd :: q)) := by
        rw [show (qd : Int) % 4294967296 = (qd : Int) from by rw [B32_eq] at hqz; omega, ecells_set]
        congr 1
        obtain ⟨j, rfl⟩ : ∃ j, k = j + 1 := ⟨k - 1, by omega⟩
        rw [Nat.add_sub_cancel, List.replicate_succ', List.append_assoc, List.set_append_right _ _ (by simp)]
        simp
      generalize ecells .u32 (List.replicate k 0 ++ q) = EC at *
      have hc3 := fun o1 o2 o3 => (((New.refl w).alloc o1).alloc o2).alloc o3 |>.still hcell
      have hi : ((k : Int) - 1).toNat = k - 1 := by omega
      have HS := Lib.hid hstep
      have HE := Lib.hid hset
      have HZ := Lib.hid hz
      have HQ := Lib.hid hqz
      have HV := Lib.hid hval
      have HX := Lib.hid hxk
      have HN := Lib.hid hn
      clear hr hmk hql hcell hstep hset hval hxk hn hbl hxs hz hqz
      go_wp2
      go_roundw
      case rel =>
        refine ⟨k - 1, by omega, by rw [show ((k - 1 : Nat) : Int) = (k : Int) - 1 from by omega], ?_, ?_⟩
        · rw [HS.out]
        · rw [HS.out, HE.out]
      case measure => simp [intOf]; omega
    · obtain rfl : k = 0 := by omega
      simp only [List.drop_zero] at hfa ⊢
      generalize pt by_ xs = s at *
      obtain ⟨q, r⟩ := s
      obtain ⟨hql, hqd, hr0, hv⟩ := hfa
      simp only [List.replicate_zero, List.nil_append] at *
      have hql' : q.length = n := by rw [hql]; exact hn
      have hq1 : x / by_ = val B32 q := by rw [← hval, ← hv, Nat.mul_comm, Nat.mul_add_div h0, Nat.div_eq_of_lt hr0, Nat.add_zero]
      have hq2 : x % by_ = r := by rw [← hval, ← hv, Nat.mul_comm, Nat.mul_add_mod, Nat.mod_eq_of_lt hr0]
      have hr5 : (r : Int) % 4294967296 = (r : Int) := by rw [B32_eq] at hb; omega
      have HQ2 := Lib.hid hq2
      have HN := Lib.hid hql'
      have HX := Lib.hid hq1
      have HL := Lib.hid hqd
      clear hr hmk hql hn hql' hv hval hxs hq1 hq2 hqd
      go_wp2_with fail
      have hbx := ((Box.last (w.alloc (.cells #[.slice A n c] 26)) #[.slice none 0 0] 26)).alloc (.cells (ecells .u32 q) 89)
      have hs := Sl.of_block (Box.last3 w (.cells #[.slice A n c] 26) (.cells #[.slice none 0 0] 26) (ecells .u32 q) 89) (by have := HN.out; simp [maxLen]; omega)
      rw [show q.length = n from HN.out] at hs
      refine (trimmed_c hs).mono ?_
      rintro e w1 ⟨v, rfl, h1, h2⟩
      obtain ⟨hb1, he1, he2⟩ := at_end (by simpa using hbx) ((((New.refl w).alloc _).alloc _).alloc _) (by omega) h2
      have hcx : w1.cell? ⟨w.heap.size + 1, 0, none⟩ = some (.slice none 0 0) := hb1.cell 0
      have hfx := hb1.frozen 0
      have HE2 := Lib.hid he2
      have hv := nat_of h1 HL.out HX.out.symm
      obtain ⟨A1, l1, c1, e1⟩ := hv.form
      obtain rfl : v = .slice A1 l1 c1 := by simpa using e1
      clear hs hbx h1 hb1 e1 he2
      go_wp2
      refine bodyPost_ret (v := .tuple #[.agg #[.slice A1 l1 c1], .int .u32 (r : Int)]) (by simp [results, Tryz.results68, go_sem, hcx]) rfl ⟨_, by rw [HQ2.out], HE2.out _ _ _ hv, he1 _⟩
end Go.Proofs.YtkjlmibleoecgaaGreatDoor
/- The reference of nat, part 1: trim, Parse. -/
namespace Go.Proofs.YtkjlmibleoecgaaGreatDoor
set_option linter.unusedSimpArgs false
set_option linter.unusedVariables false
open Go.RowKit

def B9 : Nat := 1000000000
theorem B9_eq : B9 = 1000000000 := rfl
theorem B9_2 : 2 ≤ B9 := by rw [B9_eq]; omega
/-- v is the reference's nat that is n. -/
def RefV (w : World) (v : Value) (n : Nat) : Prop := ∃ u, v = .agg #[u] ∧ Sl 3 .i64 w u (dg B9 n)
theorem RefV.form {w : World} {v : Value} {n : Nat} (h : RefV w v n) : ∃ A l c, v = .agg #[.slice A l c] := by
  obtain ⟨_, rfl, A, c, rfl, _⟩ := h; exact ⟨A, _, c, rfl⟩
theorem RefV.zero (w : World) : RefV w (.agg #[.slice none 0 0]) 0 :=
  ⟨_, rfl, none, 0, by rw [dg_zero]; rfl, by rw [dg_zero]; simp, Nat.zero_le _, fun i hi => by rw [dg_zero] at hi; cases hi⟩
theorem RefV.new {w w' : World} {v : Value} {n : Nat} (h : RefV w v n) (hb : New w w') : RefV w' v n := by
  obtain ⟨u, e, h⟩ := h; exact ⟨u, e, h.new hb⟩
theorem RefV.set {w : World} {v : Value} {n : Nat} (h : RefV w v n) {p i : Nat} {C : Array Value} {T : TypeId} (hp : Box w p C T) (ht : T ≠ 3) (u : Value) : RefV (w.setCell ⟨p, i, none⟩ u) v n := by
  obtain ⟨x, e, h⟩ := h; exact ⟨x, e, h.set hp ht u⟩
theorem RefV.of_sl {w : World} {u : Value} {xs : List Nat} (h : Sl 3 .i64 w u (trim xs)) (hd : ∀ d ∈ xs, d < B9) : RefV w (.agg #[u]) (val B9 xs) := ⟨u, rfl, by rw [dg_of B9_2 hd]; exact h⟩
abbrev encI : Nat → Value := fun x : Nat => Value.int .i64 (x : Int)
set_option maxHeartbeats 800000 in
theorem rtrim_c {xs : List Nat} {u : Value} {w : World} (h : Sl 3 .i64 w u xs) :
    Calls Tryz.prog 80 #[u] w fun e w' => ∃ v, e = .returned (.agg #[v]) ∧ Sl 3 .i64 w' v (trim xs) ∧ New w w' := by
  obtain ⟨A, c, rfl, hc, hm, hr⟩ := h
  have hm0 := hm
  unfold maxLen at hm
  have hfin : ∀ w', New w w' → Sl 3 .i64 w' (.slice A (trim xs).length c) (trim xs) := fun w' hb => by
    have hl := trim_le xs
    refine Sl.new ⟨A, c, rfl, by omega, hm0, fun i hi => ?_⟩ hb
    obtain ⟨b, o, C, fr, e, h1, h2⟩ := hr i (by omega)
    refine ⟨b, o, C, fr, e, h1, ?_⟩
    have e1 : (trim xs).getD i 0 = (xs.take (trim xs).length).getD i 0 := congrArg (fun l : List Nat => l.getD i 0) (trim_prefix xs)
    rw [e1, getD_take _ _ _ _ hi]; exact h2
  have HF := Lib.hid hfin
  clear hfin hm0
  go_enter Tryz.func80, Tryz.ntmps80
  go_wp2
  go_loopw [0] (fun v w' => ∃ m : Nat, v = .slice A m c ∧ m ≤ xs.length ∧ (trim (xs.take m) = trim xs) ∧ ∃ n, w' = (w.alloc (.cells #[.slice none 0 0] 29)).drewN n) (fun v _ => match v with | .slice _ m _ => m | _ => 0)
  case atStart => exact ⟨xs.length, rfl, Nat.le_refl _, by simp, 0, rfl⟩
  case round =>
    obtain ⟨m, rfl, hm1, ht, n, rfl⟩ := hrel
    have HT := Lib.hid ht
    clear ht
    by_cases h0 : 0 < m
    · obtain ⟨b, o, C, fr, rfl, hbl, hcell⟩ := hr (m - 1) (by omega)
      have hb := lt_of_block hbl
      clear hbl
      clear hr
      by_cases hz : xs.getD (m - 1) 0 = 0
      · have hcell' : w.cell? ⟨b, o + (m - 1), none⟩ = some (.int .i64 0) := by rw [hcell, hz]; rfl
        have HZ := Lib.hid hz
        clear hcell hz
        go_wp2
        go_roundw
        case rel => exact ⟨m - 1, rfl, by omega, by rw [trim_take_pred h0 hm1 HZ.out]; exact HT.out, _, rfl⟩
        case measure => simp; omega
      · have hz' : (((xs.getD (m - 1) 0 : Nat) : Int) == 0) = false := by rw [beq_eq_false_iff_ne]; omega
        have ht2 : trim xs = xs.take m := by rw [← HT.out, trim_take_id h0 hm1 hz]
        have hlen : (trim xs).length = m := by rw [ht2, List.length_take]; omega
        have hf : ∀ w', New w w' → Sl 3 .i64 w' (.slice (some ⟨b, o, none⟩) m c) (trim xs) := by
          have := HF.out; rw [hlen] at this; exact this
        have HL := Lib.hid hf
        clear hlen ht2 hf
        generalize hd : xs.getD (m - 1) 0 = d at hz hz' hcell
        have HD := Lib.hid hd
        clear hd hz
        go_wp2
        refine bodyPost_ret (v := .agg #[.slice (some ⟨b, o, none⟩) m c]) (by simp [results, Tryz.results80, go_sem]) rfl ⟨_, rfl, ?_, ?_⟩
        · exact HL.out _ ((((New.refl w).alloc _).drewN _).setCell (Nat.le_refl _) _)
        · exact (((New.refl w).alloc _).drewN _).setCell (Nat.le_refl _) _
    · obtain rfl : m = 0 := by omega
      have hlen : (trim xs).length = 0 := by rw [← HT.out]; rfl
      have hf : ∀ w', New w w' → Sl 3 .i64 w' (.slice A 0 c) (trim xs) := by
        have := HF.out; rw [hlen] at this; exact this
      have HL := Lib.hid hf
      clear hr hlen hf
      go_wp2
      refine bodyPost_ret (v := .agg #[.slice A 0 c]) (by simp [results, Tryz.results80, go_sem]) rfl ⟨_, rfl, ?_, ?_⟩
      · exact HL.out _ ((((New.refl w).alloc _).drewN _).setCell (Nat.le_refl _) _)
      · exact (((New.refl w).alloc _).drewN _).setCell (Nat.le_refl _) _

end Go.Proofs.YtkjlmibleoecgaaGreatDoor
/- What the reference's Text says, in plain words. -/
namespace Go.Proofs.YtkjlmibleoecgaaGreatDoor
open Go.RowKit
open Go.Lib (decDigits)
set_option linter.unusedVariables false
theorem dg_getD {b : Nat} (hb : 2 ≤ b) (i : Nat) : ∀ n, (dg b n).getD i 0 = n / b ^ i % b := by
  induction i with
  | zero =>
    intro n
    by_cases h : n = 0
    · subst h; rw [dg_zero]; simp
    · rw [dg_pos hb (by omega)]; simp
  | succ i ih =>
    intro n
    by_cases h : n = 0
    · subst h; rw [dg_zero]; simp
    · rw [dg_pos hb (by omega), List.getD_cons_succ, ih, Nat.div_div_eq_div_mul, Nat.pow_succ, Nat.mul_comm b]
theorem dg_above {b : Nat} (hb : 2 ≤ b) {n i : Nat} : i < (dg b n).length ↔ 0 < n / b ^ i := by
  have hp : 0 < b ^ i := Nat.pow_pos (by omega)
  rw [Nat.div_pos_iff]
  constructor
  · intro h
    refine ⟨hp, ?_⟩
    have hn : 0 < n := by
      rcases Nat.eq_zero_or_pos n with rfl | h0
      · rw [dg_zero] at h; cases h
      · exact h0
    exact Nat.le_trans (Nat.pow_le_pow_right (by omega) (by omega)) (pow_le_dg hb hn)
  · intro ⟨_, h⟩
    have h2 := dg_lt_pow hb n
    refine Nat.lt_of_not_le fun h3 => ?_
    have := Nat.pow_le_pow_right (n := b) (by omega) h3
    omega
/-- ds of N's digits are said; n is what is left of the limb, and takes e digits; M is above. -/
structure RT (N n j M : Nat) (ds : List Nat) : Prop where
  e : dg 10 N = ds ++ dg 10 (n + 10 ^ j * M)
  lt : n < 10 ^ j
theorem RT.step {N n e M : Nat} {ds : List Nat} (h : RT N n (e + 1) M ds) (hp : 0 < n ∨ 0 < M) : RT N (n / 10) e M (ds ++ [n % 10]) := by
  have h1 := h.lt
  have h10 : 0 < 10 ^ e := Nat.pow_pos (by omega)
  rw [Nat.pow_succ] at h1
  refine ⟨?_, by omega⟩
  rw [h.e]
  have e1 : 10 ^ (e + 1) * M = 10 * (10 ^ e * M) := by rw [Nat.pow_succ]; simp only [Nat.mul_assoc, Nat.mul_left_comm]
  have e2 : 0 < M → 0 < 10 ^ e * M := fun h => Nat.mul_pos h10 h
  rw [e1]
  generalize 10 ^ e * M = X at *
  rw [dg_pos (by omega) (by omega), show (n + 10 * X) % 10 = n % 10 by omega, show (n + 10 * X) / 10 = n / 10 + X by omega]
  simp
theorem RT.done {N n e M : Nat} {ds : List Nat} (h : RT N n e M ds) (hp : e = 0 ∨ n = 0 ∧ M = 0) : dg 10 N = ds ++ dg 10 M := by
  rw [h.e]
  rcases hp with rfl | ⟨rfl, rfl⟩
  · have := h.lt
    obtain rfl : n = 0 := by omega
    simp
  · simp
theorem RT.start {N i : Nat} {ds : List Nat} (h : dg 10 N = ds ++ dg 10 (N / B9 ^ i)) : RT N ((dg B9 N).getD i 0) 9 (N / B9 ^ (i + 1)) ds := by
  have e : N / B9 ^ (i + 1) = N / B9 ^ i / B9 := by rw [Nat.div_div_eq_div_mul, Nat.pow_succ]
  rw [dg_getD B9_2, e]
  refine ⟨?_, ?_⟩
  · rw [h]
    congr 2
    rw [show (10 : Nat) ^ 9 = B9 from rfl]
    have := Nat.mod_add_div (N / B9 ^ i) B9
    omega
  · exact Nat.mod_lt _ (by rw [B9_eq]; omega)
/-- A digit's byte. -/
def dgt (d : Nat) : UInt8 := UInt8.ofNat (48 + d)
theorem dec_dg {N : Nat} (h : 0 < N) : decDigits N = (dg 10 N).reverse.map dgt := by
  induction N using Nat.strongRecOn with
  | _ N ih =>
    by_cases h1 : N < 10
    · rw [dec_small h1, dg_pos (by omega) h, show N / 10 = 0 by omega, dg_zero, show N % 10 = N by omega]; rfl
    · rw [dec_big h1, ih _ (by omega) (by omega), dg_pos (b := 10) (by omega) h]
      simp [dgt]
theorem RT.len {N n e M : Nat} {ds : List Nat} (h : RT N n e M ds) : ds.length ≤ (dg 10 N).length := by rw [h.e]; simp
end Go.Proofs.YtkjlmibleoecgaaGreatDoor
/- The program's nat, part 3: Cmp. -/
namespace Go.Proofs.YtkjlmibleoecgaaGreatDoor
open Go.RowKit

/-- The order of two numbers, as -1, 0, 1. -/
def cmpN (x y : Nat) : Int := if x < y then -1 else if y < x then 1 else 0

theorem cmp_len {x y : Nat} (h : (dg B32 x).length < (dg B32 y).length) : x < y := by
  have h1 := dg_lt_pow B32_2 x
  have hy : 0 < y := by
    rcases Nat.eq_zero_or_pos y with rfl | h0
    · rw [dg_zero] at h; simp at h
    · exact h0
  have h2 := pow_le_dg B32_2 hy
  have h3 : B32 ^ (dg B32 x).length ≤ B32 ^ ((dg B32 y).length - 1) := Nat.pow_le_pow_right (by rw [B32_eq]; omega) (by omega)
  omega
theorem val_split {b : Nat} {xs : List Nat} {k : Nat} (h0 : 0 < k) (hk : k ≤ xs.length) : val b xs = val b (xs.take (k - 1)) + b ^ (k - 1) * (xs.getD (k - 1) 0 + b * val b (xs.drop k)) := by
  have e : xs = xs.take (k - 1) ++ xs.getD (k - 1) 0 :: xs.drop k := by
    rw [getD_lt (by omega)]
    have := List.take_append_drop (k - 1) xs
    rw [List.drop_eq_getElem_cons (by omega), show k - 1 + 1 = k from by omega] at this
    exact this.symm
  conv => lhs; rw [e]
  rw [val_append, List.length_take, Nat.min_eq_left (by omega)]; rfl
theorem cmp_digit {xs ys : List Nat} {k : Nat} (h0 : 0 < k) (hx : k ≤ xs.length) (hy : k ≤ ys.length) (hdx : ∀ d ∈ xs, d < B32) (he : xs.drop k = ys.drop k) (h : xs.getD (k - 1) 0 < ys.getD (k - 1) 0) : val B32 xs < val B32 ys := by
  rw [val_split h0 hx, val_split h0 hy, he]
  have h1 := val_lt (b := B32) (xs := xs.take (k - 1)) (by rw [B32_eq]; omega) (fun d hd => hdx d (List.mem_of_mem_take hd))
  rw [List.length_take, Nat.min_eq_left (by omega)] at h1
  have h2 : B32 ^ (k - 1) * (xs.getD (k - 1) 0 + B32 * val B32 (ys.drop k) + 1) ≤ B32 ^ (k - 1) * (ys.getD (k - 1) 0 + B32 * val B32 (ys.drop k)) := Nat.mul_le_mul_left _ (by omega)
  rw [Nat.mul_add _ _ 1] at h2
  omega

set_option maxHeartbeats 1000000 in
theorem cmp_c {x y : Nat} {u v : Value} {w : World} (hx : NatV w u x) (hy : NatV w v y) (hl : (dg B32 x).length ≤ 1099511627776) (hl2 : (dg B32 y).length ≤ 1099511627776) :
    Calls Tryz.prog 20 #[u, v] w fun e w' => e = .returned (.int .i64 (cmpN x y)) ∧ New w w' := by
  have hlt1 := cmp_len (x := x) (y := y)
  have hlt2 := cmp_len (x := y) (y := x)
  obtain ⟨_, rfl, A, c, rfl, hc, hmax, hr⟩ := hx
  obtain ⟨_, rfl, A', c', rfl, hc', hmax', hr'⟩ := hy
  have hxs := dg_lt B32_2 x
  have hval := dg_val B32_2 x
  have hxs' := dg_lt B32_2 y
  have hval' := dg_val B32_2 y
  generalize dg B32 x = xs at *
  generalize dg B32 y = ys at *
  generalize hn : xs.length = n at *
  generalize hm : ys.length = m at *
  by_cases h1 : n < m
  · have hx := hlt1 h1
    have hr0 : cmpN x y = -1 := by unfold cmpN; rw [if_pos hx]
    rw [hr0]
    clear hr hr' hval hval' hr0 hn hm
    go_enter Tryz.func20, Tryz.ntmps20
    go_wp2
    go_ret
    exact ⟨rfl, ((New.refl w).alloc _).alloc _⟩
  · by_cases h2 : m < n
    · have hy := hlt2 h2
      have hr0 : cmpN x y = 1 := by unfold cmpN; rw [if_neg (by omega), if_pos hy]
      rw [hr0]
      clear hr hr' hval hval' hr0 hn hm
      go_enter Tryz.func20, Tryz.ntmps20
      go_wp2
      go_ret
      exact ⟨rfl, ((New.refl w).alloc _).alloc _⟩
    · obtain rfl : m = n := by omega
      clear h1 h2 hlt1 hlt2
      have HV := Lib.hid hval
      have HV' := Lib.hid hval'
      have HN := Lib.hid hn
      have HM := Lib.hid hm
      clear hval hval' hn hm
      go_enter Tryz.func20, Tryz.ntmps20
      go_wp2
      go_loopw [5] (fun i w' => ∃ k : Nat, k ≤ m ∧ i = .int .i64 ((k : Int) - 1) ∧ Hid (xs.drop k = ys.drop k) ∧
        ∃ q, w' = ((w.alloc (.cells #[.slice A m c] 26)).alloc (.cells #[.slice A' m c'] 26)).drewN q) (fun i _ => (intOf i + 1).toNat)
      case atStart => exact ⟨m, Nat.le_refl _, rfl, by rw [List.drop_of_length_le (by have := HN.out; omega), List.drop_of_length_le (by have := HM.out; omega)]; exact rfl, 0, rfl⟩
      case round =>
        obtain ⟨k, hk, rfl, HE, q, rfl⟩ := hrel
        by_cases hlt : 0 < k
        · obtain ⟨b, o, C, fr, rfl, hbl, hcell⟩ := hr (k - 1) (by omega)
          obtain ⟨b', o', C', fr', rfl, hbl', hcell'⟩ := hr' (k - 1) (by omega)
          have hcl := cmp_digit (xs := xs) (ys := ys) hlt (by have := HN.out; omega) (by have := HM.out; omega) hxs HE.out
          have hcg := cmp_digit (xs := ys) (ys := xs) hlt (by have := HM.out; omega) (by have := HN.out; omega) hxs' HE.out.symm
          have hce : xs.getD (k - 1) 0 = ys.getD (k - 1) 0 → xs.drop (k - 1) = ys.drop (k - 1) := fun h => by
            have h1 := HN.out
            have h2 := HM.out
            rw [getD_lt (by omega), getD_lt (by omega)] at h
            rw [List.drop_eq_getElem_cons (by omega : k - 1 < xs.length), List.drop_eq_getElem_cons (by omega : k - 1 < ys.length), h, show k - 1 + 1 = k from by omega, HE.out]
          generalize xs.getD (k - 1) 0 = d at *
          generalize ys.getD (k - 1) 0 = e at *
          have hi : ((k : Int) - 1).toNat = k - 1 := by omega
          have hc3 := fun o1 o2 => ((New.refl w).alloc o1).alloc o2 |>.still hcell
          have hc4 := fun o1 o2 => ((New.refl w).alloc o1).alloc o2 |>.still hcell'
          clear hr hr' hcell hcell' hbl hbl' hxs hxs'
          rcases Nat.lt_trichotomy d e with h | h | h
          · have hne : ((d : Int) != (e : Int)) = true := by rw [bne_iff_ne]; omega
            have hlt3 : decide ((d : Int) < (e : Int)) = true := by simp; omega
            have hr0 : cmpN x y = -1 := by unfold cmpN; rw [if_pos]; rw [← HV.out, ← HV'.out]; exact hcl h
            have HR := Lib.hid hr0
            clear hcl hcg hce hr0
            go_wp2
            go_quiet (fail)
            go_wp2
            go_quiet (fail)
            go_wp2
            go_ret
            exact ⟨ret_i64 HR.out.symm, by repeat (first | exact New.refl _ | apply New.drewN | apply New.drew | apply New.alloc)⟩
          · have hne : ((d : Int) != (e : Int)) = false := by simp; omega
            have HC := Lib.hid (hce h)
            clear hcl hcg hce h
            go_wp2
            go_quiet (fail)
            go_wp2
            go_roundw
            case rel => exact ⟨k - 1, by omega, by rw [show ((k - 1 : Nat) : Int) = (k : Int) - 1 from by omega], HC, _, rfl⟩
            case measure => simp [intOf]; omega
          · have hne : ((d : Int) != (e : Int)) = true := by rw [bne_iff_ne]; omega
            have hlt3 : decide ((d : Int) < (e : Int)) = false := by simp; omega
            have hr0 : cmpN x y = 1 := by
              have := hcg h
              rw [HV.out, HV'.out] at this
              unfold cmpN; rw [if_neg (by omega), if_pos this]
            have HR := Lib.hid hr0
            clear hcl hcg hce hr0
            go_wp2
            go_quiet (fail)
            go_wp2
            go_quiet (fail)
            go_wp2
            go_ret
            exact ⟨ret_i64 HR.out.symm, by repeat (first | exact New.refl _ | apply New.drewN | apply New.drew | apply New.alloc)⟩
        · obtain rfl : k = 0 := by omega
          have hxy : x = y := by
            have := HE.out
            rw [List.drop_zero, List.drop_zero] at this
            rw [← HV.out, ← HV'.out, this]
          have hr0 : cmpN x y = 0 := by unfold cmpN; rw [if_neg (by omega), if_neg (by omega)]
          have HR := Lib.hid hr0
          clear hr hr' hxy hr0 hxs hxs'
          go_wp2
          go_ret
          exact ⟨ret_i64 HR.out.symm, by repeat (first | exact New.refl _ | apply New.drewN | apply New.drew | apply New.alloc)⟩
end Go.Proofs.YtkjlmibleoecgaaGreatDoor
/- The program's nat, part 4: Sub32, Clone, Sub. -/
namespace Go.Proofs.YtkjlmibleoecgaaGreatDoor
open Go.RowKit

theorem bit31 {n : Nat} (h : n < 4294967296) : n / 2147483648 = if n.testBit 31 then 1 else 0 := by
  rw [Nat.testBit_eq_decide_div_mod_eq]
  rw [show (2 : Nat) ^ 31 = 2147483648 from rfl]
  by_cases h1 : n / 2147483648 % 2 = 1
  · simp [h1]; omega
  · simp [h1]; omega
theorem bit31_le {n : Nat} (h : n < 4294967296) : n.testBit 31 = decide (2147483648 ≤ n) := by
  rw [Nat.testBit_eq_decide_div_mod_eq]
  rw [show (2 : Nat) ^ 31 = 2147483648 from rfl, decide_eq_decide]; omega
def borrow (x y b : Nat) : Nat := if x < y + b then 1 else 0
theorem borrow_bit {x y b d : Nat} (hx : x < 4294967296) (hy : y < 4294967296) (hb : b ≤ 1) (hd : (d : Int) = ((x : Int) - y - b) % 4294967296) :
    Go.bits .or .u32 (Go.bits .and .u32 (Go.bits .xor .u32 4294967295 (x : Int)) (y : Int)) (Go.bits .and .u32 (Go.bits .xor .u32 4294967295 (Go.bits .xor .u32 (x : Int) (y : Int))) (d : Int)) / 2147483648 = ((borrow x y b : Nat) : Int) := by
  unfold borrow
  have hd32 : d < 4294967296 := by omega
  have h1 : (4294967295 : Int) = ((4294967295 : Nat) : Int) := rfl
  have x1 := Nat.xor_lt_two_pow (n := 32) (x := 4294967295) (y := x) (by omega) (by omega)
  have x2 := Nat.xor_lt_two_pow (n := 32) (x := x) (y := y) (by omega) (by omega)
  have x3 := Nat.xor_lt_two_pow (n := 32) (x := 4294967295) (y := x ^^^ y) (by omega) x2
  have x4 := Nat.and_lt_two_pow (n := 32) (4294967295 ^^^ x) (y := y) (by omega)
  have x5 := Nat.and_lt_two_pow (n := 32) (4294967295 ^^^ (x ^^^ y)) (y := d) (by omega)
  have x6 := Nat.or_lt_two_pow (n := 32) x4 x5
  simp only [show (2 : Nat) ^ 32 = 4294967296 from rfl] at x1 x2 x3 x4 x5 x6
  rw [h1, u32_xor_nat _ _ (by omega) (by omega), u32_and_nat _ _ (by omega) (by omega), u32_xor_nat _ _ (by omega) (by omega), u32_xor_nat _ _ (by omega) (by omega), u32_and_nat _ _ (by omega) (by omega), u32_or_nat _ _ (by omega) (by omega)]
  have e : ∀ z : Nat, ((z : Nat) : Int) / 2147483648 = ((z / 2147483648 : Nat) : Int) := fun z => by omega
  rw [e, bit31 x6]
  simp only [Nat.testBit_or, Nat.testBit_and, Nat.testBit_xor, bit31_le hx, bit31_le hy, bit31_le hd32, show (4294967295 : Nat).testBit 31 = true from by decide]
  clear e x1 x2 x3 x4 x5 x6 h1
  by_cases g : x < y + b <;> by_cases a : 2147483648 ≤ x <;> by_cases c : 2147483648 ≤ y <;> by_cases f : 2147483648 ≤ d <;> simp [g, a, c, f] <;> omega

set_option maxHeartbeats 800000 in
theorem sub32_c {x y b : Nat} (hx : x < B32) (hy : y < B32) (hb : b ≤ 1) (w : World) :
    Calls Tryz.prog 72 #[.int .u32 (x : Int), .int .u32 (y : Int), .int .u32 (b : Int)] w fun e w' => ∃ d : Nat, d < B32 ∧ d + y + b = x + B32 * borrow x y b ∧ e = .returned (.tuple #[.int .u32 (d : Int), .int .u32 ((borrow x y b : Nat) : Int)]) ∧ w = w' := by
  rw [B32_eq] at *
  obtain ⟨d, hd⟩ : ∃ d : Nat, (d : Int) = ((x : Int) - y - b) % 4294967296 := ⟨(((x : Int) - y - b) % 4294967296).toNat, by omega⟩
  have hbb := borrow_bit hx hy hb hd
  have hd1 : (((x : Int) - (y : Int)) % 4294967296 - (b : Int)) % 4294967296 = (d : Int) := by omega
  have hsum : d < 4294967296 ∧ d + y + b = x + 4294967296 * borrow x y b := by unfold borrow; split <;> omega
  have hmx : IntKind.u32.max = 4294967295 := rfl
  have HS := Lib.hid hsum
  clear hd hsum
  go_enter Tryz.func72, Tryz.ntmps72
  go_wp2
  go_ret2
  exact ⟨d, HS.out.1, HS.out.2, rfl, rfl⟩

theorem Box.set {w : World} {g : Nat} {C : Array Value} {t : TypeId} (h : Box w g C t) (i : Nat) (v : Value) : Box (w.setCell ⟨g, i, none⟩ v) g (C.setIfInBounds i v) t := by
  unfold Box at *
  have hl := lt_of_block h
  simp [World.setCell, Array.getElem?_modify, h]
/-- A row of the call's own: its block, its room. -/
def Row (w : World) (g cap n : Nat) (E : TypeId) (k : IntKind) (xs : List Nat) : Prop :=
  ∃ C, Box w g C E ∧ n ≤ cap ∧ cap ≤ maxLen ∧ C.size = cap ∧ xs.length = n ∧ C.toList.take n = (ecells k xs).toList
theorem Row.cell {w : World} {g cap n : Nat} {E : TypeId} {k : IntKind} {xs : List Nat} (h : Row w g cap n E k xs) {i : Nat} (hi : i < n) : w.cell? ⟨g, i, none⟩ = some (.int k (xs.getD i 0 : Nat)) := by
  obtain ⟨C, hb, h1, h2, h3, h4, h5⟩ := h
  rw [hb.cell]
  have h6 : (C.toList.take n)[i]? = (ecells k xs).toList[i]? := by rw [h5]
  rw [List.getElem?_take_of_lt hi, Array.getElem?_toList, Array.getElem?_toList, ecells_get k (by omega)] at h6
  exact h6
theorem Row.frozen {w : World} {g cap n : Nat} {E : TypeId} {k : IntKind} {xs : List Nat} (h : Row w g cap n E k xs) (i : Nat) : w.frozen? ⟨g, i, none⟩ = false := by
  obtain ⟨C, hb, _⟩ := h; exact hb.frozen i
theorem Row.set {w : World} {g cap n : Nat} {E : TypeId} {k : IntKind} {xs : List Nat} (h : Row w g cap n E k xs) (i x : Nat) : Row (w.setCell ⟨g, i, none⟩ (.int k (x : Int))) g cap n E k (xs.set i x) := by
  obtain ⟨C, hb, h1, h2, h3, h4, h5⟩ := h
  refine ⟨_, hb.set i _, h1, h2, by simpa using h3, by simpa using h4, ?_⟩
  rw [Array.toList_setIfInBounds, List.take_set, h5, ← ecells_set, Array.toList_setIfInBounds]
theorem Row.sl {w : World} {g cap n : Nat} {E : TypeId} {k : IntKind} {xs : List Nat} (h : Row w g cap n E k xs) : Sl E k w (.slice (some ⟨g, 0, none⟩) n cap) xs := by
  have h' := h
  obtain ⟨C, hb, h1, h2, h3, h4, h5⟩ := h
  subst h4
  exact ⟨_, _, rfl, h1, h2, fun i hi => ⟨g, 0, C, (0, 0), rfl, hb, by rw [Nat.zero_add]; exact h'.cell hi⟩⟩
theorem Row.far {w : World} {g cap n : Nat} {E : TypeId} {k : IntKind} {xs : List Nat} (h : Row w g cap n E k xs) {p i : Nat} (hp : g ≠ p) (u : Value) : Row (w.setCell ⟨p, i, none⟩ u) g cap n E k xs := by
  obtain ⟨C, hb, r⟩ := h; exact ⟨C, hb.far hp u, r⟩
theorem Row.new {w w' : World} (hn : New w w') {g cap n : Nat} {E : TypeId} {k : IntKind} {xs : List Nat} (h : Row w g cap n E k xs) : Row w' g cap n E k xs := by
  obtain ⟨C, hb, r⟩ := h; exact ⟨C, hb.new hn, r⟩
end Go.Proofs.YtkjlmibleoecgaaGreatDoor
/- The program's nat, part 5: Clone, Sub. -/
namespace Go.Proofs.YtkjlmibleoecgaaGreatDoor
open Go.RowKit

theorem Row.of_owns {w : World} {base : Nat} {E : TypeId} {k : IntKind} {v : Value} {xs : List Nat} (h : w.ownsRow base E 1 v xs.length (ecells k xs).toList) : (xs = [] ∧ v = .slice none 0 0) ∨ ∃ g cap, v = .slice (some ⟨g, 0, none⟩) xs.length cap ∧ base ≤ g ∧ Row w g cap xs.length E k xs := by
  obtain ⟨h1, h2 | ⟨g, cap, cur, rfl, hg, hb, hn, hc, hs, ht⟩⟩ := h
  · exact .inl ⟨List.length_eq_zero_iff.1 h2.2, h2.1⟩
  · exact .inr ⟨g, cap, rfl, hg, cur, hb, hn, hc, by omega, rfl, by rw [Nat.mul_one] at ht; exact ht⟩
/-- What Clone leaves: no element, or a row of the call's own. -/
def Cloned (w w' : World) (E : TypeId) (v : Value) (xs : List Nat) : Prop :=
  (xs = [] ∧ ∃ A c, c ≤ maxLen ∧ v = .slice A 0 c) ∨ ∃ g cap, v = .slice (some ⟨g, 0, none⟩) xs.length cap ∧ w.heap.size ≤ g ∧ Row w' g cap xs.length E .u32 xs

set_option maxHeartbeats 800000 in
theorem clone_c {xs : List Nat} {v : Value} {w : World} (h : Sl 89 .u32 w v xs) (hl : xs.length ≤ 1099511627776) :
    Calls Tryz.prog 115 #[v] w fun e w' => ∃ v', e = .returned v' ∧ New w w' ∧ Cloned w w' 89 v' xs := by
  obtain ⟨A, c, rfl, hc, hm, hr⟩ := h
  obtain ⟨i0, hi, hz0⟩ := Option.map_eq_some_iff.1 info_u32
  simp only [Prod.mk.injEq] at hz0
  obtain ⟨hz0, hz1, hz2⟩ := hz0
  cases A with
  | none =>
    have h0 : xs = [] := by
      cases xs with
      | nil => rfl
      | cons a r => obtain ⟨_, _, _, _, h, _⟩ := hr 0 (by simp); cases h
    subst h0
    have HM := Lib.hid hm
    clear hr hm
    have hq := Lib.run_eql_slice_nil (P := Tryz.prog)
    go_enter Tryz.func115, Tryz.ntmps115
    go_wp2
    go_ret
    exact ⟨_, rfl, New.refl w, .inl ⟨rfl, none, 0, Nat.zero_le _, rfl⟩⟩
  | some ad =>
    have hnews : ∀ o1 (j : Nat) (u : Value), (ecells .u32 xs).toList[j]? = some u → (w.alloc o1).cell? (ad.add j) = some u := fun o1 j u hj => by
      rw [Array.getElem?_toList] at hj
      by_cases hlt : j < xs.length
      · rw [ecells_get _ hlt] at hj
        obtain ⟨b, o, C, fr, e, hb, hcell⟩ := hr j hlt
        obtain rfl : ad = ⟨b, o, none⟩ := Option.some.inj e
        rw [← hj]
        have := ((New.refl w).alloc o1).still hcell
        rcases Nat.eq_zero_or_pos j with rfl | hj0
        · exact this
        · simpa [Addr.add, Nat.ne_of_gt hj0] using this
      · rw [Array.getElem?_eq_none (by rw [ecells_size]; omega)] at hj; cases hj
    have hown : (w.alloc (.cells #[] 89)).ownsRow w.heap.size 89 1 (.slice (some ⟨w.heap.size, 0, none⟩) 0 0) 0 [] :=
      ⟨rfl, .inr ⟨w.heap.size, 0, #[], rfl, Nat.le_refl _, heap_new w _, Nat.le_refl _, Nat.zero_le _, rfl, rfl⟩⟩
    have h1 : ∀ u ∈ (ecells .u32 xs).toList, u.oneCell' = true := fun u hu => by
      simp [ecells] at hu; obtain ⟨a, _, rfl⟩ := hu; rfl
    have hll : (ecells .u32 xs).toList.length = xs.length * 1 := by simp [ecells]
    have hq := Lib.run_eql_slice_nil (P := Tryz.prog)
    have hb1 : (0 + xs.length) ≤ maxLen := by simp [maxLen]; omega
    have hb2 : (0 + xs.length) * 4 ≤ 140737488355328 := by omega
    generalize hN : (ecells .u32 xs).toList = NS at *
    generalize hn : xs.length = n at *
    have HN := Lib.hid hN
    have HL := Lib.hid hn
    clear hr hN hn
    go_enter Tryz.func115, Tryz.ntmps115
    go_wp2_with (at_builtin; refine wpList_append_own _ rfl _ _ 24 rfl w.heap.size 89 i0 (.int .u32 0) 1 4 Tryz.underlying24 hi hz0 hz1 hz2 rfl (by decide) _ _ _ rfl hown ad n c NS rfl hll (hnews _) h1 hb1 hb2 (by simp) ?_)
    intro v1 w1 hown1 hg hnn
    have hne : New w w1 := Below.grown ((New.refl w).alloc _) hg (by simp) (fun k hk => by simp [Value.ownBlock] at hk; omega)
    have HG := Lib.hid hown1
    clear hown1 hg hnn hnews h1 hll hown hq
    go_wp2
    go_ret
    refine ⟨_, rfl, hne, ?_⟩
    have h2 := HG.out
    rw [← HN.out, ← HL.out] at h2
    show Cloned w w1 89 v1 xs
    rcases Row.of_owns h2 with ⟨h3, h4⟩ | ⟨g, cap, h3, h4, h5⟩
    · exact .inl ⟨h3, none, 0, Nat.zero_le _, h4⟩
    · exact .inr ⟨g, cap, h3, h4, h5⟩
theorem val_take_succ (b : Nat) (xs : List Nat) (k : Nat) : val b (xs.take (k + 1)) = val b (xs.take k) + b ^ k * xs.getD k 0 := by
  by_cases h : k < xs.length
  · rw [take_succ_getD 0 h, val_snoc, List.length_take, Nat.min_eq_left (by omega)]
  · rw [List.take_of_length_le (by omega), List.take_of_length_le (by omega), List.getD_eq_getElem?_getD, List.getElem?_eq_none (by omega)]; simp
theorem val_take_set (b : Nat) (xs : List Nat) (k z : Nat) (h : k < xs.length) : val b ((xs.set k z).take (k + 1)) = val b (xs.take k) + b ^ k * z := by
  rw [val_take_succ, List.take_set_of_le (by omega)]
  congr 2
  simp [List.getD_eq_getElem?_getD, h]
/-- What holds in Sub's loop. -/
structure SubInv (xs ys : List Nat) (k b : Nat) (L : List Nat) : Prop where
  len : L.length = xs.length
  lt : ∀ d ∈ L, d < B32
  rest : ∀ j, k ≤ j → L.getD j 0 = xs.getD j 0
  sum : val B32 (L.take k) + val B32 (ys.take k) = val B32 (xs.take k) + B32 ^ k * b
theorem SubInv.step {xs ys : List Nat} {k b d : Nat} {L : List Nat} (h : SubInv xs ys k b L) (hk : k < xs.length) (hd : d < B32) (he : d + ys.getD k 0 + b = xs.getD k 0 + B32 * borrow (xs.getD k 0) (ys.getD k 0) b) :
    SubInv xs ys (k + 1) (borrow (xs.getD k 0) (ys.getD k 0) b) (L.set k d) := by
  refine ⟨by simp [h.len], ?_, ?_, ?_⟩
  · intro e hm
    rcases List.mem_or_eq_of_mem_set hm with hm | rfl
    · exact h.lt e hm
    · exact hd
  · intro j hj
    have := h.rest j (by omega)
    rw [← this]
    simp [List.getD_eq_getElem?_getD, List.getElem?_set_ne (show k ≠ j by omega)]
  · rw [val_take_set _ _ _ _ (by rw [h.len]; exact hk), val_take_succ _ ys, val_take_succ _ xs, Nat.pow_succ]
    have h1 := h.sum
    generalize borrow (xs.getD k 0) (ys.getD k 0) b = b' at *
    have e1 : B32 ^ k * (d + ys.getD k 0 + b) = B32 ^ k * (xs.getD k 0 + B32 * b') := by rw [he]
    simp only [Nat.mul_add, ← Nat.mul_assoc] at e1
    omega
theorem SubInv.done {xs ys : List Nat} {b : Nat} {L : List Nat} (h : SubInv xs ys xs.length b L) (hm : ys.length ≤ xs.length) (hle : val B32 ys ≤ val B32 xs) : val B32 L = val B32 xs - val B32 ys := by
  have h1 := h.sum
  rw [List.take_of_length_le (by rw [h.len]; omega), List.take_of_length_le hm, List.take_of_length_le (by omega)] at h1
  have h2 := val_lt (b := B32) (by rw [B32_eq]; omega) h.lt
  rw [h.len] at h2
  cases b with
  | zero => omega
  | succ b => rw [Nat.mul_succ] at h1; have : 0 ≤ B32 ^ xs.length * b := Nat.zero_le _; omega
def subE (x y : Nat) : Int := if x < y then 11 else 0
theorem borrow_le (x y b : Nat) : borrow x y b ≤ 1 := by unfold borrow; split <;> omega
theorem dg_len_le {x y : Nat} (h : x ≤ y) : (dg B32 x).length ≤ (dg B32 y).length := dg_len_mono B32_2 h

set_option maxHeartbeats 2000000 in
theorem sub_c {x y : Nat} {u v : Value} {w : World} (hx : NatV w u x) (hy : NatV w v y) (hl : (dg B32 x).length ≤ 1099511627776) (hl2 : (dg B32 y).length ≤ 1099511627776) :
    Calls Tryz.prog 93 #[u, v] w fun e w' => ∃ v, e = .returned (.tuple #[v, .int .i64 (subE x y)]) ∧ NatV w' v (x - y) ∧ New w w' := by
  have hx0 := hx
  have hy0 := hy
  obtain ⟨_, rfl, A, c, rfl, hc, hmax, hr⟩ := hx
  obtain ⟨_, rfl, A', c', rfl, hc', hmax', hr'⟩ := hy
  have hb0 := ((Box.last w #[.slice A (dg B32 x).length c] 26).alloc (.cells #[.slice A' (dg B32 y).length c'] 26)).alloc (.cells #[.slice none 0 0] 26)
  have hb1 := (Box.last2 w (.cells #[.slice A (dg B32 x).length c] 26) #[.slice A' (dg B32 y).length c'] 26).alloc (.cells #[.slice none 0 0] 26)
  have hb2 := Box.last3 w (.cells #[.slice A (dg B32 x).length c] 26) (.cells #[.slice A' (dg B32 y).length c'] 26) #[.slice none 0 0] 26
  have hn3 := fun o1 o2 o3 => ((New.refl w).alloc o1).alloc o2 |>.alloc o3
  have HL := Lib.hid hl
  have HL2 := Lib.hid hl2
  have HM := Lib.hid hmax
  have HM' := Lib.hid hmax'
  have HR := Lib.hid hr
  have HR' := Lib.hid hr'
  have HB0 := Lib.hid hb0
  have HB1 := Lib.hid hb1
  have HB2 := Lib.hid hb2
  have HN3 := Lib.hid hn3
  clear hl hl2 hmax hmax' hr hr' hb0 hb1 hb2 hn3
  go_enter Tryz.func93, Tryz.ntmps93
  go_wp2_with fail
  refine (cmp_c (hx0.new (HN3.out _ _ _)) (hy0.new (HN3.out _ _ _)) HL.out HL2.out).mono ?_
  rintro e w1 ⟨rfl, hn1⟩
  have hb0 := HB0.out.new hn1
  have hb1 := HB1.out.new hn1
  have hb2 := HB2.out.new hn1
  have hnw := (HN3.out _ _ _).trans hn1
  by_cases hlt : x < y
  · have hcm : cmpN x y = -1 := by unfold cmpN; rw [if_pos hlt]
    have hdec : decide (cmpN x y < 0) = true := by rw [hcm]; rfl
    have hc2 : w1.cell? ⟨w.heap.size + 1 + 1, 0, none⟩ = some (.slice none 0 0) := hb2.cell 0
    have hf2 := hb2.frozen 0
    have hE : subE x y = 11 := by unfold subE; rw [if_pos hlt]
    have hz : x - y = 0 := by omega
    have HE := Lib.hid hE
    have HZ := Lib.hid hz
    have H2 := Lib.hid hb2
    clear hcm hb0 hb1 hb2 hE hz hlt
    go_wp2
    refine bodyPost_ret (v := .tuple #[.agg #[.slice none 0 0], .int .i64 11]) (by simp [results, Tryz.results93, go_sem, hc2]) rfl ⟨_, by rw [HE.out], ?_, hnw.setCell (by simp; omega) _⟩
    rw [HZ.out]
    exact ⟨_, rfl, none, 0, by rw [dg_zero]; rfl, by rw [dg_zero]; simp, Nat.zero_le _, fun i hi => by rw [dg_zero] at hi; cases hi⟩
  · have hdec : decide (cmpN x y < 0) = false := by unfold cmpN; rw [if_neg hlt]; split <;> rfl
    have hc0 : w1.cell? ⟨w.heap.size, 0, none⟩ = some (.slice A (dg B32 x).length c) := hb0.cell 0
    have hE : subE x y = 0 := by unfold subE; rw [if_neg hlt]
    have HE := Lib.hid hE
    have HD := Lib.hid hdec
    have HC := Lib.hid hc0
    clear hE
    have hsl := NatV.sl (hx0.new hnw)
    go_wp2_with fail
    refine (clone_c hsl HL.out).mono ?_
    rintro e w2 ⟨v', rfl, hn2, hcl⟩
    clear hsl
    have hval := dg_val B32_2 x
    have hval' := dg_val B32_2 y
    have hlen := dg_len_le (Nat.le_of_not_lt hlt)
    have hxs := dg_lt B32_2 x
    have hys := dg_lt B32_2 y
    rcases hcl with ⟨h0, A2, c2, hc2, rfl⟩ | ⟨g, cap, rfl, hg, hrow⟩
    · have hx00 : x = 0 := (dg_nil B32_2).1 h0
      have hs2 : Sl 89 .u32 w2 (.slice A2 0 c2) [] := ⟨A2, c2, rfl, Nat.zero_le _, hc2, fun i hi => by cases hi⟩
      have hb22 := hb2.new hn2
      have HX := Lib.hid hx00
      have H22 := Lib.hid hb22
      have hnw2 := hnw.trans hn2
      clear h0 hb0 hb1 hb2 hval hval' hlen hx00 hb22 hxs hys hc0
      go_wp2
      go_loopw [7, 8, 9, 20] (fun c7 _ _ i w' => i = .int .i64 0 ∧ w' = w2) (fun _ _ _ _ _ => 0)
      case atStart => exact ⟨rfl, rfl⟩
      case round =>
        obtain ⟨rfl, rfl⟩ := hrel
        go_wp2_with fail
        refine (trimmed_c hs2).mono ?_
        rintro e w3 ⟨v3, rfl, h3, hn3⟩
        obtain ⟨hb3, he1, he2⟩ := at_end H22.out hnw2 (by omega) hn3
        have hv : NatV w3 (.agg #[v3]) (x - y) := nat_of h3 (by simp) (by rw [HX.out]; simp [val])
        have hc3 : w3.cell? ⟨w.heap.size + 1 + 1, 0, none⟩ = some (.slice none 0 0) := hb3.cell 0
        have hf3 := hb3.frozen 0
        have HE2 := Lib.hid he2
        obtain ⟨A3, l3, c3, e3⟩ := hv.form
        obtain rfl : v3 = .slice A3 l3 c3 := by simpa using e3
        clear hb3 e3 h3 he2 hs2
        go_wp2
        refine bodyPost_ret (v := .tuple #[.agg #[.slice A3 l3 c3], .int .i64 0]) (by simp [results, Tryz.results93, go_sem, hc3]) rfl ⟨_, by rw [HE.out], HE2.out _ _ _ hv, he1 _⟩
    · generalize hxl : dg B32 x = xs at *
      generalize hyl : dg B32 y = ys at *
      have hr := HR.out
      have hr' := HR'.out
      have hb0 := HB0.out.new hn1
      have hb1 := HB1.out.new hn1
      have hgs : w.heap.size + 1 + 1 + 1 ≤ g := by have := hn1.le; simp at this; omega
      have H0 := Lib.hid hb0
      have H1 := Lib.hid hb1
      have H2 := Lib.hid hb2
      have HV := Lib.hid hval
      have HV' := Lib.hid hval'
      have HXS := Lib.hid hxs
      have HYS := Lib.hid hys
      have hw12 : New w1 w2 := hn2
      have hxlen : xs.length = xs.length := rfl
      generalize hn : xs.length = n at *
      generalize hm : ys.length = m at *
      have HN := Lib.hid hn
      have HMM := Lib.hid hm
      have HXL := Lib.hid hxl
      have HYL := Lib.hid hyl
      have hl1 := HL.out
      have hl2 := HL2.out
      clear hb0 hb1 hb2 hval hval' hxs hys hn hm hxl hyl hxlen hc0
      go_wp2
      go_loopw [7, 8, 9, 20] (fun c7 _ _ i w' => ∃ (k b : Nat) (L : List Nat), k ≤ n ∧ i = .int .i64 (k : Int) ∧ c7 = .int .u32 (b : Int) ∧ b ≤ 1 ∧ Hid (SubInv xs ys k b L) ∧ Hid (Row w' g cap n 89 .u32 L) ∧ Hid (New w1 w')) (fun _ _ _ i _ => n - (intOf i).toNat)
      case atStart => exact ⟨0, 0, xs, Nat.zero_le _, rfl, rfl, Nat.zero_le _, ⟨rfl, HXS.out, fun _ _ => rfl, by simp [val]⟩, hrow, hn2⟩
      case round =>
        obtain ⟨k, b, L, hk, rfl, rfl, hb, HI, HRow, HNw⟩ := hrel
        have hc0 : wr.cell? ⟨w.heap.size, 0, none⟩ = some (.slice A n c) := (H0.out.new HNw.out).cell 0
        have hc1 : wr.cell? ⟨w.heap.size + 1, 0, none⟩ = some (.slice A' m c') := (H1.out.new HNw.out).cell 0
        by_cases hlt2 : k < n
        · have hcg : wr.cell? ⟨g, k, none⟩ = some (.int .u32 (L.getD k 0 : Nat)) := HRow.out.cell hlt2
          have hfg := HRow.out.frozen k
          have hrest := HI.out.rest k (Nat.le_refl _)
          have hxd : xs.getD k 0 < B32 := HXS.out _ (getD_mem (by rw [HN.out]; exact hlt2))
          have hyd : ys.getD k 0 < B32 := by
            by_cases h : k < ys.length
            · exact HYS.out _ (getD_mem h)
            · rw [List.getD_eq_getElem?_getD, List.getElem?_eq_none (by omega)]; rw [B32_eq]; simp
          rw [hrest] at hcg
          have hy0 : ¬ k < m → ys.getD k 0 = 0 := fun h => by
            rw [List.getD_eq_getElem?_getD, List.getElem?_eq_none (by have := HMM.out; omega)]; rfl
          have hstep := fun d h1 h2 => SubInv.step HI.out (d := d) (by rw [HN.out]; exact hlt2) h1 h2
          have HS := Lib.hid hstep
          clear hrest hstep
          generalize hxk : xs.getD k 0 = xd at *
          have HXK := Lib.hid hxk
          clear hxk
          by_cases hkm : k < m
          · obtain ⟨b', o', C', fr', rfl, hbl', hcell'⟩ := hr' k hkm
            have hcy := (hnw.trans HNw.out).still hcell'
            generalize hyk : ys.getD k 0 = yd at *
            have HYK := Lib.hid hyk
            clear hr hr' hcell' hbl' hy0 hyk
            go_wp2_with fail
            refine (sub32_c hxd hyd hb _).mono ?_
            rintro e w3 ⟨d, hd, he, rfl, rfl⟩
            have hst := HS.out d hd he
            have hble := borrow_le xd yd b
            have HST := Lib.hid hst
            have HHE := Lib.hid he
            clear he hst
            go_wp2
            go_roundw
            case rel => exact ⟨k + 1, borrow xd yd b, L.set k d, by omega, by go_num, rfl, hble, HST, HRow.out.set k d, New.setCell HNw.out (by have := hn1.le; simp at this ⊢; omega) _⟩
            case measure => simp [intOf]; omega
          · have hy00 := hy0 hkm
            have h37 := sub32_c hxd (y := 0) (by rw [B32_eq]; omega) hb wr
            rw [show ((0 : Nat) : Int) = 0 from rfl] at h37
            have HYK := Lib.hid hy00
            have H37 := Lib.hid h37
            clear hr hr' hy0 hy00 h37
            go_wp2_with fail
            refine H37.out.mono ?_
            rintro e w3 ⟨d, hd, he, rfl, rfl⟩
            have hst := HS.out d hd (by rw [HYK.out]; exact he)
            rw [HYK.out] at hst
            have hble := borrow_le xd 0 b
            have HST := Lib.hid hst
            have HHE := Lib.hid he
            clear he hst
            generalize borrow xd 0 b = bb at *
            go_wp2
            go_roundw
            case rel => exact ⟨k + 1, bb, L.set k d, by omega, by go_num, rfl, hble, HST, HRow.out.set k d, New.setCell HNw.out (by have := hn1.le; simp at this ⊢; omega) _⟩
            case measure => simp [intOf]; omega
        · obtain rfl : k = n := by omega
          have hfin := SubInv.done (xs := xs) (ys := ys) (b := b) (L := L) (by rw [HN.out]; exact HI.out) (by rw [HN.out, HMM.out]; exact hlen) (by rw [HV.out, HV'.out]; omega)
          rw [HV.out, HV'.out] at hfin
          have HF := Lib.hid hfin
          have hs3 := HRow.out.sl
          clear hr hr' hfin
          go_wp2_with fail
          refine (trimmed_c hs3).mono ?_
          rintro e w3 ⟨v3, rfl, h3, hn3⟩
          obtain ⟨hb3, he1, he2⟩ := at_end (H2.out.new HNw.out) (hnw.trans HNw.out) (by omega) hn3
          have hv : NatV w3 (.agg #[v3]) (x - y) := nat_of h3 HI.out.lt HF.out
          have hc3 : w3.cell? ⟨w.heap.size + 1 + 1, 0, none⟩ = some (.slice none 0 0) := hb3.cell 0
          have hf3 := hb3.frozen 0
          have HE2 := Lib.hid he2
          obtain ⟨A3, l3, c3, e3⟩ := hv.form
          obtain rfl : v3 = .slice A3 l3 c3 := by simpa using e3
          clear hb3 e3 h3 he2 hs3
          go_wp2
          refine bodyPost_ret (v := .tuple #[.agg #[.slice A3 l3 c3], .int .i64 0]) (by simp [results, Tryz.results93, go_sem, hc3]) rfl ⟨_, by rw [HE.out], HE2.out _ _ _ hv, he1 _⟩
end Go.Proofs.YtkjlmibleoecgaaGreatDoor
/- The program's nat, part 6: Add. (Printed by mkadd.py.) -/
namespace Go.Proofs.YtkjlmibleoecgaaGreatDoor
open Go.RowKit

/-- What holds in Add's loop: xs is the longer one. -/
structure AddInv (xs ys : List Nat) (k c : Nat) (L : List Nat) : Prop where
  len : L.length = xs.length + 1
  lt : ∀ d ∈ L, d < B32
  rest : ∀ j, k ≤ j → L.getD j 0 = 0
  carry : c ≤ 1
  sum : val B32 (L.take k) + B32 ^ k * c = val B32 (xs.take k) + val B32 (ys.take k)
theorem set_lt {L : List Nat} (h : ∀ d ∈ L, d < B32) (k : Nat) {z : Nat} (hz : z < B32) : ∀ d ∈ L.set k z, d < B32 := fun e hm => by
  rcases List.mem_or_eq_of_mem_set hm with hm | rfl
  · exact h e hm
  · exact hz
theorem set_rest {L : List Nat} {k : Nat} (h : ∀ j, k ≤ j → L.getD j 0 = 0) (z : Nat) : ∀ j, k + 1 ≤ j → (L.set k z).getD j 0 = 0 := fun j hj => by
  rw [List.getD_eq_getElem?_getD, List.getElem?_set_ne (show k ≠ j by omega), ← List.getD_eq_getElem?_getD]; exact h j (by omega)
theorem AddInv.step {xs ys : List Nat} {k c : Nat} {L : List Nat} (h : AddInv xs ys k c L) (hk : k < xs.length) (hx : xs.getD k 0 < B32) (hy : ys.getD k 0 < B32) :
    AddInv xs ys (k + 1) ((c + xs.getD k 0 + ys.getD k 0) / B32) (L.set k ((c + xs.getD k 0 + ys.getD k 0) % B32)) := by
  have hc := h.carry
  refine ⟨by simp [h.len], set_lt h.lt _ (Nat.mod_lt _ (by rw [B32_eq]; omega)), set_rest h.rest _, ?_, ?_⟩
  · have : (c + xs.getD k 0 + ys.getD k 0) / B32 < 2 := by rw [Nat.div_lt_iff_lt_mul (by rw [B32_eq]; omega)]; rw [B32_eq] at *; omega
    omega
  · rw [val_take_set _ _ _ _ (by rw [h.len]; omega), val_take_succ _ ys, val_take_succ _ xs, Nat.pow_succ]
    have h1 := h.sum
    have e := Nat.div_add_mod (c + xs.getD k 0 + ys.getD k 0) B32
    generalize (c + xs.getD k 0 + ys.getD k 0) / B32 = q at *
    generalize (c + xs.getD k 0 + ys.getD k 0) % B32 = r at *
    have e1 : B32 ^ k * (B32 * q + r) = B32 ^ k * (c + xs.getD k 0 + ys.getD k 0) := by rw [e]
    simp only [Nat.mul_add, ← Nat.mul_assoc] at e1
    omega
theorem AddInv.done {xs ys : List Nat} {c : Nat} {L : List Nat} (h : AddInv xs ys xs.length c L) (hm : ys.length ≤ xs.length) : val B32 (L.set xs.length c) = val B32 xs + val B32 ys := by
  have h1 := h.sum
  have e := val_take_set B32 L xs.length c (by rw [h.len]; omega)
  rw [List.take_of_length_le (by simp [h.len])] at e
  rw [List.take_of_length_le (Nat.le_refl _), List.take_of_length_le hm] at h1
  rw [e, h1]
theorem AddInv.start (xs ys : List Nat) : AddInv xs ys 0 0 (List.replicate (xs.length + 1) 0) := by
  refine ⟨by simp, fun d hd => ?_, fun j _ => ?_, by omega, by simp [val]⟩
  · rw [List.mem_replicate] at hd; rw [hd.2, B32_eq]; omega
  · simp [List.getD_eq_getElem?_getD, List.getElem?_replicate]; split <;> rfl

set_option maxHeartbeats 3000000 in
theorem add_c {x y : Nat} {u v : Value} {w : World} (hx : NatV w u x) (hy : NatV w v y) (hl : (dg B32 x).length ≤ 1099511627776) (hl2 : (dg B32 y).length ≤ 1099511627776) :
    Calls Tryz.prog 92 #[u, v] w fun e w' => ∃ v, e = .returned v ∧ NatV w' v (x + y) ∧ New w w' := by
  obtain ⟨_, rfl, A, c, rfl, hc, hmax, hr⟩ := hx
  obtain ⟨_, rfl, A', c', rfl, hc', hmax', hr'⟩ := hy
  have hxs := dg_lt B32_2 x
  have hval := dg_val B32_2 x
  have hys := dg_lt B32_2 y
  have hval' := dg_val B32_2 y
  generalize dg B32 x = xs at *
  generalize dg B32 y = ys at *
  generalize hn : xs.length = n at *
  generalize hm : ys.length = m at *
  have HV := Lib.hid hval
  have HV' := Lib.hid hval'
  have HXS := Lib.hid hxs
  have HYS := Lib.hid hys
  have HN := Lib.hid hn
  have HM := Lib.hid hm
  clear hval hval' hxs hys hn hm
  by_cases hsw : n < m
  · have hmk := make_u32 (m + 1) (by omega)
    rw [show ((m + 1 : Nat) : Int) = (m : Int) + 1 from by omega] at hmk
    go_enter Tryz.func92, Tryz.ntmps92
    go_wp2
    go_loopw [6, 7, 8, 26] (fun c6 _ _ i w' => ∃ (k q : Nat) (L : List Nat), k ≤ m ∧ i = .int .i64 (k : Int) ∧ c6 = .int .u64 (q : Int) ∧ Hid (AddInv ys xs k q L) ∧
      w' = (((w.alloc (.cells #[.slice A' m c'] 26)).alloc (.cells #[.slice A n c] 26)).alloc (.cells #[.slice none 0 0] 26)).alloc (.cells (ecells .u32 L) 89)) (fun _ _ _ i _ => m - (intOf i).toNat)
    case atStart => exact ⟨0, 0, List.replicate (m + 1) 0, by omega, rfl, rfl, by have := AddInv.start ys xs; rw [HM.out] at this; exact this, rfl⟩
    case round =>
      obtain ⟨k, q, L, hk, rfl, rfl, HI, rfl⟩ := hrel
      by_cases hlt : k < m
      · obtain ⟨b, o, C, fr, rfl, hbl, hcell⟩ := hr' k hlt
        have hc3 := fun o1 o2 o3 o4 => (((New.refl w).alloc o1).alloc o2).alloc o3 |>.alloc o4 |>.still hcell
        have hxd : ys.getD k 0 < B32 := HYS.out _ (getD_mem (by rw [HM.out]; exact hlt))
        have hyd : xs.getD k 0 < B32 := by
          by_cases h : k < xs.length
          · exact HXS.out _ (getD_mem h)
          · rw [List.getD_eq_getElem?_getD, List.getElem?_eq_none (by omega)]; rw [B32_eq]; simp
        have hy0 : ¬ k < n → xs.getD k 0 = 0 := fun h => by
          rw [List.getD_eq_getElem?_getD, List.getElem?_eq_none (by have := HN.out; omega)]; rfl
        have hst := HI.out.step (by rw [HM.out]; exact hlt) hxd hyd
        have hcar := HI.out.carry
        have hck : (ecells .u32 L)[k]? = some (.int .u32 (L.getD k 0 : Nat)) := ecells_get _ (by have := HI.out.len; have := HM.out; omega)
        generalize L.getD k 0 = old at hck
        have hset := fun z => ecells_set .u32 L k z
        generalize hxk : ys.getD k 0 = xd at *
        have HXK := Lib.hid hxk
        have hxd' : (xd : Int) ≤ 4294967295 := by rw [B32_eq] at hxd; omega
        have hw0 : IntKind.u64.wrap (xd : Int) = (xd : Int) := IntWalk.u64_in _ (by omega)
        have hw1 : IntKind.u64.wrap ((q : Int) + (xd : Int)) = (q : Int) + (xd : Int) := IntWalk.u64_in _ (by omega)
        by_cases hkm : k < n
        · obtain ⟨b', o', C', fr', rfl, hbl', hcell'⟩ := hr k hkm
          have hc4 := fun o1 o2 o3 o4 => (((New.refl w).alloc o1).alloc o2).alloc o3 |>.alloc o4 |>.still hcell'
          generalize hyk : xs.getD k 0 = yd at *
          have HYK := Lib.hid hyk
          have hyd' : (yd : Int) ≤ 4294967295 := by rw [B32_eq] at hyd; omega
          have hw2 : IntKind.u64.wrap (yd : Int) = (yd : Int) := IntWalk.u64_in _ (by omega)
          have hw3 : IntKind.u64.wrap ((q : Int) + (xd : Int) + (yd : Int)) = (q : Int) + (xd : Int) + (yd : Int) := IntWalk.u64_in _ (by omega)
          have e1 : ((q : Int) + (xd : Int) + (yd : Int)) % 4294967296 = (((q + xd + yd) % B32 : Nat) : Int) := by rw [cast_mod]; omega
          have e2 : ((q : Int) + (xd : Int) + (yd : Int)) / 4294967296 = (((q + xd + yd) / B32 : Nat) : Int) := by rw [cast_div]; omega
          have e3 := hset ((q + xd + yd) % B32)
          rw [← e1] at e3
          have HST := Lib.hid hst
          have E2 := Lib.hid e2
          have E3 := Lib.hid e3
          clear hr hr' hcell hcell' hbl hbl' hy0 hyk hxk hst hset e1 e2 e3 hmk
          generalize ecells .u32 L = EC at *
          go_wp2
          go_roundw
          case rel => exact ⟨k + 1, _, _, by omega, by go_num, by rw [E2.out], HST, by rw [E3.out]⟩
          case measure => simp [intOf]; omega
        · rw [hy0 hkm] at hst
          have e1 : ((q : Int) + (xd : Int)) % 4294967296 = (((q + xd + 0) % B32 : Nat) : Int) := by rw [cast_mod]; omega
          have e2 : ((q : Int) + (xd : Int)) / 4294967296 = (((q + xd + 0) / B32 : Nat) : Int) := by rw [cast_div]; omega
          have e3 := hset ((q + xd + 0) % B32)
          rw [← e1] at e3
          have HST := Lib.hid hst
          have E2 := Lib.hid e2
          have E3 := Lib.hid e3
          clear hr hr' hcell hbl hy0 hxk hst hset e1 e2 e3 hmk
          generalize ecells .u32 L = EC at *
          go_wp2
          go_roundw
          case rel => exact ⟨k + 1, _, _, by omega, by go_num, by rw [E2.out], HST, by rw [E3.out]⟩
          case measure => simp [intOf]; omega
      · obtain rfl : k = m := by omega
        have hfin := AddInv.done (xs := ys) (ys := xs) (c := q) (L := L) (by rw [HM.out]; exact HI.out) (by rw [HM.out, HN.out]; omega)
        rw [HV'.out, HV.out, HM.out] at hfin
        have hcar := HI.out.carry
        have hlen : (L.set k q).length = k + 1 := by simp [HI.out.len, HM.out]
        have hlts := set_lt HI.out.lt k (z := q) (by rw [B32_eq]; omega)
        have hck : (ecells .u32 L)[k]? = some (.int .u32 (L.getD k 0 : Nat)) := ecells_get _ (by have := HI.out.len; have := HM.out; omega)
        generalize L.getD k 0 = old at hck
        have e3 := ecells_set .u32 L k q
        have e1 : (q : Int) % 4294967296 = (q : Int) := by omega
        have E3 := Lib.hid e3
        have HF := Lib.hid hfin
        have HLN := Lib.hid hlen
        clear hr hr' hmk hfin hlen e3
        generalize ecells .u32 L = EC at *
        go_wp2_with fail
        rw [E3.out]
        have hbx := (((Box.last ((w.alloc (.cells #[.slice A' k c'] 26)).alloc (.cells #[.slice A n c] 26)) #[.slice none 0 0] 26)).alloc (.cells (ecells .u32 (L.set k q)) 89))
        have hs := Sl.of_block (Box.last3 (w.alloc (.cells #[.slice A' k c'] 26)) (.cells #[.slice A n c] 26) (.cells #[.slice none 0 0] 26) (ecells .u32 (L.set k q)) 89) (by have := HLN.out; simp [maxLen] at this ⊢; omega)
        rw [show (L.set k q).length = k + 1 from HLN.out] at hs
        simp only [World.size_alloc] at hs hbx
        refine (trimmed_c hs).mono ?_
        rintro e w3 ⟨v3, rfl, h3, hn3⟩
        obtain ⟨hb3, he1, he2⟩ := at_end hbx (((((New.refl w).alloc _).alloc _).alloc _).alloc _) (by omega) hn3
        have hv := nat_of h3 hlts HF.out
        have hc3 : w3.cell? ⟨w.heap.size + 1 + 1, 0, none⟩ = some (.slice none 0 0) := hb3.cell 0
        have hf3 := hb3.frozen 0
        have HE2 := Lib.hid he2
        obtain ⟨A3, l3, c3, e3⟩ := hv.form
        obtain rfl : v3 = .slice A3 l3 c3 := by simpa using e3
        clear hb3 e3 h3 he2 hs hbx
        go_wp2
        refine bodyPost_ret (v := .agg #[.slice A3 l3 c3]) (by simp [results, Tryz.results92, go_sem, hc3]) rfl ⟨_, rfl, ?_, he1 _⟩
        rw [Nat.add_comm x y]; exact HE2.out _ _ _ hv
  · have hmk := make_u32 (n + 1) (by omega)
    rw [show ((n + 1 : Nat) : Int) = (n : Int) + 1 from by omega] at hmk
    go_enter Tryz.func92, Tryz.ntmps92
    go_wp2
    go_loopw [6, 7, 8, 26] (fun c6 _ _ i w' => ∃ (k q : Nat) (L : List Nat), k ≤ n ∧ i = .int .i64 (k : Int) ∧ c6 = .int .u64 (q : Int) ∧ Hid (AddInv xs ys k q L) ∧
      w' = (((w.alloc (.cells #[.slice A n c] 26)).alloc (.cells #[.slice A' m c'] 26)).alloc (.cells #[.slice none 0 0] 26)).alloc (.cells (ecells .u32 L) 89)) (fun _ _ _ i _ => n - (intOf i).toNat)
    case atStart => exact ⟨0, 0, List.replicate (n + 1) 0, by omega, rfl, rfl, by have := AddInv.start xs ys; rw [HN.out] at this; exact this, rfl⟩
    case round =>
      obtain ⟨k, q, L, hk, rfl, rfl, HI, rfl⟩ := hrel
      by_cases hlt : k < n
      · obtain ⟨b, o, C, fr, rfl, hbl, hcell⟩ := hr k hlt
        have hc3 := fun o1 o2 o3 o4 => (((New.refl w).alloc o1).alloc o2).alloc o3 |>.alloc o4 |>.still hcell
        have hxd : xs.getD k 0 < B32 := HXS.out _ (getD_mem (by rw [HN.out]; exact hlt))
        have hyd : ys.getD k 0 < B32 := by
          by_cases h : k < ys.length
          · exact HYS.out _ (getD_mem h)
          · rw [List.getD_eq_getElem?_getD, List.getElem?_eq_none (by omega)]; rw [B32_eq]; simp
        have hy0 : ¬ k < m → ys.getD k 0 = 0 := fun h => by
          rw [List.getD_eq_getElem?_getD, List.getElem?_eq_none (by have := HM.out; omega)]; rfl
        have hst := HI.out.step (by rw [HN.out]; exact hlt) hxd hyd
        have hcar := HI.out.carry
        have hck : (ecells .u32 L)[k]? = some (.int .u32 (L.getD k 0 : Nat)) := ecells_get _ (by have := HI.out.len; have := HN.out; omega)
        generalize L.getD k 0 = old at hck
        have hset := fun z => ecells_set .u32 L k z
        generalize hxk : xs.getD k 0 = xd at *
        have HXK := Lib.hid hxk
        have hxd' : (xd : Int) ≤ 4294967295 := by rw [B32_eq] at hxd; omega
        have hw0 : IntKind.u64.wrap (xd : Int) = (xd : Int) := IntWalk.u64_in _ (by omega)
        have hw1 : IntKind.u64.wrap ((q : Int) + (xd : Int)) = (q : Int) + (xd : Int) := IntWalk.u64_in _ (by omega)
        by_cases hkm : k < m
        · obtain ⟨b', o', C', fr', rfl, hbl', hcell'⟩ := hr' k hkm
          have hc4 := fun o1 o2 o3 o4 => (((New.refl w).alloc o1).alloc o2).alloc o3 |>.alloc o4 |>.still hcell'
          generalize hyk : ys.getD k 0 = yd at *
          have HYK := Lib.hid hyk
          have hyd' : (yd : Int) ≤ 4294967295 := by rw [B32_eq] at hyd; omega
          have hw2 : IntKind.u64.wrap (yd : Int) = (yd : Int) := IntWalk.u64_in _ (by omega)
          have hw3 : IntKind.u64.wrap ((q : Int) + (xd : Int) + (yd : Int)) = (q : Int) + (xd : Int) + (yd : Int) := IntWalk.u64_in _ (by omega)
          have e1 : ((q : Int) + (xd : Int) + (yd : Int)) % 4294967296 = (((q + xd + yd) % B32 : Nat) : Int) := by rw [cast_mod]; omega
          have e2 : ((q : Int) + (xd : Int) + (yd : Int)) / 4294967296 = (((q + xd + yd) / B32 : Nat) : Int) := by rw [cast_div]; omega
          have e3 := hset ((q + xd + yd) % B32)
          rw [← e1] at e3
          have HST := Lib.hid hst
          have E2 := Lib.hid e2
          have E3 := Lib.hid e3
          clear hr hr' hcell hcell' hbl hbl' hy0 hyk hxk hst hset e1 e2 e3 hmk
          generalize ecells .u32 L = EC at *
          go_wp2
          go_roundw
          case rel => exact ⟨k + 1, _, _, by omega, by go_num, by rw [E2.out], HST, by rw [E3.out]⟩
          case measure => simp [intOf]; omega
        · rw [hy0 hkm] at hst
          have e1 : ((q : Int) + (xd : Int)) % 4294967296 = (((q + xd + 0) % B32 : Nat) : Int) := by rw [cast_mod]; omega
          have e2 : ((q : Int) + (xd : Int)) / 4294967296 = (((q + xd + 0) / B32 : Nat) : Int) := by rw [cast_div]; omega
          have e3 := hset ((q + xd + 0) % B32)
          rw [← e1] at e3
          have HST := Lib.hid hst
          have E2 := Lib.hid e2
          have E3 := Lib.hid e3
          clear hr hr' hcell hbl hy0 hxk hst hset e1 e2 e3 hmk
          generalize ecells .u32 L = EC at *
          go_wp2
          go_roundw
          case rel => exact ⟨k + 1, _, _, by omega, by go_num, by rw [E2.out], HST, by rw [E3.out]⟩
          case measure => simp [intOf]; omega
      · obtain rfl : k = n := by omega
        have hfin := AddInv.done (xs := xs) (ys := ys) (c := q) (L := L) (by rw [HN.out]; exact HI.out) (by rw [HN.out, HM.out]; omega)
        rw [HV.out, HV'.out, HN.out] at hfin
        have hcar := HI.out.carry
        have hlen : (L.set k q).length = k + 1 := by simp [HI.out.len, HN.out]
        have hlts := set_lt HI.out.lt k (z := q) (by rw [B32_eq]; omega)
        have hck : (ecells .u32 L)[k]? = some (.int .u32 (L.getD k 0 : Nat)) := ecells_get _ (by have := HI.out.len; have := HN.out; omega)
        generalize L.getD k 0 = old at hck
        have e3 := ecells_set .u32 L k q
        have e1 : (q : Int) % 4294967296 = (q : Int) := by omega
        have E3 := Lib.hid e3
        have HF := Lib.hid hfin
        have HLN := Lib.hid hlen
        clear hr hr' hmk hfin hlen e3
        generalize ecells .u32 L = EC at *
        go_wp2_with fail
        rw [E3.out]
        have hbx := (((Box.last ((w.alloc (.cells #[.slice A k c] 26)).alloc (.cells #[.slice A' m c'] 26)) #[.slice none 0 0] 26)).alloc (.cells (ecells .u32 (L.set k q)) 89))
        have hs := Sl.of_block (Box.last3 (w.alloc (.cells #[.slice A k c] 26)) (.cells #[.slice A' m c'] 26) (.cells #[.slice none 0 0] 26) (ecells .u32 (L.set k q)) 89) (by have := HLN.out; simp [maxLen] at this ⊢; omega)
        rw [show (L.set k q).length = k + 1 from HLN.out] at hs
        simp only [World.size_alloc] at hs hbx
        refine (trimmed_c hs).mono ?_
        rintro e w3 ⟨v3, rfl, h3, hn3⟩
        obtain ⟨hb3, he1, he2⟩ := at_end hbx (((((New.refl w).alloc _).alloc _).alloc _).alloc _) (by omega) hn3
        have hv := nat_of h3 hlts HF.out
        have hc3 : w3.cell? ⟨w.heap.size + 1 + 1, 0, none⟩ = some (.slice none 0 0) := hb3.cell 0
        have hf3 := hb3.frozen 0
        have HE2 := Lib.hid he2
        obtain ⟨A3, l3, c3, e3⟩ := hv.form
        obtain rfl : v3 = .slice A3 l3 c3 := by simpa using e3
        clear hb3 e3 h3 he2 hs hbx
        go_wp2
        refine bodyPost_ret (v := .agg #[.slice A3 l3 c3]) (by simp [results, Tryz.results92, go_sem, hc3]) rfl ⟨_, rfl, ?_, he1 _⟩
        exact HE2.out _ _ _ hv
end Go.Proofs.YtkjlmibleoecgaaGreatDoor
/- The program's nat, part 7: Mul. -/
namespace Go.Proofs.YtkjlmibleoecgaaGreatDoor
open Go.RowKit

theorem val_set (b : Nat) : ∀ (L : List Nat) (j z : Nat), j < L.length → val b (L.set j z) + b ^ j * L.getD j 0 = val b L + b ^ j * z
  | [], j, z, h => by cases h
  | d :: r, 0, z, _ => by simp [val]; omega
  | d :: r, j + 1, z, h => by
    have ih := val_set b r j z (by simpa using h)
    simp only [List.set_cons_succ, val, Nat.pow_succ]
    have e : (d :: r).getD (j + 1) 0 = r.getD j 0 := by simp [List.getD_eq_getElem?_getD]
    rw [e]
    have e1 : b * (val b (r.set j z) + b ^ j * r.getD j 0) = b * (val b r + b ^ j * z) := by rw [ih]
    simp only [Nat.mul_add] at e1
    rw [Nat.mul_comm (b ^ j) b, Nat.mul_assoc, Nat.mul_assoc]; omega
/-- What holds in Mul's outer loop .. -/
structure MulInv (xs ys : List Nat) (i : Nat) (L : List Nat) : Prop where
  len : L.length = xs.length + ys.length
  lt : ∀ d ∈ L, d < B32
  rest : ∀ j, i + ys.length ≤ j → L.getD j 0 = 0
  prod : val B32 L = val B32 (xs.take i) * val B32 ys
/-- .. and in its inner one. -/
structure MulIn (xs ys : List Nat) (i k c : Nat) (L : List Nat) : Prop where
  len : L.length = xs.length + ys.length
  lt : ∀ d ∈ L, d < B32
  rest : ∀ j, i + ys.length ≤ j → L.getD j 0 = 0
  carry : c < B32
  prod : val B32 L + B32 ^ (i + k) * c = val B32 (xs.take i) * val B32 ys + B32 ^ i * (xs.getD i 0 * val B32 (ys.take k))
theorem MulInv.start (xs ys : List Nat) : MulInv xs ys 0 (List.replicate (xs.length + ys.length) 0) := by
  refine ⟨by simp, fun d hd => ?_, fun j _ => ?_, by simp [val, val_replicate]⟩
  · rw [List.mem_replicate] at hd; rw [hd.2, B32_eq]; omega
  · simp [List.getD_eq_getElem?_getD, List.getElem?_replicate]; split <;> rfl
theorem MulInv.enter {xs ys : List Nat} {i : Nat} {L : List Nat} (h : MulInv xs ys i L) : MulIn xs ys i 0 0 L :=
  ⟨h.len, h.lt, h.rest, by rw [B32_eq]; omega, by simp [val, h.prod]⟩
theorem MulIn.z_le {xs ys : List Nat} {i k c : Nat} {L : List Nat} (h : MulIn xs ys i k c L) (hx : xs.getD i 0 < B32) (hy : ys.getD k 0 < B32) (hl : L.getD (i + k) 0 < B32) : c + (L.getD (i + k) 0 + xs.getD i 0 * ys.getD k 0) < B32 * B32 := by
  have hc := h.carry
  have h1 : xs.getD i 0 * ys.getD k 0 ≤ (B32 - 1) * (B32 - 1) := Nat.mul_le_mul (by omega) (by omega)
  generalize xs.getD i 0 * ys.getD k 0 = p at *
  rw [B32_eq] at *; omega
theorem MulIn.step {xs ys : List Nat} {i k c : Nat} {L : List Nat} (h : MulIn xs ys i k c L) (hi : i < xs.length) (hk : k < ys.length) (hx : xs.getD i 0 < B32) (hy : ys.getD k 0 < B32) :
    MulIn xs ys i (k + 1) ((c + (L.getD (i + k) 0 + xs.getD i 0 * ys.getD k 0)) / B32) (L.set (i + k) ((c + (L.getD (i + k) 0 + xs.getD i 0 * ys.getD k 0)) % B32)) := by
  have hL : i + k < L.length := by rw [h.len]; omega
  have hz := h.z_le hx hy (h.lt _ (getD_mem hL))
  refine ⟨by simp [h.len], set_lt h.lt _ (Nat.mod_lt _ (by rw [B32_eq]; omega)), fun j hj => ?_, ?_, ?_⟩
  · rw [List.getD_eq_getElem?_getD, List.getElem?_set_ne (show i + k ≠ j by omega), ← List.getD_eq_getElem?_getD]; exact h.rest j hj
  · rw [Nat.div_lt_iff_lt_mul (by rw [B32_eq]; omega)]; exact hz
  · have e0 := val_set B32 L (i + k) ((c + (L.getD (i + k) 0 + xs.getD i 0 * ys.getD k 0)) % B32) hL
    have e := Nat.div_add_mod (c + (L.getD (i + k) 0 + xs.getD i 0 * ys.getD k 0)) B32
    have h1 := h.prod
    generalize (c + (L.getD (i + k) 0 + xs.getD i 0 * ys.getD k 0)) / B32 = q at *
    generalize (c + (L.getD (i + k) 0 + xs.getD i 0 * ys.getD k 0)) % B32 = r at *
    generalize L.getD (i + k) 0 = l at *
    have e1 : B32 ^ (i + k) * (B32 * q + r) = B32 ^ (i + k) * (c + (l + xs.getD i 0 * ys.getD k 0)) := by rw [e]
    rw [val_take_succ, show i + (k + 1) = (i + k) + 1 from by omega, Nat.pow_succ]
    have e2 : B32 ^ i * (xs.getD i 0 * (B32 ^ k * ys.getD k 0)) = B32 ^ (i + k) * (xs.getD i 0 * ys.getD k 0) := by
      rw [Nat.pow_add, Nat.mul_assoc, ← Nat.mul_assoc (xs.getD i 0), Nat.mul_comm (xs.getD i 0), Nat.mul_assoc]
    simp only [Nat.mul_add, ← Nat.mul_assoc] at e1 e2 h1 e0 ⊢
    omega
theorem MulIn.leave {xs ys : List Nat} {i c : Nat} {L : List Nat} (h : MulIn xs ys i ys.length c L) (hi : i < xs.length) : MulInv xs ys (i + 1) (L.set (i + ys.length) c) := by
  have hL : i + ys.length < L.length := by rw [h.len]; omega
  refine ⟨by simp [h.len], set_lt h.lt _ h.carry, fun j hj => ?_, ?_⟩
  · rw [List.getD_eq_getElem?_getD, List.getElem?_set_ne (show i + ys.length ≠ j by omega), ← List.getD_eq_getElem?_getD]; exact h.rest j (by omega)
  · have e0 := val_set B32 L (i + ys.length) c hL
    rw [h.rest _ (Nat.le_refl _)] at e0
    have h1 := h.prod
    rw [List.take_of_length_le (Nat.le_refl _)] at h1
    rw [val_take_succ, Nat.add_mul, Nat.mul_assoc]
    omega

set_option maxHeartbeats 3000000 in
theorem mul_c {x y : Nat} {u v : Value} {w : World} (hx : NatV w u x) (hy : NatV w v y) (hl : (dg B32 x).length ≤ 1099511627776) (hl2 : (dg B32 y).length ≤ 1099511627776) :
    Calls Tryz.prog 96 #[u, v] w fun e w' => ∃ v, e = .returned v ∧ NatV w' v (x * y) ∧ New w w' := by
  obtain ⟨_, rfl, A, c, rfl, hc, hmax, hr⟩ := hx
  obtain ⟨_, rfl, A', c', rfl, hc', hmax', hr'⟩ := hy
  have hxs := dg_lt B32_2 x
  have hval := dg_val B32_2 x
  have hys := dg_lt B32_2 y
  have hval' := dg_val B32_2 y
  generalize dg B32 x = xs at *
  generalize dg B32 y = ys at *
  generalize hn : xs.length = n at *
  generalize hm : ys.length = m at *
  have hmk := make_u32 (n + m) (by omega)
  rw [show ((n + m : Nat) : Int) = (n : Int) + (m : Int) from by omega] at hmk
  have HV := Lib.hid hval
  have HV' := Lib.hid hval'
  have HXS := Lib.hid hxs
  have HYS := Lib.hid hys
  have HN := Lib.hid hn
  have HM := Lib.hid hm
  have HR := Lib.hid hr
  have HR' := Lib.hid hr'
  clear hval hval' hxs hys hn hm hr hr'
  go_enter Tryz.func96, Tryz.ntmps96
  go_wp2
  go_loopw [22] (fun i w' => ∃ (k : Nat) (L : List Nat), k ≤ n ∧ i = .int .i64 (k : Int) ∧ Hid (MulInv xs ys k L) ∧
    w' = (((w.alloc (.cells #[.slice A n c] 26)).alloc (.cells #[.slice A' m c'] 26)).alloc (.cells #[.slice none 0 0] 26)).alloc (.cells (ecells .u32 L) 89)) (fun i _ => n - (intOf i).toNat)
  case atStart => exact ⟨0, List.replicate (n + m) 0, by omega, rfl, by have := MulInv.start xs ys; rw [HN.out, HM.out] at this; exact this, rfl⟩
  case round =>
    obtain ⟨i, L, hi, rfl, HI, rfl⟩ := hrel
    by_cases hlt : i < n
    · obtain ⟨b, o, C, fr, rfl, hbl, hcell⟩ := HR.out i hlt
      have hc3 := fun o1 o2 o3 o4 => (((New.refl w).alloc o1).alloc o2).alloc o3 |>.alloc o4 |>.still hcell
      have hxd : xs.getD i 0 < B32 := HXS.out _ (getD_mem (by rw [HN.out]; exact hlt))
      have HMI := Lib.hid (MulInv.enter HI.out)
      generalize hxk : xs.getD i 0 = xd at *
      have HXK := Lib.hid hxk
      have hxd' : (xd : Int) ≤ 4294967295 := by rw [B32_eq] at hxd; omega
      have hw0 : IntKind.u64.wrap (xd : Int) = (xd : Int) := IntWalk.u64_in _ (by omega)
      clear hcell hbl hxk hmk
      go_wp2
      go_loopw [8, 30] (fun c8 k8 w' => ∃ (k q : Nat) (L : List Nat), k ≤ m ∧ k8 = .int .i64 (k : Int) ∧ c8 = .int .u64 (q : Int) ∧ Hid (MulIn xs ys i k q L) ∧
        w' = (((w.alloc (.cells #[.slice (some ⟨b, o, none⟩) n c] 26)).alloc (.cells #[.slice A' m c'] 26)).alloc (.cells #[.slice none 0 0] 26)).alloc (.cells (ecells .u32 L) 89)) (fun _ k _ => m - (intOf k).toNat)
      case atStart => exact ⟨0, 0, L, by omega, rfl, rfl, HMI.out, rfl⟩
      case round =>
        obtain ⟨k, q, L, hk, rfl, rfl, HJ, rfl⟩ := hrel
        have hlen : L.length = n + m := by rw [HJ.out.len, HN.out, HM.out]
        have hqc := HJ.out.carry
        by_cases hkm : k < m
        · obtain ⟨b', o', C', fr', rfl, hbl', hcell'⟩ := HR'.out k hkm
          have hc4 := fun o1 o2 o3 o4 => (((New.refl w).alloc o1).alloc o2).alloc o3 |>.alloc o4 |>.still hcell'
          have hyd : ys.getD k 0 < B32 := HYS.out _ (getD_mem (by rw [HM.out]; exact hkm))
          have hst := HJ.out.step (by rw [HN.out]; exact hlt) (by rw [HM.out]; exact hkm) (by rw [HXK.out]; exact hxd) hyd
          have hld : L.getD (i + k) 0 < B32 := HJ.out.lt _ (getD_mem (by omega))
          have hz := HJ.out.z_le (by rw [HXK.out]; exact hxd) hyd hld
          have hck : (ecells .u32 L)[i + k]? = some (.int .u32 (L.getD (i + k) 0 : Nat)) := ecells_get _ (by omega)
          have hset := fun z => ecells_set .u32 L (i + k) z
          rw [HXK.out] at hst hz
          generalize L.getD (i + k) 0 = l at *
          generalize ys.getD k 0 = yd at *
          have hyd' : (yd : Int) ≤ 4294967295 := by rw [B32_eq] at hyd; omega
          have hld' : (l : Int) ≤ 4294967295 := by rw [B32_eq] at hld; omega
          have hq' : (q : Int) ≤ 4294967295 := by rw [B32_eq] at hqc; omega
          have hp0 : (0 : Int) ≤ (xd : Int) * (yd : Int) := Int.mul_nonneg (by omega) (by omega)
          have hz' : (q : Int) + ((l : Int) + (xd : Int) * (yd : Int)) ≤ 18446744073709551615 := by
            have : ((q + (l + xd * yd) : Nat) : Int) = (q : Int) + ((l : Int) + (xd : Int) * (yd : Int)) := by rw [Int.natCast_add, cast_mad]
            rw [← this]; rw [B32_eq] at hz; omega
          have hw1 : IntKind.u64.wrap (yd : Int) = (yd : Int) := IntWalk.u64_in _ (by omega)
          have hw2 : IntKind.u64.wrap (l : Int) = (l : Int) := IntWalk.u64_in _ (by omega)
          have hw3 : IntKind.u64.wrap ((xd : Int) * (yd : Int)) = (xd : Int) * (yd : Int) := IntWalk.u64_in _ (by omega)
          have hw4 : IntKind.u64.wrap ((l : Int) + (xd : Int) * (yd : Int)) = (l : Int) + (xd : Int) * (yd : Int) := IntWalk.u64_in _ (by omega)
          have hw5 : IntKind.u64.wrap ((q : Int) + ((l : Int) + (xd : Int) * (yd : Int))) = (q : Int) + ((l : Int) + (xd : Int) * (yd : Int)) := IntWalk.u64_in _ (by omega)
          have e1 : ((q : Int) + ((l : Int) + (xd : Int) * (yd : Int))) % 4294967296 = (((q + (l + xd * yd)) % B32 : Nat) : Int) := by rw [cast_mod, Int.natCast_add, cast_mad]
          have e2 : ((q : Int) + ((l : Int) + (xd : Int) * (yd : Int))) / 4294967296 = (((q + (l + xd * yd)) / B32 : Nat) : Int) := by rw [cast_div, Int.natCast_add, cast_mad]
          have e3 := hset ((q + (l + xd * yd)) % B32)
          rw [← e1] at e3
          have hik : ((i : Int) + (k : Int)).toNat = i + k := by omega
          have HST := Lib.hid hst
          have E2 := Lib.hid e2
          have E3 := Lib.hid e3
          have HLN := Lib.hid hlen
          clear hcell' hbl' hst hset e1 e2 e3 hlen hz
          generalize ecells .u32 L = EC at *
          go_wp2
          go_roundw
          case rel => exact ⟨k + 1, _, _, by omega, by go_num, by rw [E2.out], HST, by rw [E3.out]⟩
          case measure => simp [intOf]; omega
        · obtain rfl : k = m := by omega
          have hlv := MulIn.leave (xs := xs) (ys := ys) (i := i) (c := q) (L := L) (by rw [HM.out]; exact HJ.out) (by rw [HN.out]; exact hlt)
          rw [HM.out] at hlv
          have hck : (ecells .u32 L)[i + k]? = some (.int .u32 (L.getD (i + k) 0 : Nat)) := ecells_get _ (by omega)
          generalize L.getD (i + k) 0 = l at hck
          have e3 := ecells_set .u32 L (i + k) q
          have e1 : (q : Int) % 4294967296 = (q : Int) := by rw [B32_eq] at hqc; omega
          have hik : ((i : Int) + (k : Int)).toNat = i + k := by omega
          have HLV := Lib.hid hlv
          have E3 := Lib.hid e3
          have HLN := Lib.hid hlen
          clear hlv e3 hlen
          generalize ecells .u32 L = EC at *
          go_wp2
          go_roundw
          case rel => exact ⟨i + 1, _, by omega, by go_num, HLV, by rw [E3.out]⟩
          case measure => simp [intOf]; omega
    · obtain rfl : i = n := by omega
      have hpr := HI.out.prod
      rw [List.take_of_length_le (by rw [HN.out]; omega), HV.out, HV'.out] at hpr
      have hlen : L.length = i + m := by rw [HI.out.len, HN.out, HM.out]
      have hlts := HI.out.lt
      have HP := Lib.hid hpr
      have HLN := Lib.hid hlen
      have HLT := Lib.hid hlts
      clear hmk hpr hlen hlts
      go_wp2_with fail
      have hbx := (((Box.last ((w.alloc (.cells #[.slice A i c] 26)).alloc (.cells #[.slice A' m c'] 26)) #[.slice none 0 0] 26)).alloc (.cells (ecells .u32 L) 89))
      have hs := Sl.of_block (Box.last3 (w.alloc (.cells #[.slice A i c] 26)) (.cells #[.slice A' m c'] 26) (.cells #[.slice none 0 0] 26) (ecells .u32 L) 89) (by have := HLN.out; simp [maxLen] at this ⊢; omega)
      rw [show L.length = i + m from HLN.out] at hs
      simp only [World.size_alloc] at hs hbx
      refine (trimmed_c hs).mono ?_
      rintro e w3 ⟨v3, rfl, h3, hn3⟩
      obtain ⟨hb3, he1, he2⟩ := at_end hbx (((((New.refl w).alloc _).alloc _).alloc _).alloc _) (by omega) hn3
      have hv := nat_of h3 HLT.out HP.out
      have hc3 : w3.cell? ⟨w.heap.size + 1 + 1, 0, none⟩ = some (.slice none 0 0) := hb3.cell 0
      have hf3 := hb3.frozen 0
      have HE2 := Lib.hid he2
      obtain ⟨A3, l3, c3, e3⟩ := hv.form
      obtain rfl : v3 = .slice A3 l3 c3 := by simpa using e3
      clear hb3 e3 h3 he2 hs hbx
      go_wp2
      refine bodyPost_ret (v := .agg #[.slice A3 l3 c3]) (by simp [results, Tryz.results96, go_sem, hc3]) rfl ⟨_, rfl, HE2.out _ _ _ hv, he1 _⟩
end Go.Proofs.YtkjlmibleoecgaaGreatDoor
