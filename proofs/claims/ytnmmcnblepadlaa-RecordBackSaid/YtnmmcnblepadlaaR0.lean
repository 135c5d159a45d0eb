/- Records as bytes: plain lists, no program in sight. -/
import Derived.Test.YtnmmcnblepadlaaB0
namespace Go.Proofs.Ytnmmcnblepadlaa
set_option linter.unusedSimpArgs false
set_option linter.unusedVariables false
open Go.RowKit

structure Rec where
  kind : Int
  who : ByteArray
  nums : List Int
  text : ByteArray

/-- A number as an unsigned one. -/
def zz (n : Int) : Nat := if 0 ≤ n then (2 * n).toNat else (-2 * n - 1).toNat
def i64ok (n : Int) : Prop := -9223372036854775808 ≤ n ∧ n ≤ 9223372036854775807
theorem zz_lt {n : Int} (h : i64ok n) : zz n < 18446744073709551616 := by unfold zz; unfold i64ok at h; split <;> omega
theorem zz_inj {a b : Int} (h : zz a = zz b) : a = b := by unfold zz at h; split at h <;> split at h <;> omega
/-- A number by sevens of bits. -/
def vb (v : Nat) : List UInt8 := if h : v < 128 then [UInt8.ofNat v] else UInt8.ofNat (v % 128 + 128) :: vb (v / 128)
termination_by v
decreasing_by omega
theorem vb_lo {v : Nat} (h : v < 128) : vb v = [UInt8.ofNat v] := by rw [vb, dif_pos h]
theorem vb_hi {v : Nat} (h : 128 ≤ v) : vb v = UInt8.ofNat (v % 128 + 128) :: vb (v / 128) := by rw [vb, dif_neg (by omega)]
theorem vb_len (v k : Nat) (hk : 0 < k) (h : v < 128 ^ k) : (vb v).length ≤ k := by
  induction k generalizing v with
  | zero => omega
  | succ k ih =>
    by_cases hv : v < 128
    · rw [vb_lo hv]; simp
    · rw [vb_hi (by omega), List.length_cons]
      have : 0 < k := by
        rcases Nat.eq_zero_or_pos k with rfl | h0
        · simp at h; omega
        · exact h0
      have := ih (v / 128) this (by rw [Nat.pow_succ] at h; omega)
      omega
theorem vb_len10 {v : Nat} (h : v < 18446744073709551616) : (vb v).length ≤ 10 := vb_len v 10 (by omega) (Nat.lt_of_lt_of_le h (by decide))
theorem vb_pos (v : Nat) : 0 < (vb v).length := by
  by_cases hv : v < 128
  · rw [vb_lo hv]; simp
  · rw [vb_hi (by omega)]; simp
def numsB (l : List Int) : List UInt8 := l.flatMap fun n => vb (zz n)
theorem numsB_nil : numsB [] = [] := rfl
theorem numsB_cons (a : Int) (l : List Int) : numsB (a :: l) = vb (zz a) ++ numsB l := rfl
theorem numsB_append (l m : List Int) : numsB (l ++ m) = numsB l ++ numsB m := by unfold numsB; exact List.flatMap_append
theorem numsB_len {l : List Int} (h : ∀ n ∈ l, i64ok n) : (numsB l).length ≤ 10 * l.length := by
  induction l with
  | nil => simp [numsB]
  | cons a l ih =>
    rw [numsB_cons, List.length_append, List.length_cons]
    have := vb_len10 (zz_lt (h a (List.mem_cons_self ..)))
    have := ih (fun n hn => h n (List.mem_cons_of_mem _ hn))
    omega
/-- A record's bytes. -/
def head (r : Rec) : List UInt8 := [UInt8.ofNat r.kind.toNat, UInt8.ofNat r.who.size] ++ r.who.data.toList ++ [UInt8.ofNat r.nums.length]
def tail (r : Rec) : List UInt8 := [UInt8.ofNat (r.text.size / 256), UInt8.ofNat (r.text.size % 256)] ++ r.text.data.toList
def body (r : Rec) : List UInt8 := head r ++ numsB r.nums ++ tail r
def err (r : Rec) : Int := if r.kind < 1 ∨ 255 < r.kind then 1 else if 64 < r.who.size ∨ 64 < r.nums.length ∨ 16384 < r.text.size then 41 else 0
def encS (r : Rec) : ByteArray := if err r = 0 then ⟨(body r).toArray⟩ else ⟨#[]⟩
def Good (r : Rec) : Prop := 1 ≤ r.kind ∧ r.kind ≤ 255 ∧ r.who.size ≤ 64 ∧ r.nums.length ≤ 64 ∧ r.text.size ≤ 16384
theorem err_good {r : Rec} : err r = 0 ↔ Good r := by
  unfold err Good
  constructor
  · intro h
    split at h
    · omega
    · split at h
      · omega
      · omega
  · intro h
    rw [if_neg (by omega), if_neg (by omega)]
theorem encS_good {r : Rec} (h : Good r) : encS r = ⟨(body r).toArray⟩ := by unfold encS; rw [if_pos (err_good.2 h)]

/-- A record as a value. -/
def nE (n : Int) : Value := .int .i64 n
def RecV (w : World) (v : Value) (r : Rec) : Prop := ∃ u, v = .agg #[.int .i64 r.kind, .string r.who, u, .string r.text] ∧ SlE nE w u r.nums ∧ ∀ n ∈ r.nums, i64ok n
theorem RecV.new {w w' : World} {v : Value} {r : Rec} (h : RecV w v r) (hn : New w w') : RecV w' v r := by
  obtain ⟨u, e, hs, ho⟩ := h; exact ⟨u, e, hs.new hn, ho⟩
theorem u8_ofNat {n : Nat} (h : n < 256) : u8 (UInt8.ofNat n) = .int .u8 (n : Int) := by
  unfold u8
  rw [UInt8.toNat_ofNat']
  rw [Nat.mod_eq_of_lt h]
end Go.Proofs.Ytnmmcnblepadlaa
