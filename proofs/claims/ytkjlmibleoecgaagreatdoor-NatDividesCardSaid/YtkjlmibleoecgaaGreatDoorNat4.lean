/- The program's nat, part 4: Sub32, Clone, Sub. -/
import Derived.Test.YtkjlmibleoecgaaGreatDoorNat3
import Derived.Laws.BitsAllLaws
import Derived.Laws.AppendOwn
namespace Go.Proofs.YtkjlmibleoecgaaGreatDoor
open Go.RowKit

theorem bit31 {n : Nat} (h : n < 4294967296) : n / 2147483648 = if n.testBit 31 then 1 else 0 := by
  rw [Nat.testBit_eq_decide_div_mod_eq]
  rw [show (2 : Nat) ^ 31 = 2147483648 from rfl]
  by_cases h1 : n / 2147483648 % 2 = 1
  · simp [h1]; omega
  · simp [h1]; omega
theorem bit31_le {n : Nat} (h : n < 4294967296) : n.testBit 31 = decide (2147483648 ≤ n) := by
  rw [Nat.testBit_eq_decide_div_mod_eq]
  rw [show (2 : Nat) ^ 31 = 2147483648 from rfl, decide_eq_decide]; omega
def borrow (x y b : Nat) : Nat := if x < y + b then 1 else 0
theorem borrow_bit {x y b d : Nat} (hx : x < 4294967296) (hy : y < 4294967296) (hb : b ≤ 1) (hd : (d : Int) = ((x : Int) - y - b) % 4294967296) :
    Go.bits .or .u32 (Go.bits .and .u32 (Go.bits .xor .u32 4294967295 (x : Int)) (y : Int)) (Go.bits .and .u32 (Go.bits .xor .u32 4294967295 (Go.bits .xor .u32 (x : Int) (y : Int))) (d : Int)) / 2147483648 = ((borrow x y b : Nat) : Int) := by
  unfold borrow
  have hd32 : d < 4294967296 := by omega
  have h1 : (4294967295 : Int) = ((4294967295 : Nat) : Int) := rfl
  have x1 := Nat.xor_lt_two_pow (n := 32) (x := 4294967295) (y := x) (by omega) (by omega)
  have x2 := Nat.xor_lt_two_pow (n := 32) (x := x) (y := y) (by omega) (by omega)
  have x3 := Nat.xor_lt_two_pow (n := 32) (x := 4294967295) (y := x ^^^ y) (by omega) x2
  have x4 := Nat.and_lt_two_pow (n := 32) (4294967295 ^^^ x) (y := y) (by omega)
  have x5 := Nat.and_lt_two_pow (n := 32) (4294967295 ^^^ (x ^^^ y)) (y := d) (by omega)
  have x6 := Nat.or_lt_two_pow (n := 32) x4 x5
  simp only [show (2 : Nat) ^ 32 = 4294967296 from rfl] at x1 x2 x3 x4 x5 x6
  rw [h1, u32_xor_nat _ _ (by omega) (by omega), u32_and_nat _ _ (by omega) (by omega), u32_xor_nat _ _ (by omega) (by omega), u32_xor_nat _ _ (by omega) (by omega), u32_and_nat _ _ (by omega) (by omega), u32_or_nat _ _ (by omega) (by omega)]
  have e : ∀ z : Nat, ((z : Nat) : Int) / 2147483648 = ((z / 2147483648 : Nat) : Int) := fun z => by omega
  rw [e, bit31 x6]
  simp only [Nat.testBit_or, Nat.testBit_and, Nat.testBit_xor, bit31_le hx, bit31_le hy, bit31_le hd32, show (4294967295 : Nat).testBit 31 = true from by decide]
  clear e x1 x2 x3 x4 x5 x6 h1
  by_cases g : x < y + b <;> by_cases a : 2147483648 ≤ x <;> by_cases c : 2147483648 ≤ y <;> by_cases f : 2147483648 ≤ d <;> simp [g, a, c, f] <;> omega

set_option maxHeartbeats 800000 in
theorem sub32_c {x y b : Nat} (hx : x < B32) (hy : y < B32) (hb : b ≤ 1) (w : World) :
    Calls Tryz.prog 72 #[.int .u32 (x : Int), .int .u32 (y : Int), .int .u32 (b : Int)] w fun e w' => ∃ d : Nat, d < B32 ∧ d + y + b = x + B32 * borrow x y b ∧ e = .returned (.tuple #[.int .u32 (d : Int), .int .u32 ((borrow x y b : Nat) : Int)]) ∧ w = w' := by
  rw [B32_eq] at *
  obtain ⟨d, hd⟩ : ∃ d : Nat, (d : Int) = ((x : Int) - y - b) % 4294967296 := ⟨(((x : Int) - y - b) % 4294967296).toNat, by omega⟩
  have hbb := borrow_bit hx hy hb hd
  have hd1 : (((x : Int) - (y : Int)) % 4294967296 - (b : Int)) % 4294967296 = (d : Int) := by omega
  have hsum : d < 4294967296 ∧ d + y + b = x + 4294967296 * borrow x y b := by unfold borrow; split <;> omega
  have hmx : IntKind.u32.max = 4294967295 := rfl
  have HS := Lib.hid hsum
  clear hd hsum
  go_enter Tryz.func72, Tryz.ntmps72
  go_wp2
  go_ret2
  exact ⟨d, HS.out.1, HS.out.2, rfl, rfl⟩

theorem Box.set {w : World} {g : Nat} {C : Array Value} {t : TypeId} (h : Box w g C t) (i : Nat) (v : Value) : Box (w.setCell ⟨g, i, none⟩ v) g (C.setIfInBounds i v) t := by
  unfold Box at *
  have hl := lt_of_block h
  simp [World.setCell, Array.getElem?_modify, h]
/-- A row of the call's own: its block, its room. -/
def Row (w : World) (g cap n : Nat) (E : TypeId) (k : IntKind) (xs : List Nat) : Prop :=
  ∃ C, Box w g C E ∧ n ≤ cap ∧ cap ≤ maxLen ∧ C.size = cap ∧ xs.length = n ∧ C.toList.take n = (ecells k xs).toList
theorem Row.cell {w : World} {g cap n : Nat} {E : TypeId} {k : IntKind} {xs : List Nat} (h : Row w g cap n E k xs) {i : Nat} (hi : i < n) : w.cell? ⟨g, i, none⟩ = some (.int k (xs.getD i 0 : Nat)) := by
  obtain ⟨C, hb, h1, h2, h3, h4, h5⟩ := h
  rw [hb.cell]
  have h6 : (C.toList.take n)[i]? = (ecells k xs).toList[i]? := by rw [h5]
  rw [List.getElem?_take_of_lt hi, Array.getElem?_toList, Array.getElem?_toList, ecells_get k (by omega)] at h6
  exact h6
theorem Row.frozen {w : World} {g cap n : Nat} {E : TypeId} {k : IntKind} {xs : List Nat} (h : Row w g cap n E k xs) (i : Nat) : w.frozen? ⟨g, i, none⟩ = false := by
  obtain ⟨C, hb, _⟩ := h; exact hb.frozen i
theorem Row.set {w : World} {g cap n : Nat} {E : TypeId} {k : IntKind} {xs : List Nat} (h : Row w g cap n E k xs) (i x : Nat) : Row (w.setCell ⟨g, i, none⟩ (.int k (x : Int))) g cap n E k (xs.set i x) := by
  obtain ⟨C, hb, h1, h2, h3, h4, h5⟩ := h
  refine ⟨_, hb.set i _, h1, h2, by simpa using h3, by simpa using h4, ?_⟩
  rw [Array.toList_setIfInBounds, List.take_set, h5, ← ecells_set, Array.toList_setIfInBounds]
theorem Row.sl {w : World} {g cap n : Nat} {E : TypeId} {k : IntKind} {xs : List Nat} (h : Row w g cap n E k xs) : Sl E k w (.slice (some ⟨g, 0, none⟩) n cap) xs := by
  have h' := h
  obtain ⟨C, hb, h1, h2, h3, h4, h5⟩ := h
  subst h4
  exact ⟨_, _, rfl, h1, h2, fun i hi => ⟨g, 0, C, (0, 0), rfl, hb, by rw [Nat.zero_add]; exact h'.cell hi⟩⟩
theorem Row.far {w : World} {g cap n : Nat} {E : TypeId} {k : IntKind} {xs : List Nat} (h : Row w g cap n E k xs) {p i : Nat} (hp : g ≠ p) (u : Value) : Row (w.setCell ⟨p, i, none⟩ u) g cap n E k xs := by
  obtain ⟨C, hb, r⟩ := h; exact ⟨C, hb.far hp u, r⟩
theorem Row.new {w w' : World} (hn : New w w') {g cap n : Nat} {E : TypeId} {k : IntKind} {xs : List Nat} (h : Row w g cap n E k xs) : Row w' g cap n E k xs := by
  obtain ⟨C, hb, r⟩ := h; exact ⟨C, hb.new hn, r⟩
end Go.Proofs.YtkjlmibleoecgaaGreatDoor
