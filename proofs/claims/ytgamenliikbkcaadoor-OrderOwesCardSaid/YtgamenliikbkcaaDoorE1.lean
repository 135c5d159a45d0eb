/- What the listed variables of the library hold; small contracts; the program's Owes, walked. -/
import Derived.Test.YtgamenliikbkcaaDoorB1
import Derived.Test.YtgamenliikbkcaaDoorProg
import Derived.Test.YtgamenliikbkcaaDoorRows
import Derived.Stop.LaidErr
import Derived.Lib.LaidTab
import Derived.KernelRfl
import Derived.Test.YtgamenliikbkcaaDoorShelf
import Derived.Lib.ItoaNum
import Derived.Lib.AppendIntMem
import Derived.Lib.SmallJoins
import Derived.Deep.QuietTactic
import Derived.BigQuiet
namespace Go.Proofs.YtgamenliikbkcaaDoor
set_option linter.unusedSimpArgs false
set_option linter.unusedVariables false
open Go.RowKit
theorem tabIs_new {P : Program} {w w' : World} (hn : New w w') {name : String} {k : IntKind} {zs : List Int} (h : Lib.TabIs P w name k zs) : Lib.TabIs P w' name k zs := by
  unfold Lib.TabIs World.var? at *
  cases hg : P.globalNamed name with
  | none => simp [hg] at h
  | some g =>
    simp only [hg, Option.bind_some] at h ⊢
    have hlt : g < w.heap.size := by
      rcases Nat.lt_or_ge g w.heap.size with h' | h'
      · exact h'
      · rw [Array.getElem?_eq_none h'] at h; simp at h
    rw [Below.block hn g hlt]
    exact h
def Laid (W : World) : Prop := Lib.TabIs Tryd.prog W "internal/strconv.uint64pow10" .u64 Lib.pow10Tab
theorem Laid.new {w w' : World} (h : Laid w) (hn : New w w') : Laid w' := tabIs_new hn h
theorem laid_of {W : World} {a b : DataW Unit} (h : laidMet Tryd.prog [("math/bits.deBruijn32tab", a), ("math/bits.deBruijn64tab", b), ("internal/strconv.uint64pow10", Rows.laid_internal_strconv_uint64pow10)] W) : Laid W := by
  have h3 := h.tail.tail
  refine Lib.tabIs_of_head (g := 0) (t := 62) (e := 52) (n := 20) (by kernel_rfl) (by kernel_rfl) Tryd.underlying62 Tryd.underlying52 (by kernel_rfl) (by kernel_rfl) (rest := []) ?_
  exact h3
def five : ByteArray := ⟨#[53]⟩
def lockS : ByteArray := ⟨#[108, 111, 99, 107]⟩
def lock5 : ByteArray := ⟨#[108, 111, 99, 107, 32, 53]⟩
theorem itoa5 : (⟨(Lib.itoa 5).toArray⟩ : ByteArray) = five := by
  unfold Lib.itoa
  rw [if_neg (by decide)]
  rw [show (5 : Int).toNat = 5 from rfl]
  unfold Lib.decDigits
  rfl
theorem itoa_c (w : World) (L : Laid w) : Calls Tryd.prog 7 #[.int .i64 5] w fun e w' => e = .returned (.string five) ∧ New w w' :=
  (Tryd.strconv_Itoa 5 (by omega) (by omega) w L).mono fun e w' hh => by
    obtain ⟨h1, k, os, rfl⟩ := hh
    rw [itoa5] at h1
    exact ⟨h1, Lib.below_grow _ _ (Nat.le_refl _) _ _⟩
set_option maxHeartbeats 1000000 in
theorem join_c (b o c : Nat) (w : World) (hb : b < w.heap.size) (hc : 2 ≤ c) (h0 : w.cell? ⟨b, o, none⟩ = some (.string lockS)) (h1 : w.cell? ⟨b, o + 1, none⟩ = some (.string five)) :
    Calls Tryd.prog 10 #[.slice (some ⟨b, o, none⟩) 2 c] w fun e w' => e = .returned (.string lock5) ∧ New w w' := by
  have HC : Hid (Calls Tryd.prog 9 #[.slice (some ⟨b, o, none⟩) 2 c, .string ⟨#[32]⟩] w fun e w' => e = .returned (.string lock5) ∧ New w w') := Lib.hid (by
    have := Tryd.strings_Join b o c [lockS, five] ⟨#[32]⟩ w (fun j x hj => by
      match j, hj with
      | 0, hj => injection hj with hj; subst hj; exact h0
      | 1, hj => injection hj with hj; subst hj; exact h1) hb (by decide) hc (by decide)
    exact this)
  clear h0 h1
  go_enter Tryd.func10, Tryd.ntmps10
  go_wp2_with fail
  refine HC.out.mono ?_
  rintro e w1 ⟨rfl, hn⟩
  have HN := Lib.hid hn
  clear hn
  go_wp2
  go_ret
  exact ⟨rfl, HN.out⟩
def sE : Value := .string ⟨#[]⟩
/-- An Ask of steps. -/
def stepA (buy : Bool) (q p : Int) : Array Value := #[.int .i64 2, .int .i64 0, .int .i64 0, sE, .int .i64 0, .int .i64 0, .int .i64 0, .bool buy, .int .i64 q, .int .i64 p, sE, .int .i64 0, .int .i64 0, .bool false, .int .i64 0, .slice none 0 0, .int .i64 0, .int .i64 0]
/-- An Ask of a block. -/
def blockA (buy : Bool) (p : Int) (v : Value) : Array Value := #[.int .i64 3, .int .i64 0, .int .i64 0, sE, .int .i64 0, .int .i64 0, .int .i64 0, .bool false, .int .i64 0, .int .i64 0, sE, .int .i64 0, .int .i64 0, .bool buy, .int .i64 p, v, .int .i64 0, .int .i64 0]
/-- The Ask of a lock of 5. -/
def lockA : Array Value := #[.int .i64 1, .int .i64 5, .int .i64 0, sE, .int .i64 0, .int .i64 0, .int .i64 0, .bool false, .int .i64 0, .int .i64 0, sE, .int .i64 0, .int .i64 0, .bool false, .int .i64 0, .slice none 0 0, .int .i64 0, .int .i64 0]
/-- What one unit may cost. -/
def unitC (buy : Bool) (p : Int) : Int := max (if buy then p else -p) 0
theorem wrap_mul {r q : Int} (r0 : 0 ≤ r) (r1 : r ≤ 1000000) (q0 : 0 ≤ q) (q1 : q ≤ 131070) : IntKind.i64.wrap (r * q) = r * q := by
  have h1 : r * q ≤ 1000000 * q := Int.mul_le_mul_of_nonneg_right r1 q0
  have h0 : 0 ≤ r * q := Int.mul_nonneg r0 q0
  rw [IntKind.wrap_i64]
  omega
set_option maxHeartbeats 4000000 in
theorem owes_lock (w : World) : Calls Tryd.prog 4 #[.agg lockA] w fun e w' => e = .returned (.int .i64 0) ∧ New w w' := by
  unfold lockA
  go_enter Tryd.func4, Tryd.ntmps4
  go_wp2
  obtain ⟨W1, hW1⟩ : ∃ X, X = w.alloc (.cells #[.int .i64 1, .int .i64 5, .int .i64 0, sE, .int .i64 0, .int .i64 0, .int .i64 0, .bool false, .int .i64 0, .int .i64 0, sE, .int .i64 0, .int .i64 0, .bool false, .int .i64 0, .slice none 0 0, .int .i64 0, .int .i64 0] 29) := ⟨_, rfl⟩
  have HB : Hid (Box W1 w.heap.size #[.int .i64 1, .int .i64 5, .int .i64 0, sE, .int .i64 0, .int .i64 0, .int .i64 0, .bool false, .int .i64 0, .int .i64 0, sE, .int .i64 0, .int .i64 0, .bool false, .int .i64 0, .slice none 0 0, .int .i64 0, .int .i64 0] 29) := Lib.hid (by rw [hW1]; exact Box.last _ _ _)
  have HN : Hid (New w W1) := Lib.hid (by rw [hW1]; exact (New.refl w).alloc _)
  rw [← hW1]
  clear hW1
  have c0 : W1.cell? ⟨w.heap.size, 0, none⟩ = some (.int .i64 1) := HB.out.cell 0
  have c7 : W1.cell? ⟨w.heap.size, 7, none⟩ = some (.bool false) := HB.out.cell 7
  have c8 : W1.cell? ⟨w.heap.size, 8, none⟩ = some (.int .i64 0) := HB.out.cell 8
  have c9 : W1.cell? ⟨w.heap.size, 9, none⟩ = some (.int .i64 0) := HB.out.cell 9
  have HNq := Lib.hid (fun nq => HN.out.trans ((New.refl W1).drewN nq))
  go_quiet (fail)
  go_wp2
  go_ret
  exact ⟨rfl, HNq.out nq⟩
def intOf : Value → Int | .int _ q => q | _ => 0
theorem wrap64_mul {r q : Int} (r0 : 0 ≤ r) (r1 : r ≤ 1000000) (q0 : 0 ≤ q) (q1 : q ≤ 131070) : wrap64 (r * q) = r * q := by
  have h1 : r * q ≤ 1000000 * q := Int.mul_le_mul_of_nonneg_right r1 q0
  have h0 : 0 ≤ r * q := Int.mul_nonneg r0 q0
  unfold wrap64
  omega
theorem ret_cost {buy : Bool} {p q r : Int} (hr : r = unitC buy p) (p0 : -1000000 ≤ p) (p1 : p ≤ 1000000) (q0 : 0 ≤ q) (q1 : q ≤ 131070) : Ending.returned (.int .i64 (wrap64 (r * q))) = .returned (.int .i64 (unitC buy p * q)) := by
  subst hr
  rw [wrap64_mul (by unfold unitC; omega) (by unfold unitC; split <;> omega) q0 q1]
set_option maxHeartbeats 4000000 in
theorem owes_step (buy : Bool) (q p : Int) (w : World) (p0 : -1000000 ≤ p) (p1 : p ≤ 1000000) (q0 : 0 ≤ q) (q1 : q ≤ 131070) : Calls Tryd.prog 4 #[.agg (stepA buy q p)] w fun e w' => e = .returned (.int .i64 (unitC buy p * q)) ∧ New w w' := by
  unfold stepA
  have HE := Lib.hid (fun r hr => ret_cost (buy := buy) (p := p) (q := q) (r := r) hr p0 p1 q0 q1)
  generalize unitC buy p * q = R at *
  cases buy
  · go_enter Tryd.func4, Tryd.ntmps4
    go_wp2
    obtain ⟨W1, hW1⟩ : ∃ X, X = w.alloc (.cells #[.int .i64 2, .int .i64 0, .int .i64 0, sE, .int .i64 0, .int .i64 0, .int .i64 0, .bool false, .int .i64 q, .int .i64 p, sE, .int .i64 0, .int .i64 0, .bool false, .int .i64 0, .slice none 0 0, .int .i64 0, .int .i64 0] 29) := ⟨_, rfl⟩
    have HB : Hid (Box W1 w.heap.size #[.int .i64 2, .int .i64 0, .int .i64 0, sE, .int .i64 0, .int .i64 0, .int .i64 0, .bool false, .int .i64 q, .int .i64 p, sE, .int .i64 0, .int .i64 0, .bool false, .int .i64 0, .slice none 0 0, .int .i64 0, .int .i64 0] 29) := Lib.hid (by rw [hW1]; exact Box.last _ _ _)
    have HN : Hid (New w W1) := Lib.hid (by rw [hW1]; exact (New.refl w).alloc _)
    rw [← hW1]
    clear hW1
    have c0 : W1.cell? ⟨w.heap.size, 0, none⟩ = some (.int .i64 2) := HB.out.cell 0
    have c7 : W1.cell? ⟨w.heap.size, 7, none⟩ = some (.bool false) := HB.out.cell 7
    have c8 : W1.cell? ⟨w.heap.size, 8, none⟩ = some (.int .i64 q) := HB.out.cell 8
    have c9 : W1.cell? ⟨w.heap.size, 9, none⟩ = some (.int .i64 p) := HB.out.cell 9
    have HNq := Lib.hid (fun nq => HN.out.trans ((New.refl W1).drewN nq))
    go_quiet (fail)
    go_wp2
    go_ret
    exact ⟨HE.out _ (by simp [unitC]), HNq.out nq⟩
  · go_enter Tryd.func4, Tryd.ntmps4
    go_wp2
    obtain ⟨W1, hW1⟩ : ∃ X, X = w.alloc (.cells #[.int .i64 2, .int .i64 0, .int .i64 0, sE, .int .i64 0, .int .i64 0, .int .i64 0, .bool true, .int .i64 q, .int .i64 p, sE, .int .i64 0, .int .i64 0, .bool false, .int .i64 0, .slice none 0 0, .int .i64 0, .int .i64 0] 29) := ⟨_, rfl⟩
    have HB : Hid (Box W1 w.heap.size #[.int .i64 2, .int .i64 0, .int .i64 0, sE, .int .i64 0, .int .i64 0, .int .i64 0, .bool true, .int .i64 q, .int .i64 p, sE, .int .i64 0, .int .i64 0, .bool false, .int .i64 0, .slice none 0 0, .int .i64 0, .int .i64 0] 29) := Lib.hid (by rw [hW1]; exact Box.last _ _ _)
    have HN : Hid (New w W1) := Lib.hid (by rw [hW1]; exact (New.refl w).alloc _)
    rw [← hW1]
    clear hW1
    have c0 : W1.cell? ⟨w.heap.size, 0, none⟩ = some (.int .i64 2) := HB.out.cell 0
    have c7 : W1.cell? ⟨w.heap.size, 7, none⟩ = some (.bool true) := HB.out.cell 7
    have c8 : W1.cell? ⟨w.heap.size, 8, none⟩ = some (.int .i64 q) := HB.out.cell 8
    have c9 : W1.cell? ⟨w.heap.size, 9, none⟩ = some (.int .i64 p) := HB.out.cell 9
    have HNq := Lib.hid (fun nq => HN.out.trans ((New.refl W1).drewN nq))
    go_quiet (fail)
    go_wp2
    go_ret
    exact ⟨HE.out _ (by simp [unitC]), HNq.out nq⟩
set_option maxHeartbeats 4000000 in
theorem owes_block (buy : Bool) (p : Int) (b o c : Nat) (x y : Int) (w : World) (hb : b < w.heap.size) (hc0 : w.cell? ⟨b, o, none⟩ = some (.int .i64 x)) (hc1 : w.cell? ⟨b, o + 1, none⟩ = some (.int .i64 y)) (p0 : -1000000 ≤ p) (p1 : p ≤ 1000000) (x0 : 0 ≤ x) (x1 : x ≤ 65535) (y0 : 0 ≤ y) (y1 : y ≤ 65535) : Calls Tryd.prog 4 #[.agg (blockA buy p (.slice (some ⟨b, o, none⟩) 2 c))] w fun e w' => e = .returned (.int .i64 (unitC buy p * (x + y))) ∧ New w w' := by
  unfold blockA
  have HE := Lib.hid (fun r hr => ret_cost (buy := buy) (p := p) (q := x + y) (r := r) hr p0 p1 (by omega) (by omega))
  generalize unitC buy p * (x + y) = R at *
  cases buy
  · go_enter Tryd.func4, Tryd.ntmps4
    go_wp2
    obtain ⟨W1, hW1⟩ : ∃ X, X = w.alloc (.cells #[.int .i64 3, .int .i64 0, .int .i64 0, sE, .int .i64 0, .int .i64 0, .int .i64 0, .bool false, .int .i64 0, .int .i64 0, sE, .int .i64 0, .int .i64 0, .bool false, .int .i64 p, .slice (some ⟨b, o, none⟩) 2 c, .int .i64 0, .int .i64 0] 29) := ⟨_, rfl⟩
    have HB : Hid (Box W1 w.heap.size #[.int .i64 3, .int .i64 0, .int .i64 0, sE, .int .i64 0, .int .i64 0, .int .i64 0, .bool false, .int .i64 0, .int .i64 0, sE, .int .i64 0, .int .i64 0, .bool false, .int .i64 p, .slice (some ⟨b, o, none⟩) 2 c, .int .i64 0, .int .i64 0] 29) := Lib.hid (by rw [hW1]; exact Box.last _ _ _)
    have HN : Hid (New w W1) := Lib.hid (by rw [hW1]; exact (New.refl w).alloc _)
    have s0 : W1.cell? ⟨b, o, none⟩ = some (.int .i64 x) := by rw [hW1]; exact ((New.refl w).alloc _).still hc0
    have s1 : W1.cell? ⟨b, o + 1, none⟩ = some (.int .i64 y) := by rw [hW1]; exact ((New.refl w).alloc _).still hc1
    rw [← hW1]
    clear hW1
    have c0 : W1.cell? ⟨w.heap.size, 0, none⟩ = some (.int .i64 3) := HB.out.cell 0
    have c7 : W1.cell? ⟨w.heap.size, 7, none⟩ = some (.bool false) := HB.out.cell 7
    have c8 : W1.cell? ⟨w.heap.size, 8, none⟩ = some (.int .i64 0) := HB.out.cell 8
    have c9 : W1.cell? ⟨w.heap.size, 9, none⟩ = some (.int .i64 0) := HB.out.cell 9
    have c13 : W1.cell? ⟨w.heap.size, 13, none⟩ = some (.bool false) := HB.out.cell 13
    have c14 : W1.cell? ⟨w.heap.size, 14, none⟩ = some (.int .i64 p) := HB.out.cell 14
    have c15 : W1.cell? ⟨w.heap.size, 15, none⟩ = some (.slice (some ⟨b, o, none⟩) 2 c) := HB.out.cell 15
    have HNq := Lib.hid (fun nq => HN.out.trans ((New.refl W1).drewN nq))
    go_quiet (fail)
    go_wp2
    obtain ⟨W2, hW2⟩ : ∃ X, X = W1.drewN nq := ⟨_, rfl⟩
    have HN2 : Hid (New w W2) := Lib.hid (by rw [hW2]; exact HNq.out nq)
    have d13 : W2.cell? ⟨w.heap.size, 13, none⟩ = some (.bool false) := by rw [hW2]; exact c13
    have d14 : W2.cell? ⟨w.heap.size, 14, none⟩ = some (.int .i64 p) := by rw [hW2]; exact c14
    have d15 : W2.cell? ⟨w.heap.size, 15, none⟩ = some (.slice (some ⟨b, o, none⟩) 2 c) := by rw [hW2]; exact c15
    have s0 : W2.cell? ⟨b, o, none⟩ = some (.int .i64 x) := by rw [hW2]; exact s0
    have s1 : W2.cell? ⟨b, o + 1, none⟩ = some (.int .i64 y) := by rw [hW2]; exact s1
    rw [← hW2]
    clear hW2 c0 c7 c8 c9 c13 c14 c15 HNq HN HB hc0 hc1
    have HNq := Lib.hid (fun nq => HN2.out.trans ((New.refl W2).drewN nq))
    go_quiet (fail)
    obtain ⟨W3, hW3⟩ : ∃ X, X = W2.drewN nq := ⟨_, rfl⟩
    have HN3 : Hid (New w W3) := Lib.hid (by rw [hW3]; exact HNq.out _)
    have d15 : W3.cell? ⟨w.heap.size, 15, none⟩ = some (.slice (some ⟨b, o, none⟩) 2 c) := by rw [hW3]; exact d15
    have s0 : W3.cell? ⟨b, o, none⟩ = some (.int .i64 x) := by rw [hW3]; exact s0
    have s1 : W3.cell? ⟨b, o + 1, none⟩ = some (.int .i64 y) := by rw [hW3]; exact s1
    rw [← hW3]
    clear hW3 d13 d14 HNq HN2
    go_wp2
    go_loopw [4, 33] (fun v4 v33 W => W = W3 ∧ ((v4 = .int .i64 0 ∧ v33 = .int .i64 0) ∨ (v4 = .int .i64 x ∧ v33 = .int .i64 1) ∨ (v4 = .int .i64 (x + y) ∧ v33 = .int .i64 2))) (fun _ v33 _ => 2 - (intOf v33).toNat)
    case atStart => exact ⟨rfl, .inl ⟨rfl, rfl⟩⟩
    case round =>
      obtain ⟨rfl, ⟨rfl, rfl⟩ | ⟨rfl, rfl⟩ | ⟨rfl, rfl⟩⟩ := hrel
      · go_wp2
        go_roundw
        case rel => exact ⟨trivial, .inr (.inl ⟨by go_num, by go_num⟩)⟩
        case measure => simp [intOf]
      · go_wp2
        go_roundw
        case rel => exact ⟨trivial, .inr (.inr ⟨by go_num, by go_num⟩)⟩
        case measure => simp [intOf]
      · go_wp2
        go_ret
        exact ⟨HE.out _ (by simp [unitC]), HN3.out⟩
  · go_enter Tryd.func4, Tryd.ntmps4
    go_wp2
    obtain ⟨W1, hW1⟩ : ∃ X, X = w.alloc (.cells #[.int .i64 3, .int .i64 0, .int .i64 0, sE, .int .i64 0, .int .i64 0, .int .i64 0, .bool false, .int .i64 0, .int .i64 0, sE, .int .i64 0, .int .i64 0, .bool true, .int .i64 p, .slice (some ⟨b, o, none⟩) 2 c, .int .i64 0, .int .i64 0] 29) := ⟨_, rfl⟩
    have HB : Hid (Box W1 w.heap.size #[.int .i64 3, .int .i64 0, .int .i64 0, sE, .int .i64 0, .int .i64 0, .int .i64 0, .bool false, .int .i64 0, .int .i64 0, sE, .int .i64 0, .int .i64 0, .bool true, .int .i64 p, .slice (some ⟨b, o, none⟩) 2 c, .int .i64 0, .int .i64 0] 29) := Lib.hid (by rw [hW1]; exact Box.last _ _ _)
    have HN : Hid (New w W1) := Lib.hid (by rw [hW1]; exact (New.refl w).alloc _)
    have s0 : W1.cell? ⟨b, o, none⟩ = some (.int .i64 x) := by rw [hW1]; exact ((New.refl w).alloc _).still hc0
    have s1 : W1.cell? ⟨b, o + 1, none⟩ = some (.int .i64 y) := by rw [hW1]; exact ((New.refl w).alloc _).still hc1
    rw [← hW1]
    clear hW1
    have c0 : W1.cell? ⟨w.heap.size, 0, none⟩ = some (.int .i64 3) := HB.out.cell 0
    have c7 : W1.cell? ⟨w.heap.size, 7, none⟩ = some (.bool false) := HB.out.cell 7
    have c8 : W1.cell? ⟨w.heap.size, 8, none⟩ = some (.int .i64 0) := HB.out.cell 8
    have c9 : W1.cell? ⟨w.heap.size, 9, none⟩ = some (.int .i64 0) := HB.out.cell 9
    have c13 : W1.cell? ⟨w.heap.size, 13, none⟩ = some (.bool true) := HB.out.cell 13
    have c14 : W1.cell? ⟨w.heap.size, 14, none⟩ = some (.int .i64 p) := HB.out.cell 14
    have c15 : W1.cell? ⟨w.heap.size, 15, none⟩ = some (.slice (some ⟨b, o, none⟩) 2 c) := HB.out.cell 15
    have HNq := Lib.hid (fun nq => HN.out.trans ((New.refl W1).drewN nq))
    go_quiet (fail)
    go_wp2
    obtain ⟨W2, hW2⟩ : ∃ X, X = W1.drewN nq := ⟨_, rfl⟩
    have HN2 : Hid (New w W2) := Lib.hid (by rw [hW2]; exact HNq.out nq)
    have d13 : W2.cell? ⟨w.heap.size, 13, none⟩ = some (.bool true) := by rw [hW2]; exact c13
    have d14 : W2.cell? ⟨w.heap.size, 14, none⟩ = some (.int .i64 p) := by rw [hW2]; exact c14
    have d15 : W2.cell? ⟨w.heap.size, 15, none⟩ = some (.slice (some ⟨b, o, none⟩) 2 c) := by rw [hW2]; exact c15
    have s0 : W2.cell? ⟨b, o, none⟩ = some (.int .i64 x) := by rw [hW2]; exact s0
    have s1 : W2.cell? ⟨b, o + 1, none⟩ = some (.int .i64 y) := by rw [hW2]; exact s1
    rw [← hW2]
    clear hW2 c0 c7 c8 c9 c13 c14 c15 HNq HN HB hc0 hc1
    have HNq := Lib.hid (fun nq => HN2.out.trans ((New.refl W2).drewN nq))
    go_quiet (fail)
    obtain ⟨W3, hW3⟩ : ∃ X, X = W2.drewN nq := ⟨_, rfl⟩
    have HN3 : Hid (New w W3) := Lib.hid (by rw [hW3]; exact HNq.out _)
    have d15 : W3.cell? ⟨w.heap.size, 15, none⟩ = some (.slice (some ⟨b, o, none⟩) 2 c) := by rw [hW3]; exact d15
    have s0 : W3.cell? ⟨b, o, none⟩ = some (.int .i64 x) := by rw [hW3]; exact s0
    have s1 : W3.cell? ⟨b, o + 1, none⟩ = some (.int .i64 y) := by rw [hW3]; exact s1
    rw [← hW3]
    clear hW3 d13 d14 HNq HN2
    go_wp2
    go_loopw [4, 33] (fun v4 v33 W => W = W3 ∧ ((v4 = .int .i64 0 ∧ v33 = .int .i64 0) ∨ (v4 = .int .i64 x ∧ v33 = .int .i64 1) ∨ (v4 = .int .i64 (x + y) ∧ v33 = .int .i64 2))) (fun _ v33 _ => 2 - (intOf v33).toNat)
    case atStart => exact ⟨rfl, .inl ⟨rfl, rfl⟩⟩
    case round =>
      obtain ⟨rfl, ⟨rfl, rfl⟩ | ⟨rfl, rfl⟩ | ⟨rfl, rfl⟩⟩ := hrel
      · go_wp2
        go_roundw
        case rel => exact ⟨trivial, .inr (.inl ⟨by go_num, by go_num⟩)⟩
        case measure => simp [intOf]
      · go_wp2
        go_roundw
        case rel => exact ⟨trivial, .inr (.inr ⟨by go_num, by go_num⟩)⟩
        case measure => simp [intOf]
      · go_wp2
        go_ret
        exact ⟨HE.out _ (by simp [unitC]), HN3.out⟩
end Go.Proofs.YtgamenliikbkcaaDoor
