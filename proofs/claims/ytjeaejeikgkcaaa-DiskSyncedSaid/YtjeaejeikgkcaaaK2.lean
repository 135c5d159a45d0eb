/- The disk's small methods, walked. -/
import Derived.Test.YtjeaejeikgkcaaaK1
namespace Go.Proofs.Ytjeaejeikgkcaaa
set_option linter.unusedSimpArgs false
set_option linter.unusedVariables false
open Go.RowKit

/-- The disk's block alone. -/
def Onl (p k : Nat) : Prop := k = p
/-- Is there such a sector? -/
def fitB (i : Int) : Bool := decide (0 ≤ i) && decide (i < 256)
theorem fitB_yes {i : Int} (h0 : 0 ≤ i) (h1 : i < 256) : fitB i = true := by unfold fitB; simp; omega
theorem fitB_no {i : Int} (h : ¬ (0 ≤ i ∧ i < 256)) : fitB i = false := by unfold fitB; simp; omega
set_option maxHeartbeats 400000 in
theorem fits_c (i : Int) (w : World) : Calls Try.prog 24 #[.int .i64 i] w fun e w' => e = .returned (.bool (fitB i)) ∧ w = w' := by
  by_cases h0 : 0 ≤ i
  · by_cases h1 : i < 256
    · have H := Lib.hid (fitB_yes h0 h1)
      go_enter Try.func24, Try.ntmps24
      go_wp2
      go_ret
      exact ⟨by rw [H.out]; rfl, rfl⟩
    · have H := Lib.hid (fitB_no (i := i) (by omega))
      go_enter Try.func24, Try.ntmps24
      go_wp2
      go_ret
      exact ⟨by rw [H.out]; rfl, rfl⟩
  · have H := Lib.hid (fitB_no (i := i) (by omega))
    go_enter Try.func24, Try.ntmps24
    go_wp2
    go_ret
    exact ⟨by rw [H.out]; rfl, rfl⟩
section
variable {w : World} {p : Nat} {d : DS} {c : Value}
set_option maxHeartbeats 400000 in
theorem dead_c (h : DB w p d c) : Calls Try.prog 13 #[.pointer (some ⟨p, 0, none⟩)] w fun e w' => e = .returned (.bool d.dead) ∧ w = w' := by
  have k := h.dead
  go_enter Try.func13, Try.ntmps13
  go_wp2
  go_ret
  exact ⟨rfl, rfl⟩
set_option maxHeartbeats 400000 in
theorem ops_c (h : DB w p d c) : Calls Try.prog 14 #[.pointer (some ⟨p, 0, none⟩)] w fun e w' => e = .returned (.int .i64 d.ops) ∧ w = w' := by
  have k := h.ops
  go_enter Try.func14, Try.ntmps14
  go_wp2
  go_ret
  exact ⟨rfl, rfl⟩
set_option maxHeartbeats 400000 in
theorem cut_c (h : DB w p d c) (n keep : Int) : Calls Try.prog 10 #[.pointer (some ⟨p, 0, none⟩), .int .i64 n, .int .u64 keep] w fun e w' => e = .returned (.tuple #[]) ∧ DB w' p { d with cut := max n 0, keep := keep } c ∧ But (Onl p) w w' := by
  have k1 := h.cut
  have k2 := h.keep
  have f1 := h.frozen 514
  have f2 := h.frozen 516
  have hb := (But.refl (Onl p) w)
  rcases Int.lt_or_le n 0 with hn | hn
  · have hm : max n 0 = 0 := by omega
    have HR := Lib.hid (h.putCut 0 |>.putKeep keep)
    have HB := Lib.hid ((hb.set (p := p) (i := 514) rfl (.int .i64 0)).set (p := p) (i := 516) rfl (.int .u64 keep))
    have HM := Lib.hid hm
    clear h hb hm
    go_enter Try.func10, Try.ntmps10
    go_wp2
    go_end0
    exact ⟨rfl, by rw [HM.out]; exact HR.out, HB.out⟩
  · have hm : max n 0 = n := by omega
    have HR := Lib.hid (h.putCut n |>.putKeep keep)
    have HB := Lib.hid ((hb.set (p := p) (i := 514) rfl (.int .i64 n)).set (p := p) (i := 516) rfl (.int .u64 keep))
    have HM := Lib.hid hm
    clear h hb hm
    go_enter Try.func10, Try.ntmps10
    go_wp2
    go_end0
    exact ⟨rfl, by rw [HM.out]; exact HR.out, HB.out⟩
set_option maxHeartbeats 400000 in
theorem fail_c (h : DB w p d c) (n : Int) : Calls Try.prog 11 #[.pointer (some ⟨p, 0, none⟩), .int .i64 n] w fun e w' => e = .returned (.tuple #[]) ∧ DB w' p { d with fail := max n 0 } c ∧ But (Onl p) w w' := by
  have k1 := h.fail
  have f1 := h.frozen 515
  have hb := (But.refl (Onl p) w)
  rcases Int.lt_or_le n 0 with hn | hn
  · have hm : max n 0 = 0 := by omega
    have HR := Lib.hid (h.putFail 0)
    have HB := Lib.hid (hb.set (p := p) (i := 515) rfl (.int .i64 0))
    have HM := Lib.hid hm
    clear h hb hm
    go_enter Try.func11, Try.ntmps11
    go_wp2
    go_end0
    exact ⟨rfl, by rw [HM.out]; exact HR.out, HB.out⟩
  · have hm : max n 0 = n := by omega
    have HR := Lib.hid (h.putFail n)
    have HB := Lib.hid (hb.set (p := p) (i := 515) rfl (.int .i64 n))
    have HM := Lib.hid hm
    clear h hb hm
    go_enter Try.func11, Try.ntmps11
    go_wp2
    go_end0
    exact ⟨rfl, by rw [HM.out]; exact HR.out, HB.out⟩
set_option maxHeartbeats 400000 in
theorem power_c (h : DB w p d c) : Calls Try.prog 22 #[.pointer (some ⟨p, 0, none⟩)] w fun e w' => e = .returned (.tuple #[]) ∧ DB w' p { d with dead := false, failing := false, cut := -1, fail := -1 } c ∧ But (Onl p) w w' := by
  have k1 := h.dead
  have k2 := h.failing
  have k3 := h.cut
  have k4 := h.fail
  have f1 := h.frozen 517
  have f2 := h.frozen 518
  have f3 := h.frozen 514
  have f4 := h.frozen 515
  have HR := Lib.hid (((h.putDead false).putFailing false).putCut (-1) |>.putFail (-1))
  have HB := Lib.hid (((((But.refl (Onl p) w).set (p := p) (i := 517) rfl (.bool false)).set (p := p) (i := 518) rfl (.bool false)).set (p := p) (i := 514) rfl (.int .i64 (-1))).set (p := p) (i := 515) rfl (.int .i64 (-1)))
  clear h
  go_enter Try.func22, Try.ntmps22
  go_wp2
  go_end0
  exact ⟨rfl, HR.out, HB.out⟩
set_option maxHeartbeats 400000 in
theorem read_c (h : DB w p d c) (i : Nat) (hi : i < 256) : Calls Try.prog 17 #[.pointer (some ⟨p, 0, none⟩), .int .i64 (i : Int)] w fun e w' => e = .returned (.tuple #[.string (d.is[i]'(by rw [h.l1]; exact hi)), .int .i64 0]) ∧ w = w' := by
  have k := h.is hi
  have H := Lib.hid (fits_c (i : Int))
  have hf := fitB_yes (i := (i : Int)) (by omega) (by omega)
  rw [hf] at H
  generalize d.is[i]'(by rw [h.l1]; exact hi) = s at *
  have q0 : (0 : Int) ≤ (i : Int) := by omega
  have q1 : (i : Int) < 256 := by omega
  clear h hf
  go_enter Try.func17, Try.ntmps17
  go_wp2_with fail
  refine (H.out _).mono ?_
  rintro e w1 ⟨rfl, rfl⟩
  go_wp2
  go_ret2
  exact ⟨rfl, rfl⟩
set_option maxHeartbeats 400000 in
theorem read_no (i : Int) (hi : ¬ (0 ≤ i ∧ i < 256)) : Calls Try.prog 17 #[.pointer (some ⟨p, 0, none⟩), .int .i64 i] w fun e w' => e = .returned (.tuple #[.string ⟨#[]⟩, .int .i64 40]) ∧ w = w' := by
  have H := Lib.hid (fits_c i)
  have hf := fitB_no hi
  rw [hf] at H
  clear hf hi
  go_enter Try.func17, Try.ntmps17
  go_wp2_with fail
  refine (H.out _).mono ?_
  rintro e w1 ⟨rfl, rfl⟩
  go_wp2
  go_ret2
  exact ⟨rfl, rfl⟩
end
end Go.Proofs.Ytjeaejeikgkcaaa
