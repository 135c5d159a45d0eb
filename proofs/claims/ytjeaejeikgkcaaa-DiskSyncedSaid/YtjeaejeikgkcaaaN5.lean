/- The reference's disk: Cut, Fail, Power walked. -/
import Derived.Test.YtjeaejeikgkcaaaN4
namespace Go.Proofs.Ytjeaejeikgkcaaa
set_option linter.unusedSimpArgs false
set_option linter.unusedVariables false
open Go.RowKit
section
variable {w w' : World} {p : Nat} {F S : Nat → Prop} {d : DS} {l : List Nat}
theorem Rdk.only {r : RS} {a b c : Value} (h : Rdk w p F r a b c) {w' : World} (hb : But (Onl p) w w') : But F w w' := hb.more fun k hk => by
  obtain rfl : k = p := hk
  exact h.fp
set_option maxHeartbeats 1000000 in
theorem rpower_c (h : RQ w p F d l) : Calls Try.prog 31 #[.pointer (some ⟨p, 0, none⟩)] w fun e w' => e = .returned (.tuple #[]) ∧ RQ w' p F { d with dead := false, failing := false, cut := -1, fail := -1 } l ∧ But F w w' := by
  obtain ⟨r, a, b, c, h1, h2⟩ := h
  have k9 : w.cell? ⟨p, 9, none⟩ = _ := h1.cell 9
  have k10 : w.cell? ⟨p, 10, none⟩ = _ := h1.cell 10
  have k4 : w.cell? ⟨p, 4, none⟩ = _ := h1.cell 4
  have k5 : w.cell? ⟨p, 5, none⟩ = _ := h1.cell 5
  have k6 : w.cell? ⟨p, 6, none⟩ = _ := h1.cell 6
  have k7 : w.cell? ⟨p, 7, none⟩ = _ := h1.cell 7
  simp only [rcells, List.getElem?_cons_succ, List.getElem?_cons_zero] at k4 k5 k6 k7 k9 k10
  have f9 := h1.frozen 9
  have f10 := h1.frozen 10
  have f4 := h1.frozen 4
  have f5 := h1.frozen 5
  have f6 := h1.frozen 6
  have f7 := h1.frozen 7
  have HR := Lib.hid ((((((h1.put 9 (.bool false) (r' := { r with gone := false }) rfl rfl rfl rfl).put 10 (.bool false) (r' := { r with gone := false, broken := false }) rfl rfl rfl rfl).put 4 (.bool false) (r' := { r with gone := false, broken := false, ci := false }) rfl rfl rfl rfl).put 5 (.int .i64 0) (r' := { r with gone := false, broken := false, ci := false, cl := 0 }) rfl rfl rfl rfl).put 6 (.bool false) (r' := { r with gone := false, broken := false, ci := false, cl := 0, fi := false }) rfl rfl rfl rfl).put 7 (.int .i64 0) (r' := { r with gone := false, broken := false, ci := false, cl := 0, fi := false, fl := 0 }) rfl rfl rfl rfl)
  have HB := Lib.hid (h1.only ((((((((But.refl (Onl p) w).set (p := p) (i := 9) rfl (.bool false)).set (p := p) (i := 10) rfl (.bool false)).set (p := p) (i := 4) rfl (.bool false)).set (p := p) (i := 5) rfl (.int .i64 0))).set (p := p) (i := 6) rfl (.bool false)).set (p := p) (i := 7) rfl (.int .i64 0)))
  have HQ : Hid (Rel { d with dead := false, failing := false, cut := -1, fail := -1 } l { r with gone := false, broken := false, ci := false, cl := 0, fi := false, fl := 0 }) := Lib.hid { h2 with cut := rfl, fail := rfl, c0 := nofun, f0 := nofun, c1 := by have := h2.o0; show -d.ops ≤ 0; omega, f1 := by have := h2.o0; show -d.ops ≤ 0; omega, c2 := by show (0 : Int) ≤ _; decide, f2 := by show (0 : Int) ≤ _; decide, gone := rfl, broken := rfl }
  clear h1 h2
  go_enter Try.func31, Try.ntmps31
  go_wp2
  go_end0
  exact ⟨rfl, ⟨_, _, _, _, HR.out, HQ.out⟩, HB.out⟩
set_option maxHeartbeats 1000000 in
theorem rcut_c (h : RQ w p F d l) (n keep : Int) (hn : n ≤ 9223372036854775807) (hk0 : 0 ≤ keep) (hk1 : keep < 18446744073709551616) : Calls Try.prog 28 #[.pointer (some ⟨p, 0, none⟩), .int .i64 n, .int .u64 keep] w fun e w' => e = .returned (.tuple #[]) ∧ RQ w' p F { d with cut := max n 0, keep := keep } l ∧ But F w w' := by
  obtain ⟨r, a, b, c, h1, h2⟩ := h
  have k4 : w.cell? ⟨p, 4, none⟩ = _ := h1.cell 4
  have k5 : w.cell? ⟨p, 5, none⟩ = _ := h1.cell 5
  have k8 : w.cell? ⟨p, 8, none⟩ = _ := h1.cell 8
  simp only [rcells, List.getElem?_cons_succ, List.getElem?_cons_zero] at k4 k5 k8
  have f4 := h1.frozen 4
  have f5 := h1.frozen 5
  have f8 := h1.frozen 8
  rw [show max n 0 = max 0 n by omega]
  obtain ⟨m, hm⟩ : ∃ m, m = max 0 n := ⟨_, rfl⟩
  have HR := Lib.hid (((h1.put 4 (.bool true) (r' := { r with ci := true }) rfl rfl rfl rfl).put 5 (.int .i64 m) (r' := { r with ci := true, cl := m }) rfl rfl rfl rfl).put 8 (.int .u64 keep) (r' := { r with ci := true, cl := m, keep := keep }) rfl rfl rfl rfl)
  have HB := Lib.hid (h1.only ((((But.refl (Onl p) w).set (p := p) (i := 4) rfl (.bool true)).set (p := p) (i := 5) rfl (.int .i64 m)).set (p := p) (i := 8) rfl (.int .u64 keep)))
  have HQ : Hid (Rel { d with cut := m, keep := keep } l { r with ci := true, cl := m, keep := keep }) := Lib.hid { h2 with cut := rfl, c0 := fun _ => by show 0 ≤ m; omega, c1 := by have := h2.o0; show -d.ops ≤ m; omega, c2 := by show m ≤ _; omega, keep := rfl, k0 := hk0, k1 := hk1 }
  rw [← hm]
  clear h1 h2
  have HM := Lib.hid hm
  clear hm
  go_enter Try.func28, Try.ntmps28
  go_wp2
  go_end0
  rw [← HM.out]
  exact ⟨rfl, ⟨_, _, _, _, HR.out, HQ.out⟩, HB.out⟩
set_option maxHeartbeats 1000000 in
theorem rfail_c (h : RQ w p F d l) (n : Int) (hn : n ≤ 9223372036854775807) : Calls Try.prog 29 #[.pointer (some ⟨p, 0, none⟩), .int .i64 n] w fun e w' => e = .returned (.tuple #[]) ∧ RQ w' p F { d with fail := max n 0 } l ∧ But F w w' := by
  obtain ⟨r, a, b, c, h1, h2⟩ := h
  have k4 : w.cell? ⟨p, 6, none⟩ = _ := h1.cell 6
  have k5 : w.cell? ⟨p, 7, none⟩ = _ := h1.cell 7
  simp only [rcells, List.getElem?_cons_succ, List.getElem?_cons_zero] at k4 k5
  have f4 := h1.frozen 6
  have f5 := h1.frozen 7
  rw [show max n 0 = max 0 n by omega]
  obtain ⟨m, hm⟩ : ∃ m, m = max 0 n := ⟨_, rfl⟩
  have HR := Lib.hid ((h1.put 6 (.bool true) (r' := { r with fi := true }) rfl rfl rfl rfl).put 7 (.int .i64 m) (r' := { r with fi := true, fl := m }) rfl rfl rfl rfl)
  have HB := Lib.hid (h1.only (((But.refl (Onl p) w).set (p := p) (i := 6) rfl (.bool true)).set (p := p) (i := 7) rfl (.int .i64 m)))
  have HQ : Hid (Rel { d with fail := m } l { r with fi := true, fl := m }) := Lib.hid { h2 with fail := rfl, f0 := fun _ => by show 0 ≤ m; omega, f1 := by have := h2.o0; show -d.ops ≤ m; omega, f2 := by show m ≤ _; omega }
  rw [← hm]
  clear h1 h2
  have HM := Lib.hid hm
  clear hm
  go_enter Try.func29, Try.ntmps29
  go_wp2
  go_end0
  rw [← HM.out]
  exact ⟨rfl, ⟨_, _, _, _, HR.out, HQ.out⟩, HB.out⟩
end
end Go.Proofs.Ytjeaejeikgkcaaa
