/- A step of a script, whatever its kind; both disks looked at. -/
import Derived.Test.YtjeaejeikgkcaaaN11
import Derived.Test.YtjeaejeikgkcaaaO1
namespace Go.Proofs.Ytjeaejeikgkcaaa
set_option linter.unusedSimpArgs false
set_option linter.unusedVariables false
open Go.RowKit
def stD (d : DS) (l : List Nat) (o : Stp) : DS :=
  if o.kind = 0 then wrD d l o.i o.s else if o.kind = 1 then syD d l else if o.kind = 2 then { d with cut := max o.i 0, keep := o.keep } else if o.kind = 3 then { d with fail := max o.i 0 } else if o.kind = 4 then crashD d l o.keep else if o.kind = 5 then { d with dead := false, failing := false, cut := -1, fail := -1 } else d
def stL (d : DS) (l : List Nat) (o : Stp) : List Nat :=
  if o.kind = 0 then wrL d l o.i o.s else if o.kind = 1 then syL d l else if o.kind = 4 then crL d l else l
theorem rawD_ops (d : DS) (l : List Nat) : (rawD d l).ops ≤ d.ops + 1 := by
  unfold rawD
  split
  · omega
  split
  · omega
  split
  · unfold crashD; split <;> (show d.ops ≤ _; omega)
  split
  · show d.ops ≤ _; omega
  · exact Int.le_refl _
theorem wrD_ops (d : DS) (l : List Nat) (i : Int) (s : ByteArray) : (wrD d l i s).ops ≤ d.ops + 1 := by
  have := rawD_ops d l
  unfold wrD
  split
  · split
    · exact this
    · exact this
  · omega
theorem syD_ops (d : DS) (l : List Nat) : (syD d l).ops ≤ d.ops + 1 := by
  have := rawD_ops d l
  unfold syD
  split
  · exact this
  · exact this
theorem stD_ops (d : DS) (l : List Nat) (o : Stp) : (stD d l o).ops ≤ d.ops + 1 := by
  unfold stD
  split
  · exact wrD_ops _ _ _ _
  split
  · exact syD_ops _ _
  split
  · show d.ops ≤ _; omega
  split
  · show d.ops ≤ _; omega
  split
  · unfold crashD; split <;> (show d.ops ≤ _; omega)
  split
  · show d.ops ≤ _; omega
  · omega
section
variable {w0 w w' w1 w2 : World} {p q b : Nat} {F G F1 G1 : Nat → Prop} {d d1 D : DS} {l l1 : List Nat} {C : Array Value}
def stV (o : Stp) : Value := .agg #[.int .i64 o.kind, .int .i64 o.i, .string o.s, .int .u64 o.keep]
theorem step_c (h : LT w0 w p F q G d l) (ho : d.ops ≤ 1000000) (o : Stp) (hi : o.i ≤ 9223372036854775807) (hs : o.s.size ≤ 9223372036854775807) (hk0 : 0 ≤ o.keep) (hk1 : o.keep ≤ 18446744073709551615) :
    Calls Try.prog 20 #[.pointer (some ⟨p, 0, none⟩), .pointer (some ⟨q, 0, none⟩), stV o] w fun e w' => e = .returned (.bool true) ∧ ∃ F' G', LT w0 w' p F' q G' (stD d l o) (stL d l o) := by
  obtain ⟨kind, i, s, keep⟩ := o
  simp only at hi hs hk0 hk1
  unfold stD stL stV
  simp only
  by_cases n0 : kind = 0
  · subst n0
    simpa using step_0 h ho i s keep hs
  by_cases n1 : kind = 1
  · subst n1
    simpa using step_1 h ho i s keep
  by_cases n2 : kind = 2
  · subst n2
    simpa using step_2 h ho i s keep hi hk0 (by omega)
  by_cases n3 : kind = 3
  · subst n3
    simpa using step_3 h ho i s keep hi hk0 (by omega)
  by_cases n4 : kind = 4
  · subst n4
    simpa using step_4 h ho i s keep hi hk0 (by omega)
  by_cases n5 : kind = 5
  · subst n5
    simpa using step_5 h ho i s keep hi hk0 (by omega)
  simp only [n0, n1, n2, n3, n4, n5, if_false]
  exact step_6 h ho kind i s keep n0 n1 n2 n3 n4 n5
theorem RQ.gone (h : RQ w q G d l) : w.cell? ⟨q, 9, none⟩ = some (.bool d.dead) := by
  obtain ⟨r, a, b, c, h1, h2⟩ := h
  rw [← h2.gone]
  exact h1.cell 9
theorem RQ.num (h : RQ w q G d l) : w.cell? ⟨q, 3, none⟩ = some (.int .i64 d.ops) := by
  obtain ⟨r, a, b, c, h1, h2⟩ := h
  rw [← h2.n]
  exact h1.cell 3
set_option maxRecDepth 1000000 in
set_option maxHeartbeats 4000000 in
theorem same_c (h : LT w0 w p F q G d l) : Calls Try.prog 23 #[.pointer (some ⟨p, 0, none⟩), .pointer (some ⟨q, 0, none⟩)] w fun e w' => e = .returned (.bool true) ∧ New w w' := by
  have HL := Lib.hid h
  clear h
  go_enter Try.func23, Try.ntmps23
  go_wp2
  go_loopw [5] (fun v5 w' => ∃ (k : Int), v5 = .int .i64 k ∧ -1 ≤ k ∧ k ≤ 257 ∧ Hid (w' = w)) (fun v5 _ => (258 - intOf v5).toNat)
  case atStart => exact ⟨-1, rfl, by omega, by omega, Lib.hid rfl⟩
  case round =>
    obtain ⟨k, rfl, hk0, hk, HW⟩ := hrel
    obtain rfl := HW.out
    by_cases hkl : k ≤ 256
    · have HD1 := Lib.hid (dread_c HL.out.ld.dsk k)
      have HD2 := Lib.hid (rread_c HL.out.rq k)
      generalize (if fitB k then d.is.getD k.toNat ⟨#[]⟩ else ⟨#[]⟩) = X at *
      generalize (if fitB k then (0 : Int) else 40) = Y at *
      go_wp2_with fail
      refine HD1.out.mono ?_
      rintro e w7 ⟨rfl, rfl⟩
      go_wp2_with fail
      refine HD2.out.mono ?_
      rintro e w7 ⟨rfl, rfl⟩
      go_wp2
      go_roundw
      case rel => exact ⟨k + 1, by go_num, by omega, by omega, Lib.hid trivial⟩
      case measure => simp [intOf]; omega
    · obtain rfl : k = 257 := by omega
      have HD1 := Lib.hid (ddead_c (HL.out.new (New.refl _).drew).ld.dsk)
      have HD2 := Lib.hid (dops_c (HL.out.new (New.refl _).drew).ld.dsk)
      have k9 := HL.out.rq.gone
      have k3 := HL.out.rq.num
      generalize d.ops = op at *
      generalize d.dead = dd at *
      cases dd
      case false =>
        go_wp2_with fail
        go_region_held3 (fun V => V.cell? ⟨q, 9, none⟩ = some (.bool false) ∧ V.cell? ⟨q, 3, none⟩ = some (.int .i64 op)) (first | exact ⟨k9, k3⟩) (first
          | (go_at_call 13; refine HD1.out.mono ?_; rintro e w3 ⟨rfl, rfl⟩)
          | (go_at_call 14; refine HD2.out.mono ?_; rintro e w4 ⟨rfl, rfl⟩))
        go_wp2
        go_ret
        exact ⟨rfl, (New.refl _).drew⟩
      case true =>
        go_wp2_with fail
        go_region_held3 (fun V => V.cell? ⟨q, 9, none⟩ = some (.bool true) ∧ V.cell? ⟨q, 3, none⟩ = some (.int .i64 op)) (first | exact ⟨k9, k3⟩) (first
          | (go_at_call 13; refine HD1.out.mono ?_; rintro e w3 ⟨rfl, rfl⟩)
          | (go_at_call 14; refine HD2.out.mono ?_; rintro e w4 ⟨rfl, rfl⟩))
        go_wp2
        go_ret
        exact ⟨rfl, (New.refl _).drew⟩
end
end Go.Proofs.Ytjeaejeikgkcaaa
