/- What a call asks first (raw), walked. -/
import Derived.Test.YtjeaejeikgkcaaaK3
import Derived.RegionTactic
import Derived.BigRegion
namespace Go.Proofs.Ytjeaejeikgkcaaa
set_option linter.unusedSimpArgs false
set_option linter.unusedVariables false
open Go.RowKit

/-- One call less. -/
def less (n : Int) : Int := max (n - 1) (-1)
def rawE (d : DS) : Int := if d.dead then 43 else if d.failing then 42 else if d.cut = 0 then 43 else if d.fail = 0 then 42 else 0
def rawD (d : DS) (l : List Nat) : DS :=
  if d.dead then d else if d.failing then d else if d.cut = 0 then crashD d l d.keep else if d.fail = 0 then { d with failing := true } else { d with cut := less d.cut, fail := less d.fail, ops := d.ops + 1 }
/-- Does the power go here? -/
def goes (d : DS) : Bool := !d.dead && !d.failing && d.cut == 0
structure WF (d : DS) : Prop where
  c0 : -1 ≤ d.cut
  c1 : d.cut ≤ 9223372036854775807
  f0 : -1 ≤ d.fail
  f1 : d.fail ≤ 9223372036854775807
  o0 : 0 ≤ d.ops
  k0 : 0 ≤ d.keep
  k1 : d.keep < 18446744073709551616
theorem DB.drew {w : World} {p : Nat} {d : DS} {c : Value} (h : DB w p d c) : DB w.drew p d c := ⟨h.b, h.l1, h.l2⟩
section
variable {w : World} {p : Nat} {d : DS} {c : Value}
set_option maxRecDepth 100000 in
set_option maxHeartbeats 2000000 in
theorem raw_plain (h : DB w p d c) (hd : d.dead = false) (hf : d.failing = false) (hc : d.cut ≠ 0) (hfl : d.fail ≠ 0) (hw : WF d) (o1 : d.ops ≤ 1000000) :
    Calls Try.prog 25 #[.pointer (some ⟨p, 0, none⟩)] w fun e w' => e = .returned (.int .i64 0) ∧ DB w' p { d with cut := less d.cut, fail := less d.fail, ops := d.ops + 1 } c ∧ But (Onl p) w w' := by
  have k1 := h.dead
  have k2 := h.failing
  have k3 := h.cut
  have k4 := h.fail
  have k5 := h.ops
  have f3 := h.frozen 514
  have f4 := h.frozen 515
  have f5 := h.frozen 513
  rw [hd] at k1
  rw [hf] at k2
  obtain ⟨c0, c1, g0, g1, o0, _, _⟩ := hw
  have HR := Lib.hid (((h.putCut (less d.cut)).putFail (less d.fail)).putOps (d.ops + 1))
  have HB := Lib.hid ((((But.refl (Onl p) w).set (p := p) (i := 514) rfl (.int .i64 (less d.cut))).set (p := p) (i := 515) rfl (.int .i64 (less d.fail))).set (p := p) (i := 513) rfl (.int .i64 (d.ops + 1)))
  have HP := Lib.hid (show (((less d.cut = d.cut - 1 ∧ 1 ≤ d.cut) ∨ (less d.cut = -1 ∧ d.cut = -1)) ∧ ((less d.fail = d.fail - 1 ∧ 1 ≤ d.fail) ∨ (less d.fail = -1 ∧ d.fail = -1))) by unfold less; omega)
  clear hd hf h
  generalize less d.cut = lc at *
  generalize less d.fail = lf at *
  generalize d.cut = cu at *
  generalize d.fail = fa at *
  generalize d.ops = op at *
  obtain ⟨h1, h2⟩ := HP.out
  rcases h1 with ⟨rfl, hc1⟩ | ⟨rfl, rfl⟩ <;> rcases h2 with ⟨rfl, hf1⟩ | ⟨rfl, rfl⟩
  all_goals
    go_enter Try.func25, Try.ntmps25
    go_wp2
    go_region
    go_wp2
    go_ret
    exact ⟨rfl, HR.out.drew, HB.out.drew⟩
set_option maxHeartbeats 1000000 in
theorem raw_dead (h : DB w p d c) (hd : d.dead = true) :
    Calls Try.prog 25 #[.pointer (some ⟨p, 0, none⟩)] w fun e w' => e = .returned (.int .i64 43) ∧ w = w' := by
  have k1 := h.dead
  rw [hd] at k1
  clear hd h
  go_enter Try.func25, Try.ntmps25
  go_wp2
  go_ret
  exact ⟨rfl, rfl⟩
set_option maxHeartbeats 1000000 in
theorem raw_failing (h : DB w p d c) (hd : d.dead = false) (hf : d.failing = true) :
    Calls Try.prog 25 #[.pointer (some ⟨p, 0, none⟩)] w fun e w' => e = .returned (.int .i64 42) ∧ w = w' := by
  have k1 := h.dead
  have k2 := h.failing
  rw [hd] at k1
  rw [hf] at k2
  clear hd hf h
  go_enter Try.func25, Try.ntmps25
  go_wp2
  go_ret
  exact ⟨rfl, rfl⟩
set_option maxHeartbeats 1000000 in
theorem raw_fail (h : DB w p d c) (hd : d.dead = false) (hf : d.failing = false) (hc : d.cut ≠ 0) (hfl : d.fail = 0) :
    Calls Try.prog 25 #[.pointer (some ⟨p, 0, none⟩)] w fun e w' => e = .returned (.int .i64 42) ∧ DB w' p { d with failing := true } c ∧ But (Onl p) w w' := by
  have k1 := h.dead
  have k2 := h.failing
  have k3 := h.cut
  have k4 := h.fail
  have f1 := h.frozen 518
  have HR := Lib.hid (h.putFailing true)
  have HB := Lib.hid ((But.refl (Onl p) w).set (p := p) (i := 518) rfl (.bool true))
  rw [hd] at k1
  rw [hf] at k2
  rw [hfl] at k4
  clear hd hf hfl h
  generalize d.cut = cu at *
  go_enter Try.func25, Try.ntmps25
  go_wp2
  go_ret
  exact ⟨rfl, HR.out, HB.out⟩
set_option maxHeartbeats 1000000 in
theorem raw_cut (h : DB w p d c) (hd : d.dead = false) (hf : d.failing = false) (hcu : d.cut = 0) (l : List Nat) (B : Nat) (hB : B ≤ p) (hc : OwnE iE 3 B w c l) (hl : ∀ i ∈ l, i < 256) (hll : l.length ≤ 1000000) (hk0 : 0 ≤ d.keep) (hk1 : d.keep < 18446744073709551616) :
    Calls Try.prog 25 #[.pointer (some ⟨p, 0, none⟩)] w fun e w' => e = .returned (.int .i64 43) ∧ DB w' p (crashD d l d.keep) (.slice none 0 0) ∧ But (Onl p) w w' := by
  have H := Lib.hid (crash_live h hd d.keep l B hB hc hl hll hk0 hk1)
  have k1 := h.dead
  have k2 := h.failing
  have k3 := h.cut
  have k6 := h.keep
  rw [hd] at k1
  rw [hf] at k2
  rw [hcu] at k3
  clear hd hf hcu h hc hl
  obtain ⟨X, hX⟩ : ∃ X, X = crashD d l d.keep := ⟨_, rfl⟩
  rw [← hX] at H ⊢
  clear hX
  generalize d.keep = ke at *
  go_enter Try.func25, Try.ntmps25
  go_wp2_with fail
  refine (H.out).mono ?_
  rintro e w1 ⟨rfl, h1, h2⟩
  have HR := Lib.hid h1
  have HB := Lib.hid h2
  clear h1 h2
  go_wp2
  go_ret
  exact ⟨rfl, HR.out, HB.out⟩
end
end Go.Proofs.Ytjeaejeikgkcaaa
