/- The reference's disk: what a call asks first (raw), walked. -/
import Derived.Test.YtjeaejeikgkcaaaN6
namespace Go.Proofs.Ytjeaejeikgkcaaa
set_option linter.unusedSimpArgs false
set_option linter.unusedVariables false
open Go.RowKit
section
variable {w w' : World} {p : Nat} {F S : Nat → Prop} {d : DS} {l : List Nat}
set_option maxRecDepth 100000 in
set_option maxHeartbeats 2000000 in
theorem rraw_c (h : RQ w p F d l) (ho : d.ops ≤ 1000000) : Calls Try.prog 33 #[.pointer (some ⟨p, 0, none⟩)] w fun e w' => e = .returned (.int .i64 (rawE d)) ∧ RQ w' p F (rawD d l) (rawL d l) ∧ But F w w' := by
  have HH := Lib.hid h
  obtain ⟨r, a, b, c, g1, g2⟩ := h
  have k3 : w.cell? ⟨p, 3, none⟩ = _ := g1.cell 3
  have k4 : w.cell? ⟨p, 4, none⟩ = _ := g1.cell 4
  have k5 : w.cell? ⟨p, 5, none⟩ = _ := g1.cell 5
  have k6 : w.cell? ⟨p, 6, none⟩ = _ := g1.cell 6
  have k7 : w.cell? ⟨p, 7, none⟩ = _ := g1.cell 7
  have k8 : w.cell? ⟨p, 8, none⟩ = _ := g1.cell 8
  have k9 : w.cell? ⟨p, 9, none⟩ = _ := g1.cell 9
  have k10 : w.cell? ⟨p, 10, none⟩ = _ := g1.cell 10
  simp only [rcells, List.getElem?_cons_succ, List.getElem?_cons_zero] at k3 k4 k5 k6 k7 k8 k9 k10
  rw [g2.gone] at k9
  rw [g2.broken] at k10
  rw [g2.n] at k3
  rw [g2.keep] at k8
  have f3 := g1.frozen 3
  have f5 := g1.frozen 5
  have f7 := g1.frozen 7
  have f10 := g1.frozen 10
  have G1 := Lib.hid g1
  have G2 := Lib.hid g2
  clear g1 g2
  by_cases h1 : d.dead = true
  · have e0 : rawE d = 43 := by simp [rawE, h1]
    have e1 : rawD d l = d := by simp [rawD, h1]
    have e2 : rawL d l = l := by simp [rawL, goes, h1]
    rw [e0, e1, e2]
    rw [h1] at k9
    clear e0 e1 e2 h1
    go_enter Try.func33, Try.ntmps33
    go_wp2
    go_ret
    exact ⟨rfl, HH.out, But.refl _ _⟩
  have h1' : d.dead = false := by simpa using h1
  rw [h1'] at k9
  by_cases h2 : d.failing = true
  · have e0 : rawE d = 42 := by simp [rawE, h1, h2]
    have e1 : rawD d l = d := by simp [rawD, h1, h2]
    have e2 : rawL d l = l := by simp [rawL, goes, h1, h2]
    rw [e0, e1, e2]
    rw [h2] at k10
    clear e0 e1 e2 h1 h2 h1'
    go_enter Try.func33, Try.ntmps33
    go_wp2
    go_ret
    exact ⟨rfl, HH.out, But.refl _ _⟩
  have h2' : d.failing = false := by simpa using h2
  rw [h2'] at k10
  by_cases h3 : d.cut = 0
  · have e0 : rawE d = 43 := by simp [rawE, h1, h2, h3]
    have e1 : rawD d l = crashD d l d.keep := by simp [rawD, h1, h2, h3]
    have e2 : rawL d l = [] := by simp [rawL, goes, h1, h2, h3]
    rw [e0, e1, e2]
    have hci : r.ci = true := by
      by_cases hc : r.ci = true
      · exact hc
      · have := G2.out.cut; rw [if_neg hc] at this; omega
    have hcl : r.cl = 0 := by have := G2.out.cut; rw [if_pos hci] at this; omega
    have HC := Lib.hid (rcrash_live HH.out h1' ho d.keep G2.out.k0 G2.out.k1)
    rw [hci] at k4
    rw [hcl] at k5
    obtain ⟨D, hD⟩ : ∃ D, D = crashD d l d.keep := ⟨_, rfl⟩
    rw [← hD] at HC ⊢
    clear e0 e1 e2 h1 h2 h1' h2' h3 hci hcl hD G1 G2 HH
    go_enter Try.func33, Try.ntmps33
    go_wp2_with fail
    refine HC.out.mono ?_
    rintro e w2 ⟨rfl, q1, q2⟩
    have Q1 := Lib.hid q1
    have Q2 := Lib.hid q2
    clear q1 q2 HC
    go_wp2
    go_ret
    exact ⟨rfl, Q1.out, Q2.out⟩
  have hcut : (r.ci = false ∧ d.cut = -1) ∨ (r.ci = true ∧ r.cl = d.cut ∧ 1 ≤ r.cl) := by
    by_cases hc : r.ci = true
    · have := G2.out.cut; rw [if_pos hc] at this; have := G2.out.c0 hc; exact .inr ⟨hc, by omega, by omega⟩
    · have := G2.out.cut; rw [if_neg hc] at this; exact .inl ⟨by simpa using hc, this⟩
  by_cases h4 : d.fail = 0
  · have e0 : rawE d = 42 := by simp [rawE, h1, h2, h3, h4]
    have e1 : rawD d l = { d with failing := true } := by simp [rawD, h1, h2, h3, h4]
    have e2 : rawL d l = l := by simp [rawL, goes, h1, h2, h3]
    rw [e0, e1, e2]
    have hfi : r.fi = true := by
      by_cases hc : r.fi = true
      · exact hc
      · have := G2.out.fail; rw [if_neg hc] at this; omega
    have hfl : r.fl = 0 := by have := G2.out.fail; rw [if_pos hfi] at this; omega
    have HR := Lib.hid (G1.out.put 10 (.bool true) (r' := { r with broken := true }) rfl rfl rfl rfl)
    have HB := Lib.hid (G1.out.only ((But.refl (Onl p) w).set (p := p) (i := 10) rfl (.bool true)))
    have HQ : Hid (Rel { d with failing := true } l { r with broken := true }) := Lib.hid { G2.out with broken := rfl }
    rw [hfi] at k6
    rw [hfl] at k7
    rcases hcut with ⟨hc1, hc2⟩ | ⟨hc1, hc2, hc3⟩
    all_goals
      rw [hc1] at k4
      clear e0 e1 e2 h1 h2 h1' h2' h3 hfi hfl G1 G2 HH h4 hc1 hc2
      go_enter Try.func33, Try.ntmps33
      go_wp2
      go_ret
      exact ⟨rfl, ⟨_, _, _, _, HR.out, HQ.out⟩, HB.out⟩
  have hfail : (r.fi = false ∧ d.fail = -1) ∨ (r.fi = true ∧ r.fl = d.fail ∧ 1 ≤ r.fl) := by
    by_cases hc : r.fi = true
    · have := G2.out.fail; rw [if_pos hc] at this; have := G2.out.f0 hc; exact .inr ⟨hc, by omega, by omega⟩
    · have := G2.out.fail; rw [if_neg hc] at this; exact .inl ⟨by simpa using hc, this⟩
  have e0 : rawE d = 0 := by simp [rawE, h1, h2, h3, h4]
  have e1 : rawD d l = { d with cut := less d.cut, fail := less d.fail, ops := d.ops + 1 } := by simp [rawD, h1, h2, h3, h4]
  have e2 : rawL d l = l := by simp [rawL, goes, h1, h2, h3]
  rw [e0, e1, e2]
  have HR := Lib.hid (((G1.out.put 5 (.int .i64 (r.cl - 1)) (r' := { r with cl := r.cl - 1 }) rfl rfl rfl rfl).put 7 (.int .i64 (r.fl - 1)) (r' := { r with cl := r.cl - 1, fl := r.fl - 1 }) rfl rfl rfl rfl).put 3 (.int .i64 (d.ops + 1)) (r' := { r with cl := r.cl - 1, fl := r.fl - 1, n := d.ops + 1 }) rfl rfl rfl rfl)
  have HB := Lib.hid (G1.out.only ((((But.refl (Onl p) w).set (p := p) (i := 5) rfl (.int .i64 (r.cl - 1))).set (p := p) (i := 7) rfl (.int .i64 (r.fl - 1))).set (p := p) (i := 3) rfl (.int .i64 (d.ops + 1))))
  have HQ : Hid (Rel { d with cut := less d.cut, fail := less d.fail, ops := d.ops + 1 } l { r with cl := r.cl - 1, fl := r.fl - 1, n := d.ops + 1 }) := by
    have q1 := G2.out.c1
    have q2 := G2.out.c2
    have q3 := G2.out.f1
    have q4 := G2.out.f2
    have q5 := G2.out.len
    have q6 := G2.out.o0
    refine Lib.hid { G2.out with n := rfl, cut := ?_, fail := ?_, c0 := ?_, f0 := ?_, c1 := ?_, f1 := ?_, c2 := ?_, f2 := ?_, o0 := ?_, len := ?_ }
    · show less d.cut = if r.ci then r.cl - 1 else -1
      rcases hcut with ⟨hc1, hc2⟩ | ⟨hc1, hc2, hc3⟩
      · rw [hc1, hc2]; rfl
      · rw [hc1, if_pos rfl]; unfold less; omega
    · show less d.fail = if r.fi then r.fl - 1 else -1
      rcases hfail with ⟨hc1, hc2⟩ | ⟨hc1, hc2, hc3⟩
      · rw [hc1, hc2]; rfl
      · rw [hc1, if_pos rfl]; unfold less; omega
    · intro hc
      show 0 ≤ r.cl - 1
      rcases hcut with ⟨hc1, hc2⟩ | ⟨hc1, hc2, hc3⟩
      · rw [show r.ci = true from hc] at hc1; cases hc1
      · omega
    · intro hc
      show 0 ≤ r.fl - 1
      rcases hfail with ⟨hc1, hc2⟩ | ⟨hc1, hc2, hc3⟩
      · rw [show r.fi = true from hc] at hc1; cases hc1
      · omega
    · show -(d.ops + 1) ≤ r.cl - 1; omega
    · show -(d.ops + 1) ≤ r.fl - 1; omega
    · show r.cl - 1 ≤ _; omega
    · show r.fl - 1 ≤ _; omega
    · show 0 ≤ d.ops + 1; omega
    · show (l.length : Int) ≤ d.ops + 1; omega
  have q1 := G2.out.c1
  have q2 := G2.out.c2
  have q3 := G2.out.f1
  have q4 := G2.out.f2
  have q6 := G2.out.o0
  obtain ⟨D, hD⟩ : ∃ D, D = ({ d with cut := less d.cut, fail := less d.fail, ops := d.ops + 1 } : DS) := ⟨_, rfl⟩
  rw [← hD] at HQ ⊢
  clear hD e0 e1 e2 G1 G2 HH h1 h2 h1' h2' h3 h4
  rcases hcut with ⟨hc1, hc2⟩ | ⟨hc1, hc2, hc3⟩ <;> rcases hfail with ⟨hd1, hd2⟩ | ⟨hd1, hd2, hd3⟩
  all_goals
    rw [hc1] at k4
    rw [hd1] at k6
    clear hc1 hd1 hc2 hd2
    generalize r.cl = cl at *
    generalize r.fl = fl at *
    generalize d.ops = op at *
    go_enter Try.func33, Try.ntmps33
    go_wp2
    go_ret
    exact ⟨rfl, ⟨_, _, _, _, HR.out, HQ.out⟩, HB.out⟩
end
end Go.Proofs.Ytjeaejeikgkcaaa
