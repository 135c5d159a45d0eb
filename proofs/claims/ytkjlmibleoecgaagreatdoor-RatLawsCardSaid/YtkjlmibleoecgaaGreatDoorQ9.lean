/- The program's rat: Add, Sub, Of. (Printed by mkq9.py.) -/
import Derived.Test.YtkjlmibleoecgaaGreatDoorQ8
namespace Go.Proofs.YtkjlmibleoecgaaGreatDoor
set_option linter.unusedSimpArgs false
set_option linter.unusedVariables false
open Go.RowKit
section
variable {w : World} {u v : Value} {n d n2 d2 : Int} {k : Nat}
set_option maxRecDepth 1000000 in
set_option maxHeartbeats 20000000 in
theorem qadd_n (hx : RatB w u n d k) (hy : RatB w v n2 d2 k) (hk : k ≤ 3000) (hk2 : 2 ≤ k) :
    Calls Tryz.prog 59 #[u, v] w fun e w' => ∃ r, e = .returned r ∧ RatB w' r (mkN (n * denZ d2 + n2 * denZ d) (denZ d * denZ d2)) (mkD (n * denZ d2 + n2 * denZ d) (denZ d * denZ d2)) (k + k + (k + k) + 1) ∧ New w w' := by
  obtain ⟨A, l, c, b, A', l', c', b', C, m, e, f, C', m', e', f', rfl, rfl, hq⟩ := Q2x.start hx hy
  have Q0 := Lib.hid hq
  clear hx hy hq
  have HJ := Lib.hid (fun W u v (h : RatB W u n d k) (h2 : RatB W v n2 d2 k) => qjoin_add h h2 hk hk2)
  go_enter Tryz.func59, Tryz.ntmps59
  go_wp2_with fail
  refine (HJ.out _ _ _ Q0.out.xv Q0.out.yv).mono ?_
  rintro e1 w1 ⟨r, rfl, hv, hn⟩
  obtain ⟨R, rl, rc, R', rl', rc', rfl⟩ := RatB.form hv
  generalize decide (mkN (n * denZ d2 + n2 * denZ d) (denZ d * denZ d2) < 0) = rb at *
  generalize decide (mkD (n * denZ d2 + n2 * denZ d) (denZ d * denZ d2) < 0) = rb' at *
  have hq := Q0.out.new hn
  have hFR := hq.br
  have c20 := hFR.cells4.1
  have c21 := hFR.cells4.2.1
  have c22 := hFR.cells4.2.2.1
  have c23 := hFR.cells4.2.2.2
  have f20 := hFR.frozen 0
  have f21 := hFR.frozen 1
  have f22 := hFR.frozen 2
  have f23 := hFR.frozen 3
  obtain ⟨gb, gn, gv⟩ := hq.done (.slice R rl rc) (.bool rb) (.slice R' rl' rc') (.bool rb')
  have GR := Lib.hid (gv hv)
  have GN := Lib.hid gn
  obtain ⟨y0, y1, y2, y3⟩ := gb.cells4
  clear hFR gb gn gv hq hv hn Q0 HJ
  go_wp2
  refine bodyPost_ret (v := .agg #[.slice R rl rc, .bool rb, .slice R' rl' rc', .bool rb']) (by simp [results, Tryz.results59, go_sem, y0, y1, y2, y3]) rfl ⟨_, rfl, GR.out, GN.out⟩
set_option maxRecDepth 1000000 in
set_option maxHeartbeats 20000000 in
theorem qsub_n (hx : RatB w u n d k) (hy : RatB w v n2 d2 k) (hk : k ≤ 3000) (hk2 : 2 ≤ k) :
    Calls Tryz.prog 65 #[u, v] w fun e w' => ∃ r, e = .returned r ∧ RatB w' r (mkN (n * denZ d2 - n2 * denZ d) (denZ d * denZ d2)) (mkD (n * denZ d2 - n2 * denZ d) (denZ d * denZ d2)) (k + k + (k + k) + 1) ∧ New w w' := by
  obtain ⟨A, l, c, b, A', l', c', b', C, m, e, f, C', m', e', f', rfl, rfl, hq⟩ := Q2x.start hx hy
  have Q0 := Lib.hid hq
  clear hx hy hq
  have HJ := Lib.hid (fun W u v (h : RatB W u n d k) (h2 : RatB W v n2 d2 k) => qjoin_sub h h2 hk hk2)
  go_enter Tryz.func65, Tryz.ntmps65
  go_wp2_with fail
  refine (HJ.out _ _ _ Q0.out.xv Q0.out.yv).mono ?_
  rintro e1 w1 ⟨r, rfl, hv, hn⟩
  obtain ⟨R, rl, rc, R', rl', rc', rfl⟩ := RatB.form hv
  generalize decide (mkN (n * denZ d2 - n2 * denZ d) (denZ d * denZ d2) < 0) = rb at *
  generalize decide (mkD (n * denZ d2 - n2 * denZ d) (denZ d * denZ d2) < 0) = rb' at *
  have hq := Q0.out.new hn
  have hFR := hq.br
  have c20 := hFR.cells4.1
  have c21 := hFR.cells4.2.1
  have c22 := hFR.cells4.2.2.1
  have c23 := hFR.cells4.2.2.2
  have f20 := hFR.frozen 0
  have f21 := hFR.frozen 1
  have f22 := hFR.frozen 2
  have f23 := hFR.frozen 3
  obtain ⟨gb, gn, gv⟩ := hq.done (.slice R rl rc) (.bool rb) (.slice R' rl' rc') (.bool rb')
  have GR := Lib.hid (gv hv)
  have GN := Lib.hid gn
  obtain ⟨y0, y1, y2, y3⟩ := gb.cells4
  clear hFR gb gn gv hq hv hn Q0 HJ
  go_wp2
  refine bodyPost_ret (v := .agg #[.slice R rl rc, .bool rb, .slice R' rl' rc', .bool rb']) (by simp [results, Tryz.results65, go_sem, y0, y1, y2, y3]) rfl ⟨_, rfl, GR.out, GN.out⟩
set_option maxRecDepth 1000000 in
set_option maxHeartbeats 4000000 in
theorem qof_n (z : Int) (h0 : -9223372036854775808 ≤ z) (h1 : z ≤ 9223372036854775807) (w : World) :
    Calls Tryz.prog 61 #[.int .i64 z] w fun e w' => ∃ r, e = .returned r ∧ RatB w' r z 1 4 ∧ New w w' := by
  have HB := Lib.hid (Box.last w #[.slice none 0 0, .bool false, .slice none 0 0, .bool false] NRat)
  have HN := Lib.hid ((New.refl w).alloc (.cells #[.slice none 0 0, .bool false, .slice none 0 0, .bool false] NRat))
  have HO := Lib.hid (fun W => of_n z h0 h1 W)
  have H1 := Lib.hid one_n
  have HD : Hid (decide ((1 : Int) < 0) = false) := Lib.hid rfl
  clear h0 h1
  go_enter Tryz.func61, Tryz.ntmps61
  go_wp2_with fail
  refine (HO.out _).mono ?_
  rintro e1 w1 ⟨v1, rfl, hv, hn⟩
  obtain ⟨A5, l5, c55, rfl, -⟩ := hv.form
  generalize decide (z < 0) = b5 at *
  have T1 := Lib.hid hv
  have HB1 := Lib.hid (HB.out.new hn)
  have HN1 := Lib.hid (HN.out.trans hn)
  clear hv hn HB HN
  go_wp2_with fail
  refine (H1.out _).mono ?_
  rintro e1 w2 ⟨v2, rfl, hv, hn⟩
  obtain ⟨A6, l6, c66, rfl, -⟩ := hv.form
  rw [HD.out] at *
  have hb := HB1.out.new hn
  have c20 := hb.cells4.1
  have c21 := hb.cells4.2.1
  have c22 := hb.cells4.2.2.1
  have c23 := hb.cells4.2.2.2
  have f20 := hb.frozen 0
  have f21 := hb.frozen 1
  have f22 := hb.frozen 2
  have f23 := hb.frozen 3
  have GR := Lib.hid (RatB.lay4 (RatB.of (T1.out.new hn) hv 4 (by omega) (by omega)) hb (.slice A5 l5 c55) (.bool b5) (.slice A6 l6 c66) (.bool false))
  have GN := Lib.hid (((((HN1.out.trans hn).setCell (p := ⟨w.heap.size, 0, none⟩) (Nat.le_refl _) (.slice A5 l5 c55)).setCell (p := ⟨w.heap.size, 1, none⟩) (Nat.le_refl _) (.bool b5)).setCell (p := ⟨w.heap.size, 2, none⟩) (Nat.le_refl _) (.slice A6 l6 c66)).setCell (p := ⟨w.heap.size, 3, none⟩) (Nat.le_refl _) (.bool false))
  obtain ⟨y0, y1, y2, y3⟩ := (hb.lay4 (.slice A5 l5 c55) (.bool b5) (.slice A6 l6 c66) (.bool false)).cells4
  clear hb hv hn T1 HB1 HN1 HO H1
  go_wp2
  refine bodyPost_ret (v := .agg #[.slice A5 l5 c55, .bool b5, .slice A6 l6 c66, .bool false]) (by simp [results, Tryz.results61, go_sem, y0, y1, y2, y3]) rfl ⟨_, rfl, GR.out, GN.out⟩
end
end Go.Proofs.YtkjlmibleoecgaaGreatDoor
