/- The program's rat: Mul, Div. (Printed by mkq7.py.) -/
import Derived.Test.YtkjlmibleoecgaaGreatDoorQ6
namespace Go.Proofs.YtkjlmibleoecgaaGreatDoor
set_option linter.unusedSimpArgs false
set_option linter.unusedVariables false
open Go.RowKit
section
variable {w : World} {u v : Value} {n d n2 d2 : Int} {k : Nat}
set_option maxRecDepth 1000000 in
set_option maxHeartbeats 20000000 in
theorem qmul_n (hx : RatB w u n d k) (hy : RatB w v n2 d2 k) (hk : k ≤ 7000) (hk2 : 2 ≤ k) :
    Calls Tryz.prog 64 #[u, v] w fun e w' => ∃ r, e = .returned r ∧ RatB w' r (mkN (n * n2) (denZ d * denZ d2)) (mkD (n * n2) (denZ d * denZ d2)) (k + k) ∧ New w w' := by
  obtain ⟨A, l, c, b, A', l', c', b', C, m, e, f, C', m', e', f', rfl, rfl, hq⟩ := Q2x.start hx hy
  have Q0 := Lib.hid hq
  clear hx hy hq
  have HM1 := Lib.hid (fun W u v (h : NumB W u n k) (h2 : NumB W v n2 k) => mul_n h h2 (by omega) (by omega))
  have HD1 := Lib.hid (fun W v (h : RatB W v n d k) => den_n h (by omega) hk2)
  have HD2 := Lib.hid (fun W v (h : RatB W v n2 d2 k) => den_n h (by omega) hk2)
  have HM2 := Lib.hid (fun W u v (h : NumB W u (denZ d) k) (h2 : NumB W v (denZ d2) k) => mul_n h h2 (by omega) (by omega))
  have HMK := Lib.hid (fun W u v (h : NumB W u (n * n2) (k + k)) (h2 : NumB W v (denZ d * denZ d2) (k + k)) => qmake_n h h2 (by omega))
  generalize divI (denZ d * denZ d2) = de at *
  go_enter Tryz.func64, Tryz.ntmps64
  go_wp2
  generalize hW : ((w.alloc (.cells #[.slice A l c, .bool b, .slice A' l' c', .bool b'] NRat)).alloc (.cells #[.slice C m e, .bool f, .slice C' m' e', .bool f'] NRat)).alloc (.cells #[.slice none 0 0, .bool false, .slice none 0 0, .bool false] NRat) = W at *
  clear hW
  refine wp_region_rel (by kernel_rfl) (VL [(5, fun ww vv => ∃ P, vv = .pointer (some ⟨P, 0, none⟩) ∧ Box ww P #[.slice none 0 0, .bool false, .slice none 0 0, .bool false] NRat ∧ w.heap.size + 3 ≤ P), (7, fun ww vv => ∃ r, vv = .tuple #[r, .int .i64 (de)] ∧ RatB ww r (mkN (n * n2) (denZ d * denZ d2)) (mkD (n * n2) (denZ d * denZ d2)) (k + k)), (8, fun ww vv => vv = .pointer (some ⟨w.heap.size, 0, none⟩)), (9, fun ww vv => vv = .agg #[.slice A l c, .bool b]), (10, fun ww vv => vv = .pointer (some ⟨w.heap.size + 1, 0, none⟩)), (11, fun ww vv => vv = .agg #[.slice C m e, .bool f]), (12, fun ww vv => NumB ww vv (n * n2) (k + k)), (13, fun ww vv => vv = .agg #[.slice A l c, .bool b, .slice A' l' c', .bool b']), (14, fun ww vv => NumB ww vv (denZ d) (k)), (15, fun ww vv => vv = .agg #[.slice C m e, .bool f, .slice C' m' e', .bool f']), (16, fun ww vv => NumB ww vv (denZ d2) (k)), (17, fun ww vv => NumB ww vv (denZ d * denZ d2) (k + k)), (18, fun ww vv => ∃ r, vv = .tuple #[r, .int .i64 (de)] ∧ RatB ww r (mkN (n * n2) (denZ d * denZ d2)) (mkD (n * n2) (denZ d * denZ d2)) (k + k)), (19, fun ww vv => RatB ww vv (mkN (n * n2) (denZ d * denZ d2)) (mkD (n * n2) (denZ d * denZ d2)) (k + k)), (20, fun ww vv => vv = .int .i64 de)]) (VL_mono ⟨fun _ _ _ h hn => h.elim fun P h => ⟨P, h.1, h.2.1.new hn, h.2.2⟩, fun _ _ _ h hn => h.elim fun r h => ⟨r, h.1, h.2.new hn⟩, fun _ _ _ h _ => h, fun _ _ _ h _ => h, fun _ _ _ h _ => h, fun _ _ _ h _ => h, fun _ _ _ h hn => NumB.new h hn, fun _ _ _ h _ => h, fun _ _ _ h hn => NumB.new h hn, fun _ _ _ h _ => h, fun _ _ _ h hn => NumB.new h hn, fun _ _ _ h hn => NumB.new h hn, fun _ _ _ h hn => h.elim fun r h => ⟨r, h.1, h.2.new hn⟩, fun _ _ _ h hn => RatB.new h hn, fun _ _ _ h _ => h, trivial⟩) _ _ [false, false, false, false, false, true, false, true, true, true, true, true, true, true, true, true, true, true, true, true, true, false] [true, true, true, true, true, true, true, true, true, true, true, true, true, true, true, false, false] [false, false, false, false, false, false, false, false, false, false, false, false, false, true, false, false, false] [[], [8], [], [10], [9, 11], [], [13], [], [15], [14, 16], [12, 17], [18], [7], [7], [], [], []] [5, 7, 8, 9, 10, 11, 12, 13, 14, 15, 16, 17, 18, 19, 20] 2 (by kernel_rfl) rfl rfl (by kernel_rfl) (by kernel_rfl) (fun _ _ _ _ _ h => h) ⟨?o0, ?o1, ?o2, ?o3, ?o4, ?o5, ?o6, ?o7, ?o8, ?o9, ?o10, ?o11, ?o12, ?o13, ?o14, trivial⟩ ?last
  case o0 =>
    intro s w' K hn hk hK
    clear hk
    simp only [fr, fill, Nat.reduceAdd, Act.put, List.setIfInBounds_toArray, List.set_cons_zero, List.set_cons_succ] at hK ⊢
    refine ⟨true, rfl, ?_⟩
    show Oper.wp _ _ _ _ _ _
    (first | go_big_op | go_simp)
    exact hK _ _ (New.refl _) rfl
  case o1 =>
    intro s w' K hn hk hK
    have h8 : (s 8) = .pointer (some ⟨w.heap.size, 0, none⟩) := hk.here
    clear hk
    simp only [fr, fill, Nat.reduceAdd, Act.put, List.setIfInBounds_toArray, List.set_cons_zero, List.set_cons_succ] at hK ⊢
    generalize s 8 = x8 at *
    subst h8
    have hq := Q0.out.new hn
    obtain ⟨c0, c1, c2, c3⟩ := hq.ba.cells4
    clear hq
    refine ⟨true, rfl, ?_⟩
    show Oper.wp _ _ _ _ _ _
    (first | go_big_op | go_simp)
    exact hK _ _ (New.refl _) rfl
  case o2 =>
    intro s w' K hn hk hK
    clear hk
    simp only [fr, fill, Nat.reduceAdd, Act.put, List.setIfInBounds_toArray, List.set_cons_zero, List.set_cons_succ] at hK ⊢
    refine ⟨true, rfl, ?_⟩
    show Oper.wp _ _ _ _ _ _
    (first | go_big_op | go_simp)
    exact hK _ _ (New.refl _) rfl
  case o3 =>
    intro s w' K hn hk hK
    have h10 : (s 10) = .pointer (some ⟨w.heap.size + 1, 0, none⟩) := hk.here
    clear hk
    simp only [fr, fill, Nat.reduceAdd, Act.put, List.setIfInBounds_toArray, List.set_cons_zero, List.set_cons_succ] at hK ⊢
    generalize s 10 = x10 at *
    subst h10
    have hq := Q0.out.new hn
    obtain ⟨c4, c5, c6, c7⟩ := hq.bb.cells4
    clear hq
    refine ⟨true, rfl, ?_⟩
    show Oper.wp _ _ _ _ _ _
    (first | go_big_op | go_simp)
    exact hK _ _ (New.refl _) rfl
  case o4 =>
    intro s w' K hn hk hK
    have h9 : (s 9) = .agg #[.slice A l c, .bool b] := hk.here
    have h11 : (s 11) = .agg #[.slice C m e, .bool f] := hk.next.here
    clear hk
    simp only [fr, fill, Nat.reduceAdd, Act.put, List.setIfInBounds_toArray, List.set_cons_zero, List.set_cons_succ] at hK ⊢
    generalize s 9 = x9 at *
    generalize s 11 = x11 at *
    subst h9
    subst h11
    refine ⟨true, rfl, ?_⟩
    show Oper.wp _ _ _ _ _ _
    (first | go_big_op | go_simp)
    refine (HM1.out _ _ _ (Q0.out.xn.new hn) (Q0.out.yn.new hn)).mono ?_
    rintro e' w'' ⟨v', rfl, hv', hn'⟩
    exact hK _ _ hn' hv'
  case o5 =>
    intro s w' K hn hk hK
    clear hk
    simp only [fr, fill, Nat.reduceAdd, Act.put, List.setIfInBounds_toArray, List.set_cons_zero, List.set_cons_succ] at hK ⊢
    have hq := Q0.out.new hn
    obtain ⟨c0, c1, c2, c3⟩ := hq.ba.cells4
    clear hq
    refine ⟨true, rfl, ?_⟩
    show Oper.wp _ _ _ _ _ _
    (first | go_big_op | go_simp)
    exact hK _ _ (New.refl _) rfl
  case o6 =>
    intro s w' K hn hk hK
    have h13 : (s 13) = .agg #[.slice A l c, .bool b, .slice A' l' c', .bool b'] := hk.here
    clear hk
    simp only [fr, fill, Nat.reduceAdd, Act.put, List.setIfInBounds_toArray, List.set_cons_zero, List.set_cons_succ] at hK ⊢
    generalize s 13 = x13 at *
    subst h13
    refine ⟨true, rfl, ?_⟩
    show Oper.wp _ _ _ _ _ _
    (first | go_big_op | go_simp)
    refine (HD1.out _ _ (Q0.out.xv.new hn)).mono ?_
    rintro e' w'' ⟨v', rfl, hv', hn'⟩
    exact hK _ _ hn' hv'
  case o7 =>
    intro s w' K hn hk hK
    clear hk
    simp only [fr, fill, Nat.reduceAdd, Act.put, List.setIfInBounds_toArray, List.set_cons_zero, List.set_cons_succ] at hK ⊢
    have hq := Q0.out.new hn
    obtain ⟨c4, c5, c6, c7⟩ := hq.bb.cells4
    clear hq
    refine ⟨true, rfl, ?_⟩
    show Oper.wp _ _ _ _ _ _
    (first | go_big_op | go_simp)
    exact hK _ _ (New.refl _) rfl
  case o8 =>
    intro s w' K hn hk hK
    have h15 : (s 15) = .agg #[.slice C m e, .bool f, .slice C' m' e', .bool f'] := hk.here
    clear hk
    simp only [fr, fill, Nat.reduceAdd, Act.put, List.setIfInBounds_toArray, List.set_cons_zero, List.set_cons_succ] at hK ⊢
    generalize s 15 = x15 at *
    subst h15
    refine ⟨true, rfl, ?_⟩
    show Oper.wp _ _ _ _ _ _
    (first | go_big_op | go_simp)
    refine (HD2.out _ _ (Q0.out.yv.new hn)).mono ?_
    rintro e' w'' ⟨v', rfl, hv', hn'⟩
    exact hK _ _ hn' hv'
  case o9 =>
    intro s w' K hn hk hK
    have h14 : NumB w' (s 14) (denZ d) (k) := hk.here
    have h16 : NumB w' (s 16) (denZ d2) (k) := hk.next.here
    clear hk
    simp only [fr, fill, Nat.reduceAdd, Act.put, List.setIfInBounds_toArray, List.set_cons_zero, List.set_cons_succ] at hK ⊢
    generalize s 14 = x14 at *
    generalize s 16 = x16 at *
    refine ⟨true, rfl, ?_⟩
    show Oper.wp _ _ _ _ _ _
    (first | go_big_op | go_simp)
    refine (HM2.out _ _ _ h14 h16).mono ?_
    rintro e' w'' ⟨v', rfl, hv', hn'⟩
    exact hK _ _ hn' hv'
  case o10 =>
    intro s w' K hn hk hK
    have h12 : NumB w' (s 12) (n * n2) (k + k) := hk.here
    have h17 : NumB w' (s 17) (denZ d * denZ d2) (k + k) := hk.next.here
    clear hk
    simp only [fr, fill, Nat.reduceAdd, Act.put, List.setIfInBounds_toArray, List.set_cons_zero, List.set_cons_succ] at hK ⊢
    generalize s 12 = x12 at *
    generalize s 17 = x17 at *
    refine ⟨true, rfl, ?_⟩
    show Oper.wp _ _ _ _ _ _
    (first | go_big_op | go_simp)
    refine (HMK.out _ _ _ h12 h17).mono ?_
    rintro e' w'' ⟨r, rfl, hv', hn'⟩
    exact hK _ _ hn' ⟨_, rfl, hv'⟩
  case o11 =>
    intro s w' K hn hk hK
    have h18 : ∃ r, (s 18) = .tuple #[r, .int .i64 (de)] ∧ RatB w' r (mkN (n * n2) (denZ d * denZ d2)) (mkD (n * n2) (denZ d * denZ d2)) (k + k) := hk.here
    clear hk
    simp only [fr, fill, Nat.reduceAdd, Act.put, List.setIfInBounds_toArray, List.set_cons_zero, List.set_cons_succ] at hK ⊢
    generalize s 18 = x18 at *
    obtain ⟨r18, rfl, h18⟩ := h18
    refine ⟨true, rfl, ?_⟩
    show Oper.wp _ _ _ _ _ _
    (first | go_big_op | go_simp)
    exact hK _ _ (New.refl _) ⟨_, rfl, h18⟩
  case o12 =>
    intro s w' K hn hk hK
    have h7 : ∃ r, (s 7) = .tuple #[r, .int .i64 (de)] ∧ RatB w' r (mkN (n * n2) (denZ d * denZ d2)) (mkD (n * n2) (denZ d * denZ d2)) (k + k) := hk.here
    clear hk
    simp only [fr, fill, Nat.reduceAdd, Act.put, List.setIfInBounds_toArray, List.set_cons_zero, List.set_cons_succ] at hK ⊢
    generalize s 7 = x7 at *
    obtain ⟨r7, rfl, h7⟩ := h7
    refine ⟨true, rfl, ?_⟩
    show Oper.wp _ _ _ _ _ _
    (first | go_big_op | go_simp)
    exact hK _ _ (New.refl _) h7
  case o13 =>
    intro s w' hn hk
    have h7 : ∃ r, (s 7) = .tuple #[r, .int .i64 (de)] ∧ RatB w' r (mkN (n * n2) (denZ d * denZ d2)) (mkD (n * n2) (denZ d * denZ d2)) (k + k) := hk.here
    clear hk
    simp only [fr, fill, Nat.reduceAdd, Act.put, List.setIfInBounds_toArray, List.set_cons_zero, List.set_cons_succ]
    generalize s 7 = x7 at *
    obtain ⟨r7, rfl, h7⟩ := h7
    refine ⟨.int .i64 de, Or.inl ⟨rfl, fun W' => ?_⟩, rfl⟩
    first | rfl | go_simp
  case o14 =>
    intro s w' K hn hk hK
    clear hk
    simp only [fr, fill, Nat.reduceAdd, Act.put, List.setIfInBounds_toArray, List.set_cons_zero, List.set_cons_succ] at hK ⊢
    refine ⟨true, rfl, ?_⟩
    show Oper.wp _ _ _ _ _ _
    (first | go_big_op | go_simp)
    exact hK _ _ ((New.refl _).alloc _) ⟨_, rfl, Box.last _ _ _, by have := Q0.out.lt; have := hn.le; omega⟩
  case last =>
    intro s V0 hn hk
    have h5 : ∃ P, (s 5) = .pointer (some ⟨P, 0, none⟩) ∧ Box V0 P #[.slice none 0 0, .bool false, .slice none 0 0, .bool false] NRat ∧ w.heap.size + 3 ≤ P := hk.here
    have h7 : ∃ r, (s 7) = .tuple #[r, .int .i64 (de)] ∧ RatB V0 r (mkN (n * n2) (denZ d * denZ d2)) (mkD (n * n2) (denZ d * denZ d2)) (k + k) := hk.next.here
    have h8 : (s 8) = .pointer (some ⟨w.heap.size, 0, none⟩) := hk.next.next.here
    have h9 : (s 9) = .agg #[.slice A l c, .bool b] := hk.next.next.next.here
    have h10 : (s 10) = .pointer (some ⟨w.heap.size + 1, 0, none⟩) := hk.next.next.next.next.here
    have h11 : (s 11) = .agg #[.slice C m e, .bool f] := hk.next.next.next.next.next.here
    have h12 : NumB V0 (s 12) (n * n2) (k + k) := hk.next.next.next.next.next.next.here
    have h13 : (s 13) = .agg #[.slice A l c, .bool b, .slice A' l' c', .bool b'] := hk.next.next.next.next.next.next.next.here
    have h14 : NumB V0 (s 14) (denZ d) (k) := hk.next.next.next.next.next.next.next.next.here
    have h15 : (s 15) = .agg #[.slice C m e, .bool f, .slice C' m' e', .bool f'] := hk.next.next.next.next.next.next.next.next.next.here
    have h16 : NumB V0 (s 16) (denZ d2) (k) := hk.next.next.next.next.next.next.next.next.next.next.here
    have h17 : NumB V0 (s 17) (denZ d * denZ d2) (k + k) := hk.next.next.next.next.next.next.next.next.next.next.next.here
    have h18 : ∃ r, (s 18) = .tuple #[r, .int .i64 (de)] ∧ RatB V0 r (mkN (n * n2) (denZ d * denZ d2)) (mkD (n * n2) (denZ d * denZ d2)) (k + k) := hk.next.next.next.next.next.next.next.next.next.next.next.next.here
    have h19 : RatB V0 (s 19) (mkN (n * n2) (denZ d * denZ d2)) (mkD (n * n2) (denZ d * denZ d2)) (k + k) := hk.next.next.next.next.next.next.next.next.next.next.next.next.next.here
    have h20 : (s 20) = .int .i64 de := hk.next.next.next.next.next.next.next.next.next.next.next.next.next.next.here
    clear hk
    simp only [fr, fill, Nat.reduceAdd, Act.put, List.setIfInBounds_toArray, List.set_cons_zero, List.set_cons_succ]
    generalize s 5 = x5 at *
    generalize s 7 = x7 at *
    generalize s 8 = x8 at *
    generalize s 9 = x9 at *
    generalize s 10 = x10 at *
    generalize s 11 = x11 at *
    generalize s 12 = x12 at *
    generalize s 13 = x13 at *
    generalize s 14 = x14 at *
    generalize s 15 = x15 at *
    generalize s 16 = x16 at *
    generalize s 17 = x17 at *
    generalize s 18 = x18 at *
    generalize s 19 = x19 at *
    generalize s 20 = x20 at *
    obtain ⟨P, rfl, hbx, hP⟩ := h5
    obtain ⟨r7, rfl, h7⟩ := h7
    subst h8
    subst h9
    subst h10
    subst h11
    subst h13
    subst h15
    obtain ⟨r18, rfl, h18⟩ := h18
    subst h20
    refine wpAny_chain [15, 16] _ _ _ (by kernel_rfl) ?_
    change wpList _ _ _ [_, _] _ _
    have hq := Q0.out.new hn
    obtain ⟨R, rl, rc, R', rl', rc', rfl⟩ := RatB.form h19
    generalize decide (mkN (n * n2) (denZ d * denZ d2) < 0) = rb at *
    generalize decide (mkD (n * n2) (denZ d * denZ d2) < 0) = rb' at *
    obtain ⟨k0, k1, k2, k3⟩ := hbx.cells4
    have g0 := hbx.frozen 0
    have g1 := hbx.frozen 1
    have g2 := hbx.frozen 2
    have g3 := hbx.frozen 3
    have st := hq.gs h19 hbx hP
    have ST := Lib.hid st
    clear st hq h12 h14 h16 h17 h18 h7 h19 hn hP hbx
    refine wpList_plain rfl fun K15 hK15 => ?_
    go_simp
    refine hK15 _ _ ?_
    clear hK15
    refine wpList_plain rfl fun K16 hK16 => ?_
    go_simp
    refine hK16 _ _ ?_
    clear hK16
    change Exit.then _ _ .normal _ _
    simp only [Exit.then]
    refine ST.out.name2 ?_
    clear ST
    rintro V hV P2 hP2 st
    rw [← hV, ← hP2]
    clear hV hP2 k0 k1 k2 k3 g0 g1 g2 g3
    have ST := Lib.hid st
    clear st
    obtain ⟨k0, k1, k2, k3⟩ := ST.out.bx.cells4
    have hFR := ST.out.q.br
    have c20 := hFR.cells4.1
    have c21 := hFR.cells4.2.1
    have c22 := hFR.cells4.2.2.1
    have c23 := hFR.cells4.2.2.2
    have f20 := hFR.frozen 0
    have f21 := hFR.frozen 1
    have f22 := hFR.frozen 2
    have f23 := hFR.frozen 3
    obtain ⟨gb, gn, gv⟩ := ST.out.q.done (.slice R rl rc) (.bool rb) (.slice R' rl' rc') (.bool rb')
    have GR := Lib.hid (gv ST.out.rv)
    have GN := Lib.hid gn
    obtain ⟨y0, y1, y2, y3⟩ := gb.cells4
    clear hFR gb gn gv ST
    go_wp2
    refine bodyPost_ret (v := .agg #[.slice R rl rc, .bool rb, .slice R' rl' rc', .bool rb']) (by simp [results, Tryz.results64, go_sem, y0, y1, y2, y3]) rfl ⟨_, rfl, GR.out, GN.out⟩
end
end Go.Proofs.YtkjlmibleoecgaaGreatDoor
