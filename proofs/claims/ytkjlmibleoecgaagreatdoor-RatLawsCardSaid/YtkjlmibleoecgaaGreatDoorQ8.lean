/- The program's rat: Div, joined (Add, Sub), Of. (Printed by mkq8.py.) -/
import Derived.Test.YtkjlmibleoecgaaGreatDoorQ7
import Derived.Test.YtkjlmibleoecgaaGreatDoorM4
namespace Go.Proofs.YtkjlmibleoecgaaGreatDoor
set_option linter.unusedSimpArgs false
set_option linter.unusedVariables false
open Go.RowKit
theorem mk_one (a : Int) : mkN a 1 = a ∧ mkD a 1 = 1 := by
  have hg : gcdZ a 1 = 1 := by unfold gcdZ; exact Nat.gcd_one_right _
  unfold mkN mkD upZ
  rw [hg, if_neg (by decide), if_neg (by decide), if_neg (by decide), if_neg (by decide)]
  exact ⟨Int.tdiv_one a, rfl⟩
theorem RatB.of {w : World} {A : Option Addr} {l c : Nat} {A' : Option Addr} {l' c' : Nat} {b b' : Bool} {n d : Int} {k j : Nat} (h1 : NumB w (.agg #[.slice A l c, .bool b]) n k) (h2 : NumB w (.agg #[.slice A' l' c', .bool b']) d j) (K : Nat) (hk : k ≤ K) (hj : j ≤ K) : RatB w (.agg #[.slice A l c, .bool b, .slice A' l' c', .bool b']) n d K := by
  obtain ⟨B, m, e, e1, -⟩ := h1.form
  obtain ⟨B', m', e', e2, -⟩ := h2.form
  simp only [Value.agg.injEq, Array.mk.injEq, List.cons.injEq, Value.bool.injEq, and_true] at e1 e2
  obtain ⟨e1, e3⟩ := e1
  obtain ⟨e2, e4⟩ := e2
  subst e3 e4
  exact ⟨A, l, c, A', l', c', rfl, h1.more hk, h2.more hj⟩
section
variable {w : World} {u v : Value} {n d n2 d2 : Int} {k : Nat}
set_option maxRecDepth 1000000 in
set_option maxHeartbeats 20000000 in
theorem qdiv_n (hx : RatB w u n d k) (hy : RatB w v n2 d2 k) (hk : k ≤ 7000) (hk2 : 2 ≤ k) :
    Calls Tryz.prog 60 #[u, v] w fun e w' => ∃ r, e = .returned (.tuple #[r, .int .i64 (divI (denZ d * n2))]) ∧ RatB w' r (mkN (n * denZ d2) (denZ d * n2)) (mkD (n * denZ d2) (denZ d * n2)) (k + k) ∧ New w w' := by
  obtain ⟨A, l, c, b, A', l', c', b', C, m, e, f, C', m', e', f', rfl, rfl, hq⟩ := Q2x.start hx hy
  have Q0 := Lib.hid hq
  clear hx hy hq
  have HM1 := Lib.hid (fun W u v (h : NumB W u n k) (h2 : NumB W v (denZ d2) k) => mul_n h h2 (by omega) (by omega))
  have HD1 := Lib.hid (fun W v (h : RatB W v n d k) => den_n h (by omega) hk2)
  have HD2 := Lib.hid (fun W v (h : RatB W v n2 d2 k) => den_n h (by omega) hk2)
  have HM2 := Lib.hid (fun W u v (h : NumB W u (denZ d) k) (h2 : NumB W v n2 k) => mul_n h h2 (by omega) (by omega))
  have HMK := Lib.hid (fun W u v (h : NumB W u (n * denZ d2) (k + k)) (h2 : NumB W v (denZ d * n2) (k + k)) => qmake_n h h2 (by omega))
  generalize divI (denZ d * n2) = de at *
  go_enter Tryz.func60, Tryz.ntmps60
  go_wp2
  generalize hW : ((w.alloc (.cells #[.slice A l c, .bool b, .slice A' l' c', .bool b'] NRat)).alloc (.cells #[.slice C m e, .bool f, .slice C' m' e', .bool f'] NRat)).alloc (.cells #[.slice none 0 0, .bool false, .slice none 0 0, .bool false] NRat) = W at *
  clear hW
  refine wp_region_rel (by kernel_rfl) (VL [(6, fun ww vv => vv = .pointer (some ⟨w.heap.size, 0, none⟩)), (7, fun ww vv => vv = .agg #[.slice A l c, .bool b]), (8, fun ww vv => vv = .agg #[.slice C m e, .bool f, .slice C' m' e', .bool f']), (9, fun ww vv => NumB ww vv (denZ d2) (k)), (10, fun ww vv => NumB ww vv (n * denZ d2) (k + k)), (11, fun ww vv => vv = .agg #[.slice A l c, .bool b, .slice A' l' c', .bool b']), (12, fun ww vv => NumB ww vv (denZ d) (k)), (13, fun ww vv => vv = .pointer (some ⟨w.heap.size + 1, 0, none⟩)), (14, fun ww vv => vv = .agg #[.slice C m e, .bool f]), (15, fun ww vv => NumB ww vv (denZ d * n2) (k + k)), (16, fun ww vv => ∃ r, vv = .tuple #[r, .int .i64 (de)] ∧ RatB ww r (mkN (n * denZ d2) (denZ d * n2)) (mkD (n * denZ d2) (denZ d * n2)) (k + k)), (17, fun ww vv => RatB ww vv (mkN (n * denZ d2) (denZ d * n2)) (mkD (n * denZ d2) (denZ d * n2)) (k + k)), (18, fun ww vv => vv = .int .i64 de)]) (VL_mono ⟨fun _ _ _ h _ => h, fun _ _ _ h _ => h, fun _ _ _ h _ => h, fun _ _ _ h hn => NumB.new h hn, fun _ _ _ h hn => NumB.new h hn, fun _ _ _ h _ => h, fun _ _ _ h hn => NumB.new h hn, fun _ _ _ h _ => h, fun _ _ _ h _ => h, fun _ _ _ h hn => NumB.new h hn, fun _ _ _ h hn => h.elim fun r h => ⟨r, h.1, h.2.new hn⟩, fun _ _ _ h hn => RatB.new h hn, fun _ _ _ h _ => h, trivial⟩) _ _ [false, false, false, false, false, false, true, true, true, true, true, true, true, true, true, true, true, true, true] [true, true, true, true, true, true, true, true, true, true, true, true, true, false, false] [false, false, false, false, false, false, false, false, false, false, false, false, false, false, false] [[], [6], [], [8], [7, 9], [], [11], [], [13], [12, 14], [10, 15], [16], [16], [], []] [6, 7, 8, 9, 10, 11, 12, 13, 14, 15, 16, 17, 18] 2 (by kernel_rfl) rfl rfl (by kernel_rfl) (by kernel_rfl) (fun _ _ _ _ _ h => h) ⟨?o0, ?o1, ?o2, ?o3, ?o4, ?o5, ?o6, ?o7, ?o8, ?o9, ?o10, ?o11, ?o12, trivial⟩ ?last
  case o0 =>
    intro s w' K hn hk hK
    clear hk
    simp only [fr, fill, Nat.reduceAdd, Act.put, List.setIfInBounds_toArray, List.set_cons_zero, List.set_cons_succ] at hK ⊢
    refine ⟨true, rfl, ?_⟩
    show Oper.wp _ _ _ _ _ _
    (first | go_big_op | go_simp)
    exact hK _ _ (New.refl _) rfl
  case o1 =>
    intro s w' K hn hk hK
    have h6 : (s 6) = .pointer (some ⟨w.heap.size, 0, none⟩) := hk.here
    clear hk
    simp only [fr, fill, Nat.reduceAdd, Act.put, List.setIfInBounds_toArray, List.set_cons_zero, List.set_cons_succ] at hK ⊢
    generalize s 6 = x6 at *
    subst h6
    have hq := Q0.out.new hn
    obtain ⟨c0, c1, c2, c3⟩ := hq.ba.cells4
    clear hq
    refine ⟨true, rfl, ?_⟩
    show Oper.wp _ _ _ _ _ _
    (first | go_big_op | go_simp)
    exact hK _ _ (New.refl _) rfl
  case o2 =>
    intro s w' K hn hk hK
    clear hk
    simp only [fr, fill, Nat.reduceAdd, Act.put, List.setIfInBounds_toArray, List.set_cons_zero, List.set_cons_succ] at hK ⊢
    have hq := Q0.out.new hn
    obtain ⟨c4, c5, c6, c7⟩ := hq.bb.cells4
    clear hq
    refine ⟨true, rfl, ?_⟩
    show Oper.wp _ _ _ _ _ _
    (first | go_big_op | go_simp)
    exact hK _ _ (New.refl _) rfl
  case o3 =>
    intro s w' K hn hk hK
    have h8 : (s 8) = .agg #[.slice C m e, .bool f, .slice C' m' e', .bool f'] := hk.here
    clear hk
    simp only [fr, fill, Nat.reduceAdd, Act.put, List.setIfInBounds_toArray, List.set_cons_zero, List.set_cons_succ] at hK ⊢
    generalize s 8 = x8 at *
    subst h8
    refine ⟨true, rfl, ?_⟩
    show Oper.wp _ _ _ _ _ _
    (first | go_big_op | go_simp)
    refine (HD2.out _ _ (Q0.out.yv.new hn)).mono ?_
    rintro e' w'' ⟨v', rfl, hv', hn'⟩
    exact hK _ _ hn' hv'
  case o4 =>
    intro s w' K hn hk hK
    have h7 : (s 7) = .agg #[.slice A l c, .bool b] := hk.here
    have h9 : NumB w' (s 9) (denZ d2) (k) := hk.next.here
    clear hk
    simp only [fr, fill, Nat.reduceAdd, Act.put, List.setIfInBounds_toArray, List.set_cons_zero, List.set_cons_succ] at hK ⊢
    generalize s 7 = x7 at *
    generalize s 9 = x9 at *
    subst h7
    refine ⟨true, rfl, ?_⟩
    show Oper.wp _ _ _ _ _ _
    (first | go_big_op | go_simp)
    refine (HM1.out _ _ _ (Q0.out.xn.new hn) h9).mono ?_
    rintro e' w'' ⟨v', rfl, hv', hn'⟩
    exact hK _ _ hn' hv'
  case o5 =>
    intro s w' K hn hk hK
    clear hk
    simp only [fr, fill, Nat.reduceAdd, Act.put, List.setIfInBounds_toArray, List.set_cons_zero, List.set_cons_succ] at hK ⊢
    have hq := Q0.out.new hn
    obtain ⟨c0, c1, c2, c3⟩ := hq.ba.cells4
    clear hq
    refine ⟨true, rfl, ?_⟩
    show Oper.wp _ _ _ _ _ _
    (first | go_big_op | go_simp)
    exact hK _ _ (New.refl _) rfl
  case o6 =>
    intro s w' K hn hk hK
    have h11 : (s 11) = .agg #[.slice A l c, .bool b, .slice A' l' c', .bool b'] := hk.here
    clear hk
    simp only [fr, fill, Nat.reduceAdd, Act.put, List.setIfInBounds_toArray, List.set_cons_zero, List.set_cons_succ] at hK ⊢
    generalize s 11 = x11 at *
    subst h11
    refine ⟨true, rfl, ?_⟩
    show Oper.wp _ _ _ _ _ _
    (first | go_big_op | go_simp)
    refine (HD1.out _ _ (Q0.out.xv.new hn)).mono ?_
    rintro e' w'' ⟨v', rfl, hv', hn'⟩
    exact hK _ _ hn' hv'
  case o7 =>
    intro s w' K hn hk hK
    clear hk
    simp only [fr, fill, Nat.reduceAdd, Act.put, List.setIfInBounds_toArray, List.set_cons_zero, List.set_cons_succ] at hK ⊢
    refine ⟨true, rfl, ?_⟩
    show Oper.wp _ _ _ _ _ _
    (first | go_big_op | go_simp)
    exact hK _ _ (New.refl _) rfl
  case o8 =>
    intro s w' K hn hk hK
    have h13 : (s 13) = .pointer (some ⟨w.heap.size + 1, 0, none⟩) := hk.here
    clear hk
    simp only [fr, fill, Nat.reduceAdd, Act.put, List.setIfInBounds_toArray, List.set_cons_zero, List.set_cons_succ] at hK ⊢
    generalize s 13 = x13 at *
    subst h13
    have hq := Q0.out.new hn
    obtain ⟨c4, c5, c6, c7⟩ := hq.bb.cells4
    clear hq
    refine ⟨true, rfl, ?_⟩
    show Oper.wp _ _ _ _ _ _
    (first | go_big_op | go_simp)
    exact hK _ _ (New.refl _) rfl
  case o9 =>
    intro s w' K hn hk hK
    have h12 : NumB w' (s 12) (denZ d) (k) := hk.here
    have h14 : (s 14) = .agg #[.slice C m e, .bool f] := hk.next.here
    clear hk
    simp only [fr, fill, Nat.reduceAdd, Act.put, List.setIfInBounds_toArray, List.set_cons_zero, List.set_cons_succ] at hK ⊢
    generalize s 12 = x12 at *
    generalize s 14 = x14 at *
    subst h14
    refine ⟨true, rfl, ?_⟩
    show Oper.wp _ _ _ _ _ _
    (first | go_big_op | go_simp)
    refine (HM2.out _ _ _ h12 (Q0.out.yn.new hn)).mono ?_
    rintro e' w'' ⟨v', rfl, hv', hn'⟩
    exact hK _ _ hn' hv'
  case o10 =>
    intro s w' K hn hk hK
    have h10 : NumB w' (s 10) (n * denZ d2) (k + k) := hk.here
    have h15 : NumB w' (s 15) (denZ d * n2) (k + k) := hk.next.here
    clear hk
    simp only [fr, fill, Nat.reduceAdd, Act.put, List.setIfInBounds_toArray, List.set_cons_zero, List.set_cons_succ] at hK ⊢
    generalize s 10 = x10 at *
    generalize s 15 = x15 at *
    refine ⟨true, rfl, ?_⟩
    show Oper.wp _ _ _ _ _ _
    (first | go_big_op | go_simp)
    refine (HMK.out _ _ _ h10 h15).mono ?_
    rintro e' w'' ⟨r, rfl, hv', hn'⟩
    exact hK _ _ hn' ⟨_, rfl, hv'⟩
  case o11 =>
    intro s w' K hn hk hK
    have h16 : ∃ r, (s 16) = .tuple #[r, .int .i64 (de)] ∧ RatB w' r (mkN (n * denZ d2) (denZ d * n2)) (mkD (n * denZ d2) (denZ d * n2)) (k + k) := hk.here
    clear hk
    simp only [fr, fill, Nat.reduceAdd, Act.put, List.setIfInBounds_toArray, List.set_cons_zero, List.set_cons_succ] at hK ⊢
    generalize s 16 = x16 at *
    obtain ⟨r16, rfl, h16⟩ := h16
    refine ⟨true, rfl, ?_⟩
    show Oper.wp _ _ _ _ _ _
    (first | go_big_op | go_simp)
    exact hK _ _ (New.refl _) h16
  case o12 =>
    intro s w' K hn hk hK
    have h16 : ∃ r, (s 16) = .tuple #[r, .int .i64 (de)] ∧ RatB w' r (mkN (n * denZ d2) (denZ d * n2)) (mkD (n * denZ d2) (denZ d * n2)) (k + k) := hk.here
    clear hk
    simp only [fr, fill, Nat.reduceAdd, Act.put, List.setIfInBounds_toArray, List.set_cons_zero, List.set_cons_succ] at hK ⊢
    generalize s 16 = x16 at *
    obtain ⟨r16, rfl, h16⟩ := h16
    refine ⟨true, rfl, ?_⟩
    show Oper.wp _ _ _ _ _ _
    (first | go_big_op | go_simp)
    exact hK _ _ (New.refl _) rfl
  case last =>
    intro s V0 hn hk
    have h6 : (s 6) = .pointer (some ⟨w.heap.size, 0, none⟩) := hk.here
    have h7 : (s 7) = .agg #[.slice A l c, .bool b] := hk.next.here
    have h8 : (s 8) = .agg #[.slice C m e, .bool f, .slice C' m' e', .bool f'] := hk.next.next.here
    have h9 : NumB V0 (s 9) (denZ d2) (k) := hk.next.next.next.here
    have h10 : NumB V0 (s 10) (n * denZ d2) (k + k) := hk.next.next.next.next.here
    have h11 : (s 11) = .agg #[.slice A l c, .bool b, .slice A' l' c', .bool b'] := hk.next.next.next.next.next.here
    have h12 : NumB V0 (s 12) (denZ d) (k) := hk.next.next.next.next.next.next.here
    have h13 : (s 13) = .pointer (some ⟨w.heap.size + 1, 0, none⟩) := hk.next.next.next.next.next.next.next.here
    have h14 : (s 14) = .agg #[.slice C m e, .bool f] := hk.next.next.next.next.next.next.next.next.here
    have h15 : NumB V0 (s 15) (denZ d * n2) (k + k) := hk.next.next.next.next.next.next.next.next.next.here
    have h16 : ∃ r, (s 16) = .tuple #[r, .int .i64 (de)] ∧ RatB V0 r (mkN (n * denZ d2) (denZ d * n2)) (mkD (n * denZ d2) (denZ d * n2)) (k + k) := hk.next.next.next.next.next.next.next.next.next.next.here
    have h17 : RatB V0 (s 17) (mkN (n * denZ d2) (denZ d * n2)) (mkD (n * denZ d2) (denZ d * n2)) (k + k) := hk.next.next.next.next.next.next.next.next.next.next.next.here
    have h18 : (s 18) = .int .i64 de := hk.next.next.next.next.next.next.next.next.next.next.next.next.here
    clear hk
    simp only [fr, fill, Nat.reduceAdd, Act.put, List.setIfInBounds_toArray, List.set_cons_zero, List.set_cons_succ]
    generalize s 6 = x6 at *
    generalize s 7 = x7 at *
    generalize s 8 = x8 at *
    generalize s 9 = x9 at *
    generalize s 10 = x10 at *
    generalize s 11 = x11 at *
    generalize s 12 = x12 at *
    generalize s 13 = x13 at *
    generalize s 14 = x14 at *
    generalize s 15 = x15 at *
    generalize s 16 = x16 at *
    generalize s 17 = x17 at *
    generalize s 18 = x18 at *
    subst h6
    subst h7
    subst h8
    subst h11
    subst h13
    subst h14
    obtain ⟨r16, rfl, h16⟩ := h16
    subst h18
    refine wpAny_chain [13, 14] _ _ _ (by kernel_rfl) ?_
    change wpList _ _ _ [_, _] _ _
    have hq := Q0.out.new hn
    obtain ⟨R, rl, rc, R', rl', rc', rfl⟩ := RatB.form h17
    generalize decide (mkN (n * denZ d2) (denZ d * n2) < 0) = rb at *
    generalize decide (mkD (n * denZ d2) (denZ d * n2) < 0) = rb' at *
    have hFR := hq.br
    have c20 := hFR.cells4.1
    have c21 := hFR.cells4.2.1
    have c22 := hFR.cells4.2.2.1
    have c23 := hFR.cells4.2.2.2
    have f20 := hFR.frozen 0
    have f21 := hFR.frozen 1
    have f22 := hFR.frozen 2
    have f23 := hFR.frozen 3
    obtain ⟨gb, gn, gv⟩ := hq.done (.slice R rl rc) (.bool rb) (.slice R' rl' rc') (.bool rb')
    have GR := Lib.hid (gv h17)
    have GN := Lib.hid gn
    obtain ⟨y0, y1, y2, y3⟩ := gb.cells4
    clear hq h9 h10 h12 h15 h16 h17 hn hFR gb gn gv
    refine wpList_plain rfl fun K13 hK13 => ?_
    go_simp
    refine hK13 _ _ ?_
    clear hK13
    refine wpList_plain rfl fun K14 hK14 => ?_
    go_simp
    refine hK14 _ _ ?_
    clear hK14
    change Exit.then _ _ .normal _ _
    simp only [Exit.then]
    go_wp2_with fail
    refine bodyPost_ret (v := .tuple #[.agg #[.slice R rl rc, .bool rb, .slice R' rl' rc', .bool rb'], .int .i64 de]) (by simp [results, Tryz.results60, go_sem, y0, y1, y2, y3]) rfl ⟨_, rfl, GR.out, GN.out⟩
set_option maxRecDepth 1000000 in
set_option maxHeartbeats 20000000 in
theorem qjoin_add (hx : RatB w u n d k) (hy : RatB w v n2 d2 k) (hk : k ≤ 3000) (hk2 : 2 ≤ k) :
    Calls Tryz.prog 104 #[u, v, .func (.func 26) #[] #[]] w fun e w' => ∃ r, e = .returned r ∧ RatB w' r (mkN (n * denZ d2 + n2 * denZ d) (denZ d * denZ d2)) (mkD (n * denZ d2 + n2 * denZ d) (denZ d * denZ d2)) (k + k + (k + k) + 1) ∧ New w w' := by
  obtain ⟨A, l, c, b, A', l', c', b', C, m, e, f, C', m', e', f', rfl, rfl, hq⟩ := Q2x.start hx hy
  have Q0 := Lib.hid hq
  clear hx hy hq
  have HD1 := Lib.hid (fun W v (h : RatB W v n d k) => den_n h (by omega) hk2)
  have HD2 := Lib.hid (fun W v (h : RatB W v n2 d2 k) => den_n h (by omega) hk2)
  have HON := Lib.hid one_n
  have HC1 := Lib.hid (fun W u v s (h : NumB W u (denZ d) k) (h2 : NumB W v 1 2) (hs : cmpZ (denZ d) 1 = s) => cmp_v s h h2 (by omega) (by omega) hs)
  have HC2 := Lib.hid (fun W u v s (h : NumB W u (denZ d2) k) (h2 : NumB W v 1 2) (hs : cmpZ (denZ d2) 1 = s) => cmp_v s h h2 (by omega) (by omega) hs)
  by_cases hb : denZ d = 1 ∧ denZ d2 = 1
  · have e1 : mkN (n * denZ d2 + n2 * denZ d) (denZ d * denZ d2) = n + n2 := by rw [hb.1, hb.2, Int.mul_one, Int.mul_one, Int.mul_one]; exact (mk_one _).1
    have e2 : mkD (n * denZ d2 + n2 * denZ d) (denZ d * denZ d2) = 1 := by rw [hb.1, hb.2, Int.mul_one, Int.mul_one, Int.mul_one]; exact (mk_one _).2
    rw [e1, e2]
    have HB1 := Lib.hid (show cmpZ (denZ d) 1 = 0 by unfold cmpZ; rw [if_neg (by omega), if_neg (by omega)])
    have HB2 := Lib.hid (show cmpZ (denZ d2) 1 = 0 by unfold cmpZ; rw [if_neg (by omega), if_neg (by omega)])
    have HF := Lib.hid (fun W u v (h : NumB W u n k) (h2 : NumB W v n2 k) => add_n h h2 (by omega) (by omega))
    have HD : Hid (decide ((1 : Int) < 0) = false) := Lib.hid rfl
    clear e1 e2 hb
    go_enter Tryz.func104, Tryz.ntmps104
    go_wp2_with fail
    refine (HD1.out _ _ Q0.out.xv).mono ?_
    rintro e1 w1 ⟨v1, rfl, hv, hn⟩
    have Q1 := Lib.hid (Q0.out.new hn)
    have T1 := Lib.hid hv
    clear hv hn Q0
    obtain ⟨c0, c1, c2, c3⟩ := Q1.out.ba.cells4
    obtain ⟨c4, c5, c6, c7⟩ := Q1.out.bb.cells4
    go_wp2_with fail
    refine (HON.out _).mono ?_
    rintro e1 w2 ⟨v2, rfl, hv, hn⟩
    have Q2 := Lib.hid (Q1.out.new hn)
    replace T1 := Lib.hid (T1.out.new hn)
    have T2 := Lib.hid hv
    clear hv hn Q1
    clear c0 c1 c2 c3 c4 c5 c6 c7
    obtain ⟨c0, c1, c2, c3⟩ := Q2.out.ba.cells4
    obtain ⟨c4, c5, c6, c7⟩ := Q2.out.bb.cells4
    go_wp2_with fail
    refine (HC1.out _ _ _ _ T1.out T2.out HB1.out).mono ?_
    rintro e1 w3 ⟨rfl, hn⟩
    have Q3 := Lib.hid (Q2.out.new hn)
    clear hn Q2
    clear c0 c1 c2 c3 c4 c5 c6 c7
    obtain ⟨c0, c1, c2, c3⟩ := Q3.out.ba.cells4
    obtain ⟨c4, c5, c6, c7⟩ := Q3.out.bb.cells4
    go_wp2_with fail
    refine (HD2.out _ _ Q3.out.yv).mono ?_
    rintro e1 w4 ⟨v3, rfl, hv, hn⟩
    have Q4 := Lib.hid (Q3.out.new hn)
    clear T1 T2
    have T1 := Lib.hid hv
    clear hv hn Q3
    clear c0 c1 c2 c3 c4 c5 c6 c7
    obtain ⟨c0, c1, c2, c3⟩ := Q4.out.ba.cells4
    obtain ⟨c4, c5, c6, c7⟩ := Q4.out.bb.cells4
    go_wp2_with fail
    refine (HON.out _).mono ?_
    rintro e1 w5 ⟨v4, rfl, hv, hn⟩
    have Q5 := Lib.hid (Q4.out.new hn)
    replace T1 := Lib.hid (T1.out.new hn)
    have T2 := Lib.hid hv
    clear hv hn Q4
    clear c0 c1 c2 c3 c4 c5 c6 c7
    obtain ⟨c0, c1, c2, c3⟩ := Q5.out.ba.cells4
    obtain ⟨c4, c5, c6, c7⟩ := Q5.out.bb.cells4
    go_wp2_with fail
    refine (HC2.out _ _ _ _ T1.out T2.out HB2.out).mono ?_
    rintro e1 w6 ⟨rfl, hn⟩
    have Q6 := Lib.hid (Q5.out.new hn)
    clear hn Q5
    clear c0 c1 c2 c3 c4 c5 c6 c7
    obtain ⟨c0, c1, c2, c3⟩ := Q6.out.ba.cells4
    obtain ⟨c4, c5, c6, c7⟩ := Q6.out.bb.cells4
    go_wp2_with fail
    refine (HF.out _ _ _ Q6.out.xn Q6.out.yn).mono ?_
    rintro e1 w7 ⟨v5, rfl, hv, hn⟩
    have Q7 := Lib.hid (Q6.out.new hn)
    clear T1 T2
    obtain ⟨A5, l5, c55, rfl, -⟩ := hv.form
    generalize decide (n + n2 < 0) = b5 at *
    have T1 := Lib.hid hv
    clear hv hn Q6
    clear c0 c1 c2 c3 c4 c6 c7
    obtain ⟨c0, c1, c2, c3⟩ := Q7.out.ba.cells4
    obtain ⟨c4, c5x, c6, c7⟩ := Q7.out.bb.cells4
    go_wp2_with fail
    refine (HON.out _).mono ?_
    rintro e1 w8 ⟨v6, rfl, hv, hn⟩
    have Q8 := Lib.hid (Q7.out.new hn)
    replace T1 := Lib.hid (T1.out.new hn)
    obtain ⟨A6, l6, c66, rfl, -⟩ := hv.form
    rw [HD.out] at *
    have T2 := Lib.hid hv
    clear hv hn Q7
    have hq := Q8.out
    have hFR := hq.br
    have c20 := hFR.cells4.1
    have c21 := hFR.cells4.2.1
    have c22 := hFR.cells4.2.2.1
    have c23 := hFR.cells4.2.2.2
    have f20 := hFR.frozen 0
    have f21 := hFR.frozen 1
    have f22 := hFR.frozen 2
    have f23 := hFR.frozen 3
    obtain ⟨gb, gn, gv⟩ := hq.done (.slice A5 l5 c55) (.bool b5) (.slice A6 l6 c66) (.bool false)
    have GR := Lib.hid (gv (RatB.of T1.out T2.out (k + k + (k + k) + 1) (by omega) (by omega)))
    have GN := Lib.hid gn
    obtain ⟨y0, y1, y2, y3⟩ := gb.cells4
    clear hq T1 T2 hFR gb gn gv Q8
    clear c0 c1 c2 c3 c4 c6 c7
    go_wp2
    refine bodyPost_ret (v := .agg #[.slice A5 l5 c55, .bool b5, .slice A6 l6 c66, .bool false]) (by simp [results, Tryz.results104, go_sem, y0, y1, y2, y3]) rfl ⟨_, rfl, GR.out, GN.out⟩
  · have HM1 := Lib.hid (fun W u v (h : NumB W u n k) (h2 : NumB W v (denZ d2) k) => mul_n h h2 (by omega) (by omega))
    have HM2 := Lib.hid (fun W u v (h : NumB W u n2 k) (h2 : NumB W v (denZ d) k) => mul_n h h2 (by omega) (by omega))
    have HM3 := Lib.hid (fun W u v (h : NumB W u (denZ d) k) (h2 : NumB W v (denZ d2) k) => mul_n h h2 (by omega) (by omega))
    have HF := Lib.hid (fun W u v (h : NumB W u (n * denZ d2) (k + k)) (h2 : NumB W v (n2 * denZ d) (k + k)) => add_n h h2 (by omega) (by omega))
    have HMK := Lib.hid (fun W u v (h : NumB W u (n * denZ d2 + n2 * denZ d) (k + k + (k + k) + 1)) (h2 : NumB W v (denZ d * denZ d2) (k + k + (k + k) + 1)) => qmake_n h h2 (by omega))
    generalize divI (denZ d * denZ d2) = de at *
    obtain ⟨s1, hs1⟩ : ∃ s, cmpZ (denZ d) 1 = s := ⟨_, rfl⟩
    obtain ⟨s2, hs2⟩ : ∃ s, cmpZ (denZ d2) 1 = s := ⟨_, rfl⟩
    have HB1 := Lib.hid hs1
    have HB2 := Lib.hid hs2
    have hor : ((s1 == 0) = false) ∨ (s1 = 0 ∧ (s2 == 0) = false) := by
      by_cases h1 : denZ d = 1
      · right
        have h2 : denZ d2 ≠ 1 := fun e => hb ⟨h1, e⟩
        refine ⟨by rw [← hs1]; unfold cmpZ; rw [if_neg (by omega), if_neg (by omega)], ?_⟩
        rw [beq_eq_false_iff_ne, ← hs2]; unfold cmpZ; (repeat' split) <;> omega
      · left
        rw [beq_eq_false_iff_ne, ← hs1]; unfold cmpZ; (repeat' split) <;> omega
    clear hb hs1 hs2
    rcases hor with hor | ⟨rfl, hor⟩
    · go_enter Tryz.func104, Tryz.ntmps104
      go_wp2_with fail
      refine (HD1.out _ _ Q0.out.xv).mono ?_
      rintro e1 w1 ⟨v1, rfl, hv, hn⟩
      have Q1 := Lib.hid (Q0.out.new hn)
      have T1 := Lib.hid hv
      clear hv hn Q0
      obtain ⟨c0, c1, c2, c3⟩ := Q1.out.ba.cells4
      obtain ⟨c4, c5, c6, c7⟩ := Q1.out.bb.cells4
      go_wp2_with fail
      refine (HON.out _).mono ?_
      rintro e1 w2 ⟨v2, rfl, hv, hn⟩
      have Q2 := Lib.hid (Q1.out.new hn)
      replace T1 := Lib.hid (T1.out.new hn)
      have T2 := Lib.hid hv
      clear hv hn Q1
      clear c0 c1 c2 c3 c4 c5 c6 c7
      obtain ⟨c0, c1, c2, c3⟩ := Q2.out.ba.cells4
      obtain ⟨c4, c5, c6, c7⟩ := Q2.out.bb.cells4
      go_wp2_with fail
      refine (HC1.out _ _ _ _ T1.out T2.out HB1.out).mono ?_
      rintro e1 w3 ⟨rfl, hn⟩
      have Q3 := Lib.hid (Q2.out.new hn)
      clear hn Q2
      clear c0 c1 c2 c3 c4 c5 c6 c7
      obtain ⟨c0, c1, c2, c3⟩ := Q3.out.ba.cells4
      obtain ⟨c4, c5, c6, c7⟩ := Q3.out.bb.cells4
      clear c0 c1 c2 c3 c4 c5 c6 c7
      clear T1 T2
      go_wp2
      refine wp_region_rel (by kernel_rfl) (VL [(7, fun ww vv => ∃ P, vv = .pointer (some ⟨P, 0, none⟩) ∧ Box ww P #[.slice none 0 0, .bool false, .slice none 0 0, .bool false] NRat ∧ w.heap.size + 3 ≤ P), (29, fun ww vv => ∃ r, vv = .tuple #[r, .int .i64 (de)] ∧ RatB ww r (mkN (n * denZ d2 + n2 * denZ d) (denZ d * denZ d2)) (mkD (n * denZ d2 + n2 * denZ d) (denZ d * denZ d2)) (k + k + (k + k) + 1)), (30, fun ww vv => vv = .func (.func 26) #[] #[]), (31, fun ww vv => vv = .pointer (some ⟨w.heap.size, 0, none⟩)), (32, fun ww vv => vv = .agg #[.slice A l c, .bool b]), (33, fun ww vv => vv = .agg #[.slice C m e, .bool f, .slice C' m' e', .bool f']), (34, fun ww vv => NumB ww vv (denZ d2) (k)), (35, fun ww vv => NumB ww vv (n * denZ d2) (k + k)), (36, fun ww vv => vv = .pointer (some ⟨w.heap.size + 1, 0, none⟩)), (37, fun ww vv => vv = .agg #[.slice C m e, .bool f]), (38, fun ww vv => vv = .agg #[.slice A l c, .bool b, .slice A' l' c', .bool b']), (39, fun ww vv => NumB ww vv (denZ d) (k)), (40, fun ww vv => NumB ww vv (n2 * denZ d) (k + k)), (41, fun ww vv => NumB ww vv (n * denZ d2 + n2 * denZ d) (k + k + (k + k) + 1)), (42, fun ww vv => vv = .agg #[.slice A l c, .bool b, .slice A' l' c', .bool b']), (43, fun ww vv => NumB ww vv (denZ d) (k)), (44, fun ww vv => vv = .agg #[.slice C m e, .bool f, .slice C' m' e', .bool f']), (45, fun ww vv => NumB ww vv (denZ d2) (k)), (46, fun ww vv => NumB ww vv (denZ d * denZ d2) (k + k)), (47, fun ww vv => ∃ r, vv = .tuple #[r, .int .i64 (de)] ∧ RatB ww r (mkN (n * denZ d2 + n2 * denZ d) (denZ d * denZ d2)) (mkD (n * denZ d2 + n2 * denZ d) (denZ d * denZ d2)) (k + k + (k + k) + 1)), (48, fun ww vv => RatB ww vv (mkN (n * denZ d2 + n2 * denZ d) (denZ d * denZ d2)) (mkD (n * denZ d2 + n2 * denZ d) (denZ d * denZ d2)) (k + k + (k + k) + 1)), (49, fun ww vv => vv = .int .i64 de)]) (VL_mono ⟨fun _ _ _ h hn => h.elim fun P h => ⟨P, h.1, h.2.1.new hn, h.2.2⟩, fun _ _ _ h hn => h.elim fun r h => ⟨r, h.1, h.2.new hn⟩, fun _ _ _ h _ => h, fun _ _ _ h _ => h, fun _ _ _ h _ => h, fun _ _ _ h _ => h, fun _ _ _ h hn => NumB.new h hn, fun _ _ _ h hn => NumB.new h hn, fun _ _ _ h _ => h, fun _ _ _ h _ => h, fun _ _ _ h _ => h, fun _ _ _ h hn => NumB.new h hn, fun _ _ _ h hn => NumB.new h hn, fun _ _ _ h hn => NumB.new h hn, fun _ _ _ h _ => h, fun _ _ _ h hn => NumB.new h hn, fun _ _ _ h _ => h, fun _ _ _ h hn => NumB.new h hn, fun _ _ _ h hn => NumB.new h hn, fun _ _ _ h hn => h.elim fun r h => ⟨r, h.1, h.2.new hn⟩, fun _ _ _ h hn => RatB.new h hn, fun _ _ _ h _ => h, trivial⟩) _ _ [false, false, false, false, false, false, false, true, false, false, false, false, false, false, false, false, false, false, false, false, false, false, false, false, false, false, false, false, false, true, true, true, true, true, true, true, true, true, true, true, true, true, true, true, true, true, true, true, true, true, false] [true, true, true, true, true, true, true, true, true, true, true, true, true, true, true, true, true, true, true, true, true, true, false, false] [false, false, false, false, false, false, false, false, false, false, false, false, false, false, false, false, false, false, false, false, true, false, false, false] [[], [], [31], [], [33], [32, 34], [], [36], [], [38], [37, 39], [30, 35, 40], [], [42], [], [44], [43, 45], [41, 46], [47], [29], [29], [], [], []] [7, 29, 30, 31, 32, 33, 34, 35, 36, 37, 38, 39, 40, 41, 42, 43, 44, 45, 46, 47, 48, 49] 2 (by kernel_rfl) rfl rfl (by kernel_rfl) (by kernel_rfl) (fun _ _ _ _ _ h => h) ⟨?o0, ?o1, ?o2, ?o3, ?o4, ?o5, ?o6, ?o7, ?o8, ?o9, ?o10, ?o11, ?o12, ?o13, ?o14, ?o15, ?o16, ?o17, ?o18, ?o19, ?o20, ?o21, trivial⟩ ?last
      case o0 =>
        intro s w' K hn hk hK
        clear hk
        simp only [fr, fill, Nat.reduceAdd, Act.put, List.setIfInBounds_toArray, List.set_cons_zero, List.set_cons_succ] at hK ⊢
        refine ⟨true, rfl, ?_⟩
        show Oper.wp _ _ _ _ _ _
        (first | go_big_op | go_simp)
        exact hK _ _ (New.refl _) rfl
      case o1 =>
        intro s w' K hn hk hK
        clear hk
        simp only [fr, fill, Nat.reduceAdd, Act.put, List.setIfInBounds_toArray, List.set_cons_zero, List.set_cons_succ] at hK ⊢
        refine ⟨true, rfl, ?_⟩
        show Oper.wp _ _ _ _ _ _
        (first | go_big_op | go_simp)
        exact hK _ _ (New.refl _) rfl
      case o2 =>
        intro s w' K hn hk hK
        have h31 : (s 31) = .pointer (some ⟨w.heap.size, 0, none⟩) := hk.here
        clear hk
        simp only [fr, fill, Nat.reduceAdd, Act.put, List.setIfInBounds_toArray, List.set_cons_zero, List.set_cons_succ] at hK ⊢
        generalize s 31 = x31 at *
        subst h31
        have hq := Q3.out.new hn
        obtain ⟨c0, c1, c2, c3⟩ := hq.ba.cells4
        clear hq
        refine ⟨true, rfl, ?_⟩
        show Oper.wp _ _ _ _ _ _
        (first | go_big_op | go_simp)
        exact hK _ _ (New.refl _) rfl
      case o3 =>
        intro s w' K hn hk hK
        clear hk
        simp only [fr, fill, Nat.reduceAdd, Act.put, List.setIfInBounds_toArray, List.set_cons_zero, List.set_cons_succ] at hK ⊢
        have hq := Q3.out.new hn
        obtain ⟨c4, c5, c6, c7⟩ := hq.bb.cells4
        clear hq
        refine ⟨true, rfl, ?_⟩
        show Oper.wp _ _ _ _ _ _
        (first | go_big_op | go_simp)
        exact hK _ _ (New.refl _) rfl
      case o4 =>
        intro s w' K hn hk hK
        have h33 : (s 33) = .agg #[.slice C m e, .bool f, .slice C' m' e', .bool f'] := hk.here
        clear hk
        simp only [fr, fill, Nat.reduceAdd, Act.put, List.setIfInBounds_toArray, List.set_cons_zero, List.set_cons_succ] at hK ⊢
        generalize s 33 = x33 at *
        subst h33
        refine ⟨true, rfl, ?_⟩
        show Oper.wp _ _ _ _ _ _
        (first | go_big_op | go_simp)
        refine (HD2.out _ _ (Q3.out.yv.new hn)).mono ?_
        rintro e' w'' ⟨v', rfl, hv', hn'⟩
        exact hK _ _ hn' hv'
      case o5 =>
        intro s w' K hn hk hK
        have h32 : (s 32) = .agg #[.slice A l c, .bool b] := hk.here
        have h34 : NumB w' (s 34) (denZ d2) (k) := hk.next.here
        clear hk
        simp only [fr, fill, Nat.reduceAdd, Act.put, List.setIfInBounds_toArray, List.set_cons_zero, List.set_cons_succ] at hK ⊢
        generalize s 32 = x32 at *
        generalize s 34 = x34 at *
        subst h32
        refine ⟨true, rfl, ?_⟩
        show Oper.wp _ _ _ _ _ _
        (first | go_big_op | go_simp)
        refine (HM1.out _ _ _ (Q3.out.xn.new hn) h34).mono ?_
        rintro e' w'' ⟨v', rfl, hv', hn'⟩
        exact hK _ _ hn' hv'
      case o6 =>
        intro s w' K hn hk hK
        clear hk
        simp only [fr, fill, Nat.reduceAdd, Act.put, List.setIfInBounds_toArray, List.set_cons_zero, List.set_cons_succ] at hK ⊢
        refine ⟨true, rfl, ?_⟩
        show Oper.wp _ _ _ _ _ _
        (first | go_big_op | go_simp)
        exact hK _ _ (New.refl _) rfl
      case o7 =>
        intro s w' K hn hk hK
        have h36 : (s 36) = .pointer (some ⟨w.heap.size + 1, 0, none⟩) := hk.here
        clear hk
        simp only [fr, fill, Nat.reduceAdd, Act.put, List.setIfInBounds_toArray, List.set_cons_zero, List.set_cons_succ] at hK ⊢
        generalize s 36 = x36 at *
        subst h36
        have hq := Q3.out.new hn
        obtain ⟨c4, c5, c6, c7⟩ := hq.bb.cells4
        clear hq
        refine ⟨true, rfl, ?_⟩
        show Oper.wp _ _ _ _ _ _
        (first | go_big_op | go_simp)
        exact hK _ _ (New.refl _) rfl
      case o8 =>
        intro s w' K hn hk hK
        clear hk
        simp only [fr, fill, Nat.reduceAdd, Act.put, List.setIfInBounds_toArray, List.set_cons_zero, List.set_cons_succ] at hK ⊢
        have hq := Q3.out.new hn
        obtain ⟨c0, c1, c2, c3⟩ := hq.ba.cells4
        clear hq
        refine ⟨true, rfl, ?_⟩
        show Oper.wp _ _ _ _ _ _
        (first | go_big_op | go_simp)
        exact hK _ _ (New.refl _) rfl
      case o9 =>
        intro s w' K hn hk hK
        have h38 : (s 38) = .agg #[.slice A l c, .bool b, .slice A' l' c', .bool b'] := hk.here
        clear hk
        simp only [fr, fill, Nat.reduceAdd, Act.put, List.setIfInBounds_toArray, List.set_cons_zero, List.set_cons_succ] at hK ⊢
        generalize s 38 = x38 at *
        subst h38
        refine ⟨true, rfl, ?_⟩
        show Oper.wp _ _ _ _ _ _
        (first | go_big_op | go_simp)
        refine (HD1.out _ _ (Q3.out.xv.new hn)).mono ?_
        rintro e' w'' ⟨v', rfl, hv', hn'⟩
        exact hK _ _ hn' hv'
      case o10 =>
        intro s w' K hn hk hK
        have h37 : (s 37) = .agg #[.slice C m e, .bool f] := hk.here
        have h39 : NumB w' (s 39) (denZ d) (k) := hk.next.here
        clear hk
        simp only [fr, fill, Nat.reduceAdd, Act.put, List.setIfInBounds_toArray, List.set_cons_zero, List.set_cons_succ] at hK ⊢
        generalize s 37 = x37 at *
        generalize s 39 = x39 at *
        subst h37
        refine ⟨true, rfl, ?_⟩
        show Oper.wp _ _ _ _ _ _
        (first | go_big_op | go_simp)
        refine (HM2.out _ _ _ (Q3.out.yn.new hn) h39).mono ?_
        rintro e' w'' ⟨v', rfl, hv', hn'⟩
        exact hK _ _ hn' hv'
      case o11 =>
        intro s w' K hn hk hK
        have h30 : (s 30) = .func (.func 26) #[] #[] := hk.here
        have h35 : NumB w' (s 35) (n * denZ d2) (k + k) := hk.next.here
        have h40 : NumB w' (s 40) (n2 * denZ d) (k + k) := hk.next.next.here
        clear hk
        simp only [fr, fill, Nat.reduceAdd, Act.put, List.setIfInBounds_toArray, List.set_cons_zero, List.set_cons_succ] at hK ⊢
        generalize s 30 = x30 at *
        generalize s 35 = x35 at *
        generalize s 40 = x40 at *
        subst h30
        refine ⟨true, rfl, ?_⟩
        show Oper.wp _ _ _ _ _ _
        (first | go_big_op | go_simp)
        refine (HF.out _ _ _ h35 h40).mono ?_
        rintro e' w'' ⟨v', rfl, hv', hn'⟩
        exact hK _ _ hn' hv'
      case o12 =>
        intro s w' K hn hk hK
        clear hk
        simp only [fr, fill, Nat.reduceAdd, Act.put, List.setIfInBounds_toArray, List.set_cons_zero, List.set_cons_succ] at hK ⊢
        have hq := Q3.out.new hn
        obtain ⟨c0, c1, c2, c3⟩ := hq.ba.cells4
        clear hq
        refine ⟨true, rfl, ?_⟩
        show Oper.wp _ _ _ _ _ _
        (first | go_big_op | go_simp)
        exact hK _ _ (New.refl _) rfl
      case o13 =>
        intro s w' K hn hk hK
        have h42 : (s 42) = .agg #[.slice A l c, .bool b, .slice A' l' c', .bool b'] := hk.here
        clear hk
        simp only [fr, fill, Nat.reduceAdd, Act.put, List.setIfInBounds_toArray, List.set_cons_zero, List.set_cons_succ] at hK ⊢
        generalize s 42 = x42 at *
        subst h42
        refine ⟨true, rfl, ?_⟩
        show Oper.wp _ _ _ _ _ _
        (first | go_big_op | go_simp)
        refine (HD1.out _ _ (Q3.out.xv.new hn)).mono ?_
        rintro e' w'' ⟨v', rfl, hv', hn'⟩
        exact hK _ _ hn' hv'
      case o14 =>
        intro s w' K hn hk hK
        clear hk
        simp only [fr, fill, Nat.reduceAdd, Act.put, List.setIfInBounds_toArray, List.set_cons_zero, List.set_cons_succ] at hK ⊢
        have hq := Q3.out.new hn
        obtain ⟨c4, c5, c6, c7⟩ := hq.bb.cells4
        clear hq
        refine ⟨true, rfl, ?_⟩
        show Oper.wp _ _ _ _ _ _
        (first | go_big_op | go_simp)
        exact hK _ _ (New.refl _) rfl
      case o15 =>
        intro s w' K hn hk hK
        have h44 : (s 44) = .agg #[.slice C m e, .bool f, .slice C' m' e', .bool f'] := hk.here
        clear hk
        simp only [fr, fill, Nat.reduceAdd, Act.put, List.setIfInBounds_toArray, List.set_cons_zero, List.set_cons_succ] at hK ⊢
        generalize s 44 = x44 at *
        subst h44
        refine ⟨true, rfl, ?_⟩
        show Oper.wp _ _ _ _ _ _
        (first | go_big_op | go_simp)
        refine (HD2.out _ _ (Q3.out.yv.new hn)).mono ?_
        rintro e' w'' ⟨v', rfl, hv', hn'⟩
        exact hK _ _ hn' hv'
      case o16 =>
        intro s w' K hn hk hK
        have h43 : NumB w' (s 43) (denZ d) (k) := hk.here
        have h45 : NumB w' (s 45) (denZ d2) (k) := hk.next.here
        clear hk
        simp only [fr, fill, Nat.reduceAdd, Act.put, List.setIfInBounds_toArray, List.set_cons_zero, List.set_cons_succ] at hK ⊢
        generalize s 43 = x43 at *
        generalize s 45 = x45 at *
        refine ⟨true, rfl, ?_⟩
        show Oper.wp _ _ _ _ _ _
        (first | go_big_op | go_simp)
        refine (HM3.out _ _ _ h43 h45).mono ?_
        rintro e' w'' ⟨v', rfl, hv', hn'⟩
        exact hK _ _ hn' hv'
      case o17 =>
        intro s w' K hn hk hK
        have h41 : NumB w' (s 41) (n * denZ d2 + n2 * denZ d) (k + k + (k + k) + 1) := hk.here
        have h46 : NumB w' (s 46) (denZ d * denZ d2) (k + k) := hk.next.here
        clear hk
        simp only [fr, fill, Nat.reduceAdd, Act.put, List.setIfInBounds_toArray, List.set_cons_zero, List.set_cons_succ] at hK ⊢
        generalize s 41 = x41 at *
        generalize s 46 = x46 at *
        refine ⟨true, rfl, ?_⟩
        show Oper.wp _ _ _ _ _ _
        (first | go_big_op | go_simp)
        refine (HMK.out _ _ _ h41 (h46.more (by omega))).mono ?_
        rintro e' w'' ⟨r, rfl, hv', hn'⟩
        exact hK _ _ hn' ⟨_, rfl, hv'⟩
      case o18 =>
        intro s w' K hn hk hK
        have h47 : ∃ r, (s 47) = .tuple #[r, .int .i64 (de)] ∧ RatB w' r (mkN (n * denZ d2 + n2 * denZ d) (denZ d * denZ d2)) (mkD (n * denZ d2 + n2 * denZ d) (denZ d * denZ d2)) (k + k + (k + k) + 1) := hk.here
        clear hk
        simp only [fr, fill, Nat.reduceAdd, Act.put, List.setIfInBounds_toArray, List.set_cons_zero, List.set_cons_succ] at hK ⊢
        generalize s 47 = x47 at *
        obtain ⟨r47, rfl, h47⟩ := h47
        refine ⟨true, rfl, ?_⟩
        show Oper.wp _ _ _ _ _ _
        (first | go_big_op | go_simp)
        exact hK _ _ (New.refl _) ⟨_, rfl, h47⟩
      case o19 =>
        intro s w' K hn hk hK
        have h29 : ∃ r, (s 29) = .tuple #[r, .int .i64 (de)] ∧ RatB w' r (mkN (n * denZ d2 + n2 * denZ d) (denZ d * denZ d2)) (mkD (n * denZ d2 + n2 * denZ d) (denZ d * denZ d2)) (k + k + (k + k) + 1) := hk.here
        clear hk
        simp only [fr, fill, Nat.reduceAdd, Act.put, List.setIfInBounds_toArray, List.set_cons_zero, List.set_cons_succ] at hK ⊢
        generalize s 29 = x29 at *
        obtain ⟨r29, rfl, h29⟩ := h29
        refine ⟨true, rfl, ?_⟩
        show Oper.wp _ _ _ _ _ _
        (first | go_big_op | go_simp)
        exact hK _ _ (New.refl _) h29
      case o20 =>
        intro s w' hn hk
        have h29 : ∃ r, (s 29) = .tuple #[r, .int .i64 (de)] ∧ RatB w' r (mkN (n * denZ d2 + n2 * denZ d) (denZ d * denZ d2)) (mkD (n * denZ d2 + n2 * denZ d) (denZ d * denZ d2)) (k + k + (k + k) + 1) := hk.here
        clear hk
        simp only [fr, fill, Nat.reduceAdd, Act.put, List.setIfInBounds_toArray, List.set_cons_zero, List.set_cons_succ]
        generalize s 29 = x29 at *
        obtain ⟨r29, rfl, h29⟩ := h29
        refine ⟨.int .i64 de, Or.inl ⟨rfl, fun W' => ?_⟩, rfl⟩
        first | rfl | go_simp
      case o21 =>
        intro s w' K hn hk hK
        clear hk
        simp only [fr, fill, Nat.reduceAdd, Act.put, List.setIfInBounds_toArray, List.set_cons_zero, List.set_cons_succ] at hK ⊢
        refine ⟨true, rfl, ?_⟩
        show Oper.wp _ _ _ _ _ _
        (first | go_big_op | go_simp)
        exact hK _ _ ((New.refl _).alloc _) ⟨_, rfl, Box.last _ _ _, by have := Q3.out.lt; have := hn.le; omega⟩
      case last =>
        intro s V0 hn hk
        have h7 : ∃ P, (s 7) = .pointer (some ⟨P, 0, none⟩) ∧ Box V0 P #[.slice none 0 0, .bool false, .slice none 0 0, .bool false] NRat ∧ w.heap.size + 3 ≤ P := hk.here
        have h29 : ∃ r, (s 29) = .tuple #[r, .int .i64 (de)] ∧ RatB V0 r (mkN (n * denZ d2 + n2 * denZ d) (denZ d * denZ d2)) (mkD (n * denZ d2 + n2 * denZ d) (denZ d * denZ d2)) (k + k + (k + k) + 1) := hk.next.here
        have h30 : (s 30) = .func (.func 26) #[] #[] := hk.next.next.here
        have h31 : (s 31) = .pointer (some ⟨w.heap.size, 0, none⟩) := hk.next.next.next.here
        have h32 : (s 32) = .agg #[.slice A l c, .bool b] := hk.next.next.next.next.here
        have h33 : (s 33) = .agg #[.slice C m e, .bool f, .slice C' m' e', .bool f'] := hk.next.next.next.next.next.here
        have h34 : NumB V0 (s 34) (denZ d2) (k) := hk.next.next.next.next.next.next.here
        have h35 : NumB V0 (s 35) (n * denZ d2) (k + k) := hk.next.next.next.next.next.next.next.here
        have h36 : (s 36) = .pointer (some ⟨w.heap.size + 1, 0, none⟩) := hk.next.next.next.next.next.next.next.next.here
        have h37 : (s 37) = .agg #[.slice C m e, .bool f] := hk.next.next.next.next.next.next.next.next.next.here
        have h38 : (s 38) = .agg #[.slice A l c, .bool b, .slice A' l' c', .bool b'] := hk.next.next.next.next.next.next.next.next.next.next.here
        have h39 : NumB V0 (s 39) (denZ d) (k) := hk.next.next.next.next.next.next.next.next.next.next.next.here
        have h40 : NumB V0 (s 40) (n2 * denZ d) (k + k) := hk.next.next.next.next.next.next.next.next.next.next.next.next.here
        have h41 : NumB V0 (s 41) (n * denZ d2 + n2 * denZ d) (k + k + (k + k) + 1) := hk.next.next.next.next.next.next.next.next.next.next.next.next.next.here
        have h42 : (s 42) = .agg #[.slice A l c, .bool b, .slice A' l' c', .bool b'] := hk.next.next.next.next.next.next.next.next.next.next.next.next.next.next.here
        have h43 : NumB V0 (s 43) (denZ d) (k) := hk.next.next.next.next.next.next.next.next.next.next.next.next.next.next.next.here
        have h44 : (s 44) = .agg #[.slice C m e, .bool f, .slice C' m' e', .bool f'] := hk.next.next.next.next.next.next.next.next.next.next.next.next.next.next.next.next.here
        have h45 : NumB V0 (s 45) (denZ d2) (k) := hk.next.next.next.next.next.next.next.next.next.next.next.next.next.next.next.next.next.here
        have h46 : NumB V0 (s 46) (denZ d * denZ d2) (k + k) := hk.next.next.next.next.next.next.next.next.next.next.next.next.next.next.next.next.next.next.here
        have h47 : ∃ r, (s 47) = .tuple #[r, .int .i64 (de)] ∧ RatB V0 r (mkN (n * denZ d2 + n2 * denZ d) (denZ d * denZ d2)) (mkD (n * denZ d2 + n2 * denZ d) (denZ d * denZ d2)) (k + k + (k + k) + 1) := hk.next.next.next.next.next.next.next.next.next.next.next.next.next.next.next.next.next.next.next.here
        have h48 : RatB V0 (s 48) (mkN (n * denZ d2 + n2 * denZ d) (denZ d * denZ d2)) (mkD (n * denZ d2 + n2 * denZ d) (denZ d * denZ d2)) (k + k + (k + k) + 1) := hk.next.next.next.next.next.next.next.next.next.next.next.next.next.next.next.next.next.next.next.next.here
        have h49 : (s 49) = .int .i64 de := hk.next.next.next.next.next.next.next.next.next.next.next.next.next.next.next.next.next.next.next.next.next.here
        clear hk
        simp only [fr, fill, Nat.reduceAdd, Act.put, List.setIfInBounds_toArray, List.set_cons_zero, List.set_cons_succ]
        generalize s 7 = x7 at *
        generalize s 29 = x29 at *
        generalize s 30 = x30 at *
        generalize s 31 = x31 at *
        generalize s 32 = x32 at *
        generalize s 33 = x33 at *
        generalize s 34 = x34 at *
        generalize s 35 = x35 at *
        generalize s 36 = x36 at *
        generalize s 37 = x37 at *
        generalize s 38 = x38 at *
        generalize s 39 = x39 at *
        generalize s 40 = x40 at *
        generalize s 41 = x41 at *
        generalize s 42 = x42 at *
        generalize s 43 = x43 at *
        generalize s 44 = x44 at *
        generalize s 45 = x45 at *
        generalize s 46 = x46 at *
        generalize s 47 = x47 at *
        generalize s 48 = x48 at *
        generalize s 49 = x49 at *
        obtain ⟨P, rfl, hbx, hP⟩ := h7
        obtain ⟨r29, rfl, h29⟩ := h29
        subst h30
        subst h31
        subst h32
        subst h33
        subst h36
        subst h37
        subst h38
        subst h42
        subst h44
        obtain ⟨r47, rfl, h47⟩ := h47
        subst h49
        refine wpAny_chain [22, 23] _ _ _ (by kernel_rfl) ?_
        change wpList _ _ _ [_, _] _ _
        have hq := Q3.out.new hn
        obtain ⟨R, rl, rc, R', rl', rc', rfl⟩ := RatB.form h48
        generalize decide (mkN (n * denZ d2 + n2 * denZ d) (denZ d * denZ d2) < 0) = rb at *
        generalize decide (mkD (n * denZ d2 + n2 * denZ d) (denZ d * denZ d2) < 0) = rb' at *
        obtain ⟨k0, k1, k2, k3⟩ := hbx.cells4
        have g0 := hbx.frozen 0
        have g1 := hbx.frozen 1
        have g2 := hbx.frozen 2
        have g3 := hbx.frozen 3
        have st := hq.gs h48 hbx hP
        have ST := Lib.hid st
        clear st hq h34 h35 h39 h40 h41 h43 h45 h46 h47 h29 h48 hn hP hbx
        refine wpList_plain rfl fun K22 hK22 => ?_
        go_simp
        refine hK22 _ _ ?_
        clear hK22
        refine wpList_plain rfl fun K23 hK23 => ?_
        go_simp
        refine hK23 _ _ ?_
        clear hK23
        change Exit.then _ _ .normal _ _
        simp only [Exit.then]
        refine ST.out.name2 ?_
        clear ST
        rintro V hV P2 hP2 st
        rw [← hV, ← hP2]
        clear hV hP2 k0 k1 k2 k3 g0 g1 g2 g3
        have hq := st.q
        obtain ⟨k0, k1, k2, k3⟩ := st.bx.cells4
        have hFR := hq.br
        have c20 := hFR.cells4.1
        have c21 := hFR.cells4.2.1
        have c22 := hFR.cells4.2.2.1
        have c23 := hFR.cells4.2.2.2
        have f20 := hFR.frozen 0
        have f21 := hFR.frozen 1
        have f22 := hFR.frozen 2
        have f23 := hFR.frozen 3
        obtain ⟨gb, gn, gv⟩ := hq.done (.slice R rl rc) (.bool rb) (.slice R' rl' rc') (.bool rb')
        have GR := Lib.hid (gv st.rv)
        have GN := Lib.hid gn
        obtain ⟨y0, y1, y2, y3⟩ := gb.cells4
        clear hFR gb gn gv st hq
        go_wp2
        refine bodyPost_ret (v := .agg #[.slice R rl rc, .bool rb, .slice R' rl' rc', .bool rb']) (by simp [results, Tryz.results104, go_sem, y0, y1, y2, y3]) rfl ⟨_, rfl, GR.out, GN.out⟩
    · go_enter Tryz.func104, Tryz.ntmps104
      go_wp2_with fail
      refine (HD1.out _ _ Q0.out.xv).mono ?_
      rintro e1 w1 ⟨v1, rfl, hv, hn⟩
      have Q1 := Lib.hid (Q0.out.new hn)
      have T1 := Lib.hid hv
      clear hv hn Q0
      obtain ⟨c0, c1, c2, c3⟩ := Q1.out.ba.cells4
      obtain ⟨c4, c5, c6, c7⟩ := Q1.out.bb.cells4
      go_wp2_with fail
      refine (HON.out _).mono ?_
      rintro e1 w2 ⟨v2, rfl, hv, hn⟩
      have Q2 := Lib.hid (Q1.out.new hn)
      replace T1 := Lib.hid (T1.out.new hn)
      have T2 := Lib.hid hv
      clear hv hn Q1
      clear c0 c1 c2 c3 c4 c5 c6 c7
      obtain ⟨c0, c1, c2, c3⟩ := Q2.out.ba.cells4
      obtain ⟨c4, c5, c6, c7⟩ := Q2.out.bb.cells4
      go_wp2_with fail
      refine (HC1.out _ _ _ _ T1.out T2.out HB1.out).mono ?_
      rintro e1 w3 ⟨rfl, hn⟩
      have Q3 := Lib.hid (Q2.out.new hn)
      clear hn Q2
      clear c0 c1 c2 c3 c4 c5 c6 c7
      obtain ⟨c0, c1, c2, c3⟩ := Q3.out.ba.cells4
      obtain ⟨c4, c5, c6, c7⟩ := Q3.out.bb.cells4
      go_wp2_with fail
      refine (HD2.out _ _ Q3.out.yv).mono ?_
      rintro e1 w4 ⟨v3, rfl, hv, hn⟩
      have Q4 := Lib.hid (Q3.out.new hn)
      clear T1 T2
      have T1 := Lib.hid hv
      clear hv hn Q3
      clear c0 c1 c2 c3 c4 c5 c6 c7
      obtain ⟨c0, c1, c2, c3⟩ := Q4.out.ba.cells4
      obtain ⟨c4, c5, c6, c7⟩ := Q4.out.bb.cells4
      go_wp2_with fail
      refine (HON.out _).mono ?_
      rintro e1 w5 ⟨v4, rfl, hv, hn⟩
      have Q5 := Lib.hid (Q4.out.new hn)
      replace T1 := Lib.hid (T1.out.new hn)
      have T2 := Lib.hid hv
      clear hv hn Q4
      clear c0 c1 c2 c3 c4 c5 c6 c7
      obtain ⟨c0, c1, c2, c3⟩ := Q5.out.ba.cells4
      obtain ⟨c4, c5, c6, c7⟩ := Q5.out.bb.cells4
      go_wp2_with fail
      refine (HC2.out _ _ _ _ T1.out T2.out HB2.out).mono ?_
      rintro e1 w6 ⟨rfl, hn⟩
      have Q6 := Lib.hid (Q5.out.new hn)
      clear hn Q5
      clear c0 c1 c2 c3 c4 c5 c6 c7
      obtain ⟨c0, c1, c2, c3⟩ := Q6.out.ba.cells4
      obtain ⟨c4, c5, c6, c7⟩ := Q6.out.bb.cells4
      clear c0 c1 c2 c3 c4 c5 c6 c7
      clear T1 T2
      go_wp2
      refine wp_region_rel (by kernel_rfl) (VL [(7, fun ww vv => ∃ P, vv = .pointer (some ⟨P, 0, none⟩) ∧ Box ww P #[.slice none 0 0, .bool false, .slice none 0 0, .bool false] NRat ∧ w.heap.size + 3 ≤ P), (29, fun ww vv => ∃ r, vv = .tuple #[r, .int .i64 (de)] ∧ RatB ww r (mkN (n * denZ d2 + n2 * denZ d) (denZ d * denZ d2)) (mkD (n * denZ d2 + n2 * denZ d) (denZ d * denZ d2)) (k + k + (k + k) + 1)), (30, fun ww vv => vv = .func (.func 26) #[] #[]), (31, fun ww vv => vv = .pointer (some ⟨w.heap.size, 0, none⟩)), (32, fun ww vv => vv = .agg #[.slice A l c, .bool b]), (33, fun ww vv => vv = .agg #[.slice C m e, .bool f, .slice C' m' e', .bool f']), (34, fun ww vv => NumB ww vv (denZ d2) (k)), (35, fun ww vv => NumB ww vv (n * denZ d2) (k + k)), (36, fun ww vv => vv = .pointer (some ⟨w.heap.size + 1, 0, none⟩)), (37, fun ww vv => vv = .agg #[.slice C m e, .bool f]), (38, fun ww vv => vv = .agg #[.slice A l c, .bool b, .slice A' l' c', .bool b']), (39, fun ww vv => NumB ww vv (denZ d) (k)), (40, fun ww vv => NumB ww vv (n2 * denZ d) (k + k)), (41, fun ww vv => NumB ww vv (n * denZ d2 + n2 * denZ d) (k + k + (k + k) + 1)), (42, fun ww vv => vv = .agg #[.slice A l c, .bool b, .slice A' l' c', .bool b']), (43, fun ww vv => NumB ww vv (denZ d) (k)), (44, fun ww vv => vv = .agg #[.slice C m e, .bool f, .slice C' m' e', .bool f']), (45, fun ww vv => NumB ww vv (denZ d2) (k)), (46, fun ww vv => NumB ww vv (denZ d * denZ d2) (k + k)), (47, fun ww vv => ∃ r, vv = .tuple #[r, .int .i64 (de)] ∧ RatB ww r (mkN (n * denZ d2 + n2 * denZ d) (denZ d * denZ d2)) (mkD (n * denZ d2 + n2 * denZ d) (denZ d * denZ d2)) (k + k + (k + k) + 1)), (48, fun ww vv => RatB ww vv (mkN (n * denZ d2 + n2 * denZ d) (denZ d * denZ d2)) (mkD (n * denZ d2 + n2 * denZ d) (denZ d * denZ d2)) (k + k + (k + k) + 1)), (49, fun ww vv => vv = .int .i64 de)]) (VL_mono ⟨fun _ _ _ h hn => h.elim fun P h => ⟨P, h.1, h.2.1.new hn, h.2.2⟩, fun _ _ _ h hn => h.elim fun r h => ⟨r, h.1, h.2.new hn⟩, fun _ _ _ h _ => h, fun _ _ _ h _ => h, fun _ _ _ h _ => h, fun _ _ _ h _ => h, fun _ _ _ h hn => NumB.new h hn, fun _ _ _ h hn => NumB.new h hn, fun _ _ _ h _ => h, fun _ _ _ h _ => h, fun _ _ _ h _ => h, fun _ _ _ h hn => NumB.new h hn, fun _ _ _ h hn => NumB.new h hn, fun _ _ _ h hn => NumB.new h hn, fun _ _ _ h _ => h, fun _ _ _ h hn => NumB.new h hn, fun _ _ _ h _ => h, fun _ _ _ h hn => NumB.new h hn, fun _ _ _ h hn => NumB.new h hn, fun _ _ _ h hn => h.elim fun r h => ⟨r, h.1, h.2.new hn⟩, fun _ _ _ h hn => RatB.new h hn, fun _ _ _ h _ => h, trivial⟩) _ _ [false, false, false, false, false, false, false, true, false, false, false, false, false, false, false, false, false, false, false, false, false, false, false, false, false, false, false, false, false, true, true, true, true, true, true, true, true, true, true, true, true, true, true, true, true, true, true, true, true, true, false] [true, true, true, true, true, true, true, true, true, true, true, true, true, true, true, true, true, true, true, true, true, true, false, false] [false, false, false, false, false, false, false, false, false, false, false, false, false, false, false, false, false, false, false, false, true, false, false, false] [[], [], [31], [], [33], [32, 34], [], [36], [], [38], [37, 39], [30, 35, 40], [], [42], [], [44], [43, 45], [41, 46], [47], [29], [29], [], [], []] [7, 29, 30, 31, 32, 33, 34, 35, 36, 37, 38, 39, 40, 41, 42, 43, 44, 45, 46, 47, 48, 49] 2 (by kernel_rfl) rfl rfl (by kernel_rfl) (by kernel_rfl) (fun _ _ _ _ _ h => h) ⟨?o0, ?o1, ?o2, ?o3, ?o4, ?o5, ?o6, ?o7, ?o8, ?o9, ?o10, ?o11, ?o12, ?o13, ?o14, ?o15, ?o16, ?o17, ?o18, ?o19, ?o20, ?o21, trivial⟩ ?last
      case o0 =>
        intro s w' K hn hk hK
        clear hk
        simp only [fr, fill, Nat.reduceAdd, Act.put, List.setIfInBounds_toArray, List.set_cons_zero, List.set_cons_succ] at hK ⊢
        refine ⟨true, rfl, ?_⟩
        show Oper.wp _ _ _ _ _ _
        (first | go_big_op | go_simp)
        exact hK _ _ (New.refl _) rfl
      case o1 =>
        intro s w' K hn hk hK
        clear hk
        simp only [fr, fill, Nat.reduceAdd, Act.put, List.setIfInBounds_toArray, List.set_cons_zero, List.set_cons_succ] at hK ⊢
        refine ⟨true, rfl, ?_⟩
        show Oper.wp _ _ _ _ _ _
        (first | go_big_op | go_simp)
        exact hK _ _ (New.refl _) rfl
      case o2 =>
        intro s w' K hn hk hK
        have h31 : (s 31) = .pointer (some ⟨w.heap.size, 0, none⟩) := hk.here
        clear hk
        simp only [fr, fill, Nat.reduceAdd, Act.put, List.setIfInBounds_toArray, List.set_cons_zero, List.set_cons_succ] at hK ⊢
        generalize s 31 = x31 at *
        subst h31
        have hq := Q6.out.new hn
        obtain ⟨c0, c1, c2, c3⟩ := hq.ba.cells4
        clear hq
        refine ⟨true, rfl, ?_⟩
        show Oper.wp _ _ _ _ _ _
        (first | go_big_op | go_simp)
        exact hK _ _ (New.refl _) rfl
      case o3 =>
        intro s w' K hn hk hK
        clear hk
        simp only [fr, fill, Nat.reduceAdd, Act.put, List.setIfInBounds_toArray, List.set_cons_zero, List.set_cons_succ] at hK ⊢
        have hq := Q6.out.new hn
        obtain ⟨c4, c5, c6, c7⟩ := hq.bb.cells4
        clear hq
        refine ⟨true, rfl, ?_⟩
        show Oper.wp _ _ _ _ _ _
        (first | go_big_op | go_simp)
        exact hK _ _ (New.refl _) rfl
      case o4 =>
        intro s w' K hn hk hK
        have h33 : (s 33) = .agg #[.slice C m e, .bool f, .slice C' m' e', .bool f'] := hk.here
        clear hk
        simp only [fr, fill, Nat.reduceAdd, Act.put, List.setIfInBounds_toArray, List.set_cons_zero, List.set_cons_succ] at hK ⊢
        generalize s 33 = x33 at *
        subst h33
        refine ⟨true, rfl, ?_⟩
        show Oper.wp _ _ _ _ _ _
        (first | go_big_op | go_simp)
        refine (HD2.out _ _ (Q6.out.yv.new hn)).mono ?_
        rintro e' w'' ⟨v', rfl, hv', hn'⟩
        exact hK _ _ hn' hv'
      case o5 =>
        intro s w' K hn hk hK
        have h32 : (s 32) = .agg #[.slice A l c, .bool b] := hk.here
        have h34 : NumB w' (s 34) (denZ d2) (k) := hk.next.here
        clear hk
        simp only [fr, fill, Nat.reduceAdd, Act.put, List.setIfInBounds_toArray, List.set_cons_zero, List.set_cons_succ] at hK ⊢
        generalize s 32 = x32 at *
        generalize s 34 = x34 at *
        subst h32
        refine ⟨true, rfl, ?_⟩
        show Oper.wp _ _ _ _ _ _
        (first | go_big_op | go_simp)
        refine (HM1.out _ _ _ (Q6.out.xn.new hn) h34).mono ?_
        rintro e' w'' ⟨v', rfl, hv', hn'⟩
        exact hK _ _ hn' hv'
      case o6 =>
        intro s w' K hn hk hK
        clear hk
        simp only [fr, fill, Nat.reduceAdd, Act.put, List.setIfInBounds_toArray, List.set_cons_zero, List.set_cons_succ] at hK ⊢
        refine ⟨true, rfl, ?_⟩
        show Oper.wp _ _ _ _ _ _
        (first | go_big_op | go_simp)
        exact hK _ _ (New.refl _) rfl
      case o7 =>
        intro s w' K hn hk hK
        have h36 : (s 36) = .pointer (some ⟨w.heap.size + 1, 0, none⟩) := hk.here
        clear hk
        simp only [fr, fill, Nat.reduceAdd, Act.put, List.setIfInBounds_toArray, List.set_cons_zero, List.set_cons_succ] at hK ⊢
        generalize s 36 = x36 at *
        subst h36
        have hq := Q6.out.new hn
        obtain ⟨c4, c5, c6, c7⟩ := hq.bb.cells4
        clear hq
        refine ⟨true, rfl, ?_⟩
        show Oper.wp _ _ _ _ _ _
        (first | go_big_op | go_simp)
        exact hK _ _ (New.refl _) rfl
      case o8 =>
        intro s w' K hn hk hK
        clear hk
        simp only [fr, fill, Nat.reduceAdd, Act.put, List.setIfInBounds_toArray, List.set_cons_zero, List.set_cons_succ] at hK ⊢
        have hq := Q6.out.new hn
        obtain ⟨c0, c1, c2, c3⟩ := hq.ba.cells4
        clear hq
        refine ⟨true, rfl, ?_⟩
        show Oper.wp _ _ _ _ _ _
        (first | go_big_op | go_simp)
        exact hK _ _ (New.refl _) rfl
      case o9 =>
        intro s w' K hn hk hK
        have h38 : (s 38) = .agg #[.slice A l c, .bool b, .slice A' l' c', .bool b'] := hk.here
        clear hk
        simp only [fr, fill, Nat.reduceAdd, Act.put, List.setIfInBounds_toArray, List.set_cons_zero, List.set_cons_succ] at hK ⊢
        generalize s 38 = x38 at *
        subst h38
        refine ⟨true, rfl, ?_⟩
        show Oper.wp _ _ _ _ _ _
        (first | go_big_op | go_simp)
        refine (HD1.out _ _ (Q6.out.xv.new hn)).mono ?_
        rintro e' w'' ⟨v', rfl, hv', hn'⟩
        exact hK _ _ hn' hv'
      case o10 =>
        intro s w' K hn hk hK
        have h37 : (s 37) = .agg #[.slice C m e, .bool f] := hk.here
        have h39 : NumB w' (s 39) (denZ d) (k) := hk.next.here
        clear hk
        simp only [fr, fill, Nat.reduceAdd, Act.put, List.setIfInBounds_toArray, List.set_cons_zero, List.set_cons_succ] at hK ⊢
        generalize s 37 = x37 at *
        generalize s 39 = x39 at *
        subst h37
        refine ⟨true, rfl, ?_⟩
        show Oper.wp _ _ _ _ _ _
        (first | go_big_op | go_simp)
        refine (HM2.out _ _ _ (Q6.out.yn.new hn) h39).mono ?_
        rintro e' w'' ⟨v', rfl, hv', hn'⟩
        exact hK _ _ hn' hv'
      case o11 =>
        intro s w' K hn hk hK
        have h30 : (s 30) = .func (.func 26) #[] #[] := hk.here
        have h35 : NumB w' (s 35) (n * denZ d2) (k + k) := hk.next.here
        have h40 : NumB w' (s 40) (n2 * denZ d) (k + k) := hk.next.next.here
        clear hk
        simp only [fr, fill, Nat.reduceAdd, Act.put, List.setIfInBounds_toArray, List.set_cons_zero, List.set_cons_succ] at hK ⊢
        generalize s 30 = x30 at *
        generalize s 35 = x35 at *
        generalize s 40 = x40 at *
        subst h30
        refine ⟨true, rfl, ?_⟩
        show Oper.wp _ _ _ _ _ _
        (first | go_big_op | go_simp)
        refine (HF.out _ _ _ h35 h40).mono ?_
        rintro e' w'' ⟨v', rfl, hv', hn'⟩
        exact hK _ _ hn' hv'
      case o12 =>
        intro s w' K hn hk hK
        clear hk
        simp only [fr, fill, Nat.reduceAdd, Act.put, List.setIfInBounds_toArray, List.set_cons_zero, List.set_cons_succ] at hK ⊢
        have hq := Q6.out.new hn
        obtain ⟨c0, c1, c2, c3⟩ := hq.ba.cells4
        clear hq
        refine ⟨true, rfl, ?_⟩
        show Oper.wp _ _ _ _ _ _
        (first | go_big_op | go_simp)
        exact hK _ _ (New.refl _) rfl
      case o13 =>
        intro s w' K hn hk hK
        have h42 : (s 42) = .agg #[.slice A l c, .bool b, .slice A' l' c', .bool b'] := hk.here
        clear hk
        simp only [fr, fill, Nat.reduceAdd, Act.put, List.setIfInBounds_toArray, List.set_cons_zero, List.set_cons_succ] at hK ⊢
        generalize s 42 = x42 at *
        subst h42
        refine ⟨true, rfl, ?_⟩
        show Oper.wp _ _ _ _ _ _
        (first | go_big_op | go_simp)
        refine (HD1.out _ _ (Q6.out.xv.new hn)).mono ?_
        rintro e' w'' ⟨v', rfl, hv', hn'⟩
        exact hK _ _ hn' hv'
      case o14 =>
        intro s w' K hn hk hK
        clear hk
        simp only [fr, fill, Nat.reduceAdd, Act.put, List.setIfInBounds_toArray, List.set_cons_zero, List.set_cons_succ] at hK ⊢
        have hq := Q6.out.new hn
        obtain ⟨c4, c5, c6, c7⟩ := hq.bb.cells4
        clear hq
        refine ⟨true, rfl, ?_⟩
        show Oper.wp _ _ _ _ _ _
        (first | go_big_op | go_simp)
        exact hK _ _ (New.refl _) rfl
      case o15 =>
        intro s w' K hn hk hK
        have h44 : (s 44) = .agg #[.slice C m e, .bool f, .slice C' m' e', .bool f'] := hk.here
        clear hk
        simp only [fr, fill, Nat.reduceAdd, Act.put, List.setIfInBounds_toArray, List.set_cons_zero, List.set_cons_succ] at hK ⊢
        generalize s 44 = x44 at *
        subst h44
        refine ⟨true, rfl, ?_⟩
        show Oper.wp _ _ _ _ _ _
        (first | go_big_op | go_simp)
        refine (HD2.out _ _ (Q6.out.yv.new hn)).mono ?_
        rintro e' w'' ⟨v', rfl, hv', hn'⟩
        exact hK _ _ hn' hv'
      case o16 =>
        intro s w' K hn hk hK
        have h43 : NumB w' (s 43) (denZ d) (k) := hk.here
        have h45 : NumB w' (s 45) (denZ d2) (k) := hk.next.here
        clear hk
        simp only [fr, fill, Nat.reduceAdd, Act.put, List.setIfInBounds_toArray, List.set_cons_zero, List.set_cons_succ] at hK ⊢
        generalize s 43 = x43 at *
        generalize s 45 = x45 at *
        refine ⟨true, rfl, ?_⟩
        show Oper.wp _ _ _ _ _ _
        (first | go_big_op | go_simp)
        refine (HM3.out _ _ _ h43 h45).mono ?_
        rintro e' w'' ⟨v', rfl, hv', hn'⟩
        exact hK _ _ hn' hv'
      case o17 =>
        intro s w' K hn hk hK
        have h41 : NumB w' (s 41) (n * denZ d2 + n2 * denZ d) (k + k + (k + k) + 1) := hk.here
        have h46 : NumB w' (s 46) (denZ d * denZ d2) (k + k) := hk.next.here
        clear hk
        simp only [fr, fill, Nat.reduceAdd, Act.put, List.setIfInBounds_toArray, List.set_cons_zero, List.set_cons_succ] at hK ⊢
        generalize s 41 = x41 at *
        generalize s 46 = x46 at *
        refine ⟨true, rfl, ?_⟩
        show Oper.wp _ _ _ _ _ _
        (first | go_big_op | go_simp)
        refine (HMK.out _ _ _ h41 (h46.more (by omega))).mono ?_
        rintro e' w'' ⟨r, rfl, hv', hn'⟩
        exact hK _ _ hn' ⟨_, rfl, hv'⟩
      case o18 =>
        intro s w' K hn hk hK
        have h47 : ∃ r, (s 47) = .tuple #[r, .int .i64 (de)] ∧ RatB w' r (mkN (n * denZ d2 + n2 * denZ d) (denZ d * denZ d2)) (mkD (n * denZ d2 + n2 * denZ d) (denZ d * denZ d2)) (k + k + (k + k) + 1) := hk.here
        clear hk
        simp only [fr, fill, Nat.reduceAdd, Act.put, List.setIfInBounds_toArray, List.set_cons_zero, List.set_cons_succ] at hK ⊢
        generalize s 47 = x47 at *
        obtain ⟨r47, rfl, h47⟩ := h47
        refine ⟨true, rfl, ?_⟩
        show Oper.wp _ _ _ _ _ _
        (first | go_big_op | go_simp)
        exact hK _ _ (New.refl _) ⟨_, rfl, h47⟩
      case o19 =>
        intro s w' K hn hk hK
        have h29 : ∃ r, (s 29) = .tuple #[r, .int .i64 (de)] ∧ RatB w' r (mkN (n * denZ d2 + n2 * denZ d) (denZ d * denZ d2)) (mkD (n * denZ d2 + n2 * denZ d) (denZ d * denZ d2)) (k + k + (k + k) + 1) := hk.here
        clear hk
        simp only [fr, fill, Nat.reduceAdd, Act.put, List.setIfInBounds_toArray, List.set_cons_zero, List.set_cons_succ] at hK ⊢
        generalize s 29 = x29 at *
        obtain ⟨r29, rfl, h29⟩ := h29
        refine ⟨true, rfl, ?_⟩
        show Oper.wp _ _ _ _ _ _
        (first | go_big_op | go_simp)
        exact hK _ _ (New.refl _) h29
      case o20 =>
        intro s w' hn hk
        have h29 : ∃ r, (s 29) = .tuple #[r, .int .i64 (de)] ∧ RatB w' r (mkN (n * denZ d2 + n2 * denZ d) (denZ d * denZ d2)) (mkD (n * denZ d2 + n2 * denZ d) (denZ d * denZ d2)) (k + k + (k + k) + 1) := hk.here
        clear hk
        simp only [fr, fill, Nat.reduceAdd, Act.put, List.setIfInBounds_toArray, List.set_cons_zero, List.set_cons_succ]
        generalize s 29 = x29 at *
        obtain ⟨r29, rfl, h29⟩ := h29
        refine ⟨.int .i64 de, Or.inl ⟨rfl, fun W' => ?_⟩, rfl⟩
        first | rfl | go_simp
      case o21 =>
        intro s w' K hn hk hK
        clear hk
        simp only [fr, fill, Nat.reduceAdd, Act.put, List.setIfInBounds_toArray, List.set_cons_zero, List.set_cons_succ] at hK ⊢
        refine ⟨true, rfl, ?_⟩
        show Oper.wp _ _ _ _ _ _
        (first | go_big_op | go_simp)
        exact hK _ _ ((New.refl _).alloc _) ⟨_, rfl, Box.last _ _ _, by have := Q6.out.lt; have := hn.le; omega⟩
      case last =>
        intro s V0 hn hk
        have h7 : ∃ P, (s 7) = .pointer (some ⟨P, 0, none⟩) ∧ Box V0 P #[.slice none 0 0, .bool false, .slice none 0 0, .bool false] NRat ∧ w.heap.size + 3 ≤ P := hk.here
        have h29 : ∃ r, (s 29) = .tuple #[r, .int .i64 (de)] ∧ RatB V0 r (mkN (n * denZ d2 + n2 * denZ d) (denZ d * denZ d2)) (mkD (n * denZ d2 + n2 * denZ d) (denZ d * denZ d2)) (k + k + (k + k) + 1) := hk.next.here
        have h30 : (s 30) = .func (.func 26) #[] #[] := hk.next.next.here
        have h31 : (s 31) = .pointer (some ⟨w.heap.size, 0, none⟩) := hk.next.next.next.here
        have h32 : (s 32) = .agg #[.slice A l c, .bool b] := hk.next.next.next.next.here
        have h33 : (s 33) = .agg #[.slice C m e, .bool f, .slice C' m' e', .bool f'] := hk.next.next.next.next.next.here
        have h34 : NumB V0 (s 34) (denZ d2) (k) := hk.next.next.next.next.next.next.here
        have h35 : NumB V0 (s 35) (n * denZ d2) (k + k) := hk.next.next.next.next.next.next.next.here
        have h36 : (s 36) = .pointer (some ⟨w.heap.size + 1, 0, none⟩) := hk.next.next.next.next.next.next.next.next.here
        have h37 : (s 37) = .agg #[.slice C m e, .bool f] := hk.next.next.next.next.next.next.next.next.next.here
        have h38 : (s 38) = .agg #[.slice A l c, .bool b, .slice A' l' c', .bool b'] := hk.next.next.next.next.next.next.next.next.next.next.here
        have h39 : NumB V0 (s 39) (denZ d) (k) := hk.next.next.next.next.next.next.next.next.next.next.next.here
        have h40 : NumB V0 (s 40) (n2 * denZ d) (k + k) := hk.next.next.next.next.next.next.next.next.next.next.next.next.here
        have h41 : NumB V0 (s 41) (n * denZ d2 + n2 * denZ d) (k + k + (k + k) + 1) := hk.next.next.next.next.next.next.next.next.next.next.next.next.next.here
        have h42 : (s 42) = .agg #[.slice A l c, .bool b, .slice A' l' c', .bool b'] := hk.next.next.next.next.next.next.next.next.next.next.next.next.next.next.here
        have h43 : NumB V0 (s 43) (denZ d) (k) := hk.next.next.next.next.next.next.next.next.next.next.next.next.next.next.next.here
        have h44 : (s 44) = .agg #[.slice C m e, .bool f, .slice C' m' e', .bool f'] := hk.next.next.next.next.next.next.next.next.next.next.next.next.next.next.next.next.here
        have h45 : NumB V0 (s 45) (denZ d2) (k) := hk.next.next.next.next.next.next.next.next.next.next.next.next.next.next.next.next.next.here
        have h46 : NumB V0 (s 46) (denZ d * denZ d2) (k + k) := hk.next.next.next.next.next.next.next.next.next.next.next.next.next.next.next.next.next.next.here
        have h47 : ∃ r, (s 47) = .tuple #[r, .int .i64 (de)] ∧ RatB V0 r (mkN (n * denZ d2 + n2 * denZ d) (denZ d * denZ d2)) (mkD (n * denZ d2 + n2 * denZ d) (denZ d * denZ d2)) (k + k + (k + k) + 1) := hk.next.next.next.next.next.next.next.next.next.next.next.next.next.next.next.next.next.next.next.here
        have h48 : RatB V0 (s 48) (mkN (n * denZ d2 + n2 * denZ d) (denZ d * denZ d2)) (mkD (n * denZ d2 + n2 * denZ d) (denZ d * denZ d2)) (k + k + (k + k) + 1) := hk.next.next.next.next.next.next.next.next.next.next.next.next.next.next.next.next.next.next.next.next.here
        have h49 : (s 49) = .int .i64 de := hk.next.next.next.next.next.next.next.next.next.next.next.next.next.next.next.next.next.next.next.next.next.here
        clear hk
        simp only [fr, fill, Nat.reduceAdd, Act.put, List.setIfInBounds_toArray, List.set_cons_zero, List.set_cons_succ]
        generalize s 7 = x7 at *
        generalize s 29 = x29 at *
        generalize s 30 = x30 at *
        generalize s 31 = x31 at *
        generalize s 32 = x32 at *
        generalize s 33 = x33 at *
        generalize s 34 = x34 at *
        generalize s 35 = x35 at *
        generalize s 36 = x36 at *
        generalize s 37 = x37 at *
        generalize s 38 = x38 at *
        generalize s 39 = x39 at *
        generalize s 40 = x40 at *
        generalize s 41 = x41 at *
        generalize s 42 = x42 at *
        generalize s 43 = x43 at *
        generalize s 44 = x44 at *
        generalize s 45 = x45 at *
        generalize s 46 = x46 at *
        generalize s 47 = x47 at *
        generalize s 48 = x48 at *
        generalize s 49 = x49 at *
        obtain ⟨P, rfl, hbx, hP⟩ := h7
        obtain ⟨r29, rfl, h29⟩ := h29
        subst h30
        subst h31
        subst h32
        subst h33
        subst h36
        subst h37
        subst h38
        subst h42
        subst h44
        obtain ⟨r47, rfl, h47⟩ := h47
        subst h49
        refine wpAny_chain [22, 23] _ _ _ (by kernel_rfl) ?_
        change wpList _ _ _ [_, _] _ _
        have hq := Q6.out.new hn
        obtain ⟨R, rl, rc, R', rl', rc', rfl⟩ := RatB.form h48
        generalize decide (mkN (n * denZ d2 + n2 * denZ d) (denZ d * denZ d2) < 0) = rb at *
        generalize decide (mkD (n * denZ d2 + n2 * denZ d) (denZ d * denZ d2) < 0) = rb' at *
        obtain ⟨k0, k1, k2, k3⟩ := hbx.cells4
        have g0 := hbx.frozen 0
        have g1 := hbx.frozen 1
        have g2 := hbx.frozen 2
        have g3 := hbx.frozen 3
        have st := hq.gs h48 hbx hP
        have ST := Lib.hid st
        clear st hq h34 h35 h39 h40 h41 h43 h45 h46 h47 h29 h48 hn hP hbx
        refine wpList_plain rfl fun K22 hK22 => ?_
        go_simp
        refine hK22 _ _ ?_
        clear hK22
        refine wpList_plain rfl fun K23 hK23 => ?_
        go_simp
        refine hK23 _ _ ?_
        clear hK23
        change Exit.then _ _ .normal _ _
        simp only [Exit.then]
        refine ST.out.name2 ?_
        clear ST
        rintro V hV P2 hP2 st
        rw [← hV, ← hP2]
        clear hV hP2 k0 k1 k2 k3 g0 g1 g2 g3
        have hq := st.q
        obtain ⟨k0, k1, k2, k3⟩ := st.bx.cells4
        have hFR := hq.br
        have c20 := hFR.cells4.1
        have c21 := hFR.cells4.2.1
        have c22 := hFR.cells4.2.2.1
        have c23 := hFR.cells4.2.2.2
        have f20 := hFR.frozen 0
        have f21 := hFR.frozen 1
        have f22 := hFR.frozen 2
        have f23 := hFR.frozen 3
        obtain ⟨gb, gn, gv⟩ := hq.done (.slice R rl rc) (.bool rb) (.slice R' rl' rc') (.bool rb')
        have GR := Lib.hid (gv st.rv)
        have GN := Lib.hid gn
        obtain ⟨y0, y1, y2, y3⟩ := gb.cells4
        clear hFR gb gn gv st hq
        go_wp2
        refine bodyPost_ret (v := .agg #[.slice R rl rc, .bool rb, .slice R' rl' rc', .bool rb']) (by simp [results, Tryz.results104, go_sem, y0, y1, y2, y3]) rfl ⟨_, rfl, GR.out, GN.out⟩
set_option maxRecDepth 1000000 in
set_option maxHeartbeats 20000000 in
theorem qjoin_sub (hx : RatB w u n d k) (hy : RatB w v n2 d2 k) (hk : k ≤ 3000) (hk2 : 2 ≤ k) :
    Calls Tryz.prog 104 #[u, v, .func (.func 30) #[] #[]] w fun e w' => ∃ r, e = .returned r ∧ RatB w' r (mkN (n * denZ d2 - n2 * denZ d) (denZ d * denZ d2)) (mkD (n * denZ d2 - n2 * denZ d) (denZ d * denZ d2)) (k + k + (k + k) + 1) ∧ New w w' := by
  obtain ⟨A, l, c, b, A', l', c', b', C, m, e, f, C', m', e', f', rfl, rfl, hq⟩ := Q2x.start hx hy
  have Q0 := Lib.hid hq
  clear hx hy hq
  have HD1 := Lib.hid (fun W v (h : RatB W v n d k) => den_n h (by omega) hk2)
  have HD2 := Lib.hid (fun W v (h : RatB W v n2 d2 k) => den_n h (by omega) hk2)
  have HON := Lib.hid one_n
  have HC1 := Lib.hid (fun W u v s (h : NumB W u (denZ d) k) (h2 : NumB W v 1 2) (hs : cmpZ (denZ d) 1 = s) => cmp_v s h h2 (by omega) (by omega) hs)
  have HC2 := Lib.hid (fun W u v s (h : NumB W u (denZ d2) k) (h2 : NumB W v 1 2) (hs : cmpZ (denZ d2) 1 = s) => cmp_v s h h2 (by omega) (by omega) hs)
  by_cases hb : denZ d = 1 ∧ denZ d2 = 1
  · have e1 : mkN (n * denZ d2 - n2 * denZ d) (denZ d * denZ d2) = n - n2 := by rw [hb.1, hb.2, Int.mul_one, Int.mul_one, Int.mul_one]; exact (mk_one _).1
    have e2 : mkD (n * denZ d2 - n2 * denZ d) (denZ d * denZ d2) = 1 := by rw [hb.1, hb.2, Int.mul_one, Int.mul_one, Int.mul_one]; exact (mk_one _).2
    rw [e1, e2]
    have HB1 := Lib.hid (show cmpZ (denZ d) 1 = 0 by unfold cmpZ; rw [if_neg (by omega), if_neg (by omega)])
    have HB2 := Lib.hid (show cmpZ (denZ d2) 1 = 0 by unfold cmpZ; rw [if_neg (by omega), if_neg (by omega)])
    have HF := Lib.hid (fun W u v (h : NumB W u n k) (h2 : NumB W v n2 k) => sub_n h h2 (by omega) (by omega))
    have HD : Hid (decide ((1 : Int) < 0) = false) := Lib.hid rfl
    clear e1 e2 hb
    go_enter Tryz.func104, Tryz.ntmps104
    go_wp2_with fail
    refine (HD1.out _ _ Q0.out.xv).mono ?_
    rintro e1 w1 ⟨v1, rfl, hv, hn⟩
    have Q1 := Lib.hid (Q0.out.new hn)
    have T1 := Lib.hid hv
    clear hv hn Q0
    obtain ⟨c0, c1, c2, c3⟩ := Q1.out.ba.cells4
    obtain ⟨c4, c5, c6, c7⟩ := Q1.out.bb.cells4
    go_wp2_with fail
    refine (HON.out _).mono ?_
    rintro e1 w2 ⟨v2, rfl, hv, hn⟩
    have Q2 := Lib.hid (Q1.out.new hn)
    replace T1 := Lib.hid (T1.out.new hn)
    have T2 := Lib.hid hv
    clear hv hn Q1
    clear c0 c1 c2 c3 c4 c5 c6 c7
    obtain ⟨c0, c1, c2, c3⟩ := Q2.out.ba.cells4
    obtain ⟨c4, c5, c6, c7⟩ := Q2.out.bb.cells4
    go_wp2_with fail
    refine (HC1.out _ _ _ _ T1.out T2.out HB1.out).mono ?_
    rintro e1 w3 ⟨rfl, hn⟩
    have Q3 := Lib.hid (Q2.out.new hn)
    clear hn Q2
    clear c0 c1 c2 c3 c4 c5 c6 c7
    obtain ⟨c0, c1, c2, c3⟩ := Q3.out.ba.cells4
    obtain ⟨c4, c5, c6, c7⟩ := Q3.out.bb.cells4
    go_wp2_with fail
    refine (HD2.out _ _ Q3.out.yv).mono ?_
    rintro e1 w4 ⟨v3, rfl, hv, hn⟩
    have Q4 := Lib.hid (Q3.out.new hn)
    clear T1 T2
    have T1 := Lib.hid hv
    clear hv hn Q3
    clear c0 c1 c2 c3 c4 c5 c6 c7
    obtain ⟨c0, c1, c2, c3⟩ := Q4.out.ba.cells4
    obtain ⟨c4, c5, c6, c7⟩ := Q4.out.bb.cells4
    go_wp2_with fail
    refine (HON.out _).mono ?_
    rintro e1 w5 ⟨v4, rfl, hv, hn⟩
    have Q5 := Lib.hid (Q4.out.new hn)
    replace T1 := Lib.hid (T1.out.new hn)
    have T2 := Lib.hid hv
    clear hv hn Q4
    clear c0 c1 c2 c3 c4 c5 c6 c7
    obtain ⟨c0, c1, c2, c3⟩ := Q5.out.ba.cells4
    obtain ⟨c4, c5, c6, c7⟩ := Q5.out.bb.cells4
    go_wp2_with fail
    refine (HC2.out _ _ _ _ T1.out T2.out HB2.out).mono ?_
    rintro e1 w6 ⟨rfl, hn⟩
    have Q6 := Lib.hid (Q5.out.new hn)
    clear hn Q5
    clear c0 c1 c2 c3 c4 c5 c6 c7
    obtain ⟨c0, c1, c2, c3⟩ := Q6.out.ba.cells4
    obtain ⟨c4, c5, c6, c7⟩ := Q6.out.bb.cells4
    go_wp2_with fail
    refine (HF.out _ _ _ Q6.out.xn Q6.out.yn).mono ?_
    rintro e1 w7 ⟨v5, rfl, hv, hn⟩
    have Q7 := Lib.hid (Q6.out.new hn)
    clear T1 T2
    obtain ⟨A5, l5, c55, rfl, -⟩ := hv.form
    generalize decide (n - n2 < 0) = b5 at *
    have T1 := Lib.hid hv
    clear hv hn Q6
    clear c0 c1 c2 c3 c4 c6 c7
    obtain ⟨c0, c1, c2, c3⟩ := Q7.out.ba.cells4
    obtain ⟨c4, c5x, c6, c7⟩ := Q7.out.bb.cells4
    go_wp2_with fail
    refine (HON.out _).mono ?_
    rintro e1 w8 ⟨v6, rfl, hv, hn⟩
    have Q8 := Lib.hid (Q7.out.new hn)
    replace T1 := Lib.hid (T1.out.new hn)
    obtain ⟨A6, l6, c66, rfl, -⟩ := hv.form
    rw [HD.out] at *
    have T2 := Lib.hid hv
    clear hv hn Q7
    have hq := Q8.out
    have hFR := hq.br
    have c20 := hFR.cells4.1
    have c21 := hFR.cells4.2.1
    have c22 := hFR.cells4.2.2.1
    have c23 := hFR.cells4.2.2.2
    have f20 := hFR.frozen 0
    have f21 := hFR.frozen 1
    have f22 := hFR.frozen 2
    have f23 := hFR.frozen 3
    obtain ⟨gb, gn, gv⟩ := hq.done (.slice A5 l5 c55) (.bool b5) (.slice A6 l6 c66) (.bool false)
    have GR := Lib.hid (gv (RatB.of T1.out T2.out (k + k + (k + k) + 1) (by omega) (by omega)))
    have GN := Lib.hid gn
    obtain ⟨y0, y1, y2, y3⟩ := gb.cells4
    clear hq T1 T2 hFR gb gn gv Q8
    clear c0 c1 c2 c3 c4 c6 c7
    go_wp2
    refine bodyPost_ret (v := .agg #[.slice A5 l5 c55, .bool b5, .slice A6 l6 c66, .bool false]) (by simp [results, Tryz.results104, go_sem, y0, y1, y2, y3]) rfl ⟨_, rfl, GR.out, GN.out⟩
  · have HM1 := Lib.hid (fun W u v (h : NumB W u n k) (h2 : NumB W v (denZ d2) k) => mul_n h h2 (by omega) (by omega))
    have HM2 := Lib.hid (fun W u v (h : NumB W u n2 k) (h2 : NumB W v (denZ d) k) => mul_n h h2 (by omega) (by omega))
    have HM3 := Lib.hid (fun W u v (h : NumB W u (denZ d) k) (h2 : NumB W v (denZ d2) k) => mul_n h h2 (by omega) (by omega))
    have HF := Lib.hid (fun W u v (h : NumB W u (n * denZ d2) (k + k)) (h2 : NumB W v (n2 * denZ d) (k + k)) => sub_n h h2 (by omega) (by omega))
    have HMK := Lib.hid (fun W u v (h : NumB W u (n * denZ d2 - n2 * denZ d) (k + k + (k + k) + 1)) (h2 : NumB W v (denZ d * denZ d2) (k + k + (k + k) + 1)) => qmake_n h h2 (by omega))
    generalize divI (denZ d * denZ d2) = de at *
    obtain ⟨s1, hs1⟩ : ∃ s, cmpZ (denZ d) 1 = s := ⟨_, rfl⟩
    obtain ⟨s2, hs2⟩ : ∃ s, cmpZ (denZ d2) 1 = s := ⟨_, rfl⟩
    have HB1 := Lib.hid hs1
    have HB2 := Lib.hid hs2
    have hor : ((s1 == 0) = false) ∨ (s1 = 0 ∧ (s2 == 0) = false) := by
      by_cases h1 : denZ d = 1
      · right
        have h2 : denZ d2 ≠ 1 := fun e => hb ⟨h1, e⟩
        refine ⟨by rw [← hs1]; unfold cmpZ; rw [if_neg (by omega), if_neg (by omega)], ?_⟩
        rw [beq_eq_false_iff_ne, ← hs2]; unfold cmpZ; (repeat' split) <;> omega
      · left
        rw [beq_eq_false_iff_ne, ← hs1]; unfold cmpZ; (repeat' split) <;> omega
    clear hb hs1 hs2
    rcases hor with hor | ⟨rfl, hor⟩
    · go_enter Tryz.func104, Tryz.ntmps104
      go_wp2_with fail
      refine (HD1.out _ _ Q0.out.xv).mono ?_
      rintro e1 w1 ⟨v1, rfl, hv, hn⟩
      have Q1 := Lib.hid (Q0.out.new hn)
      have T1 := Lib.hid hv
      clear hv hn Q0
      obtain ⟨c0, c1, c2, c3⟩ := Q1.out.ba.cells4
      obtain ⟨c4, c5, c6, c7⟩ := Q1.out.bb.cells4
      go_wp2_with fail
      refine (HON.out _).mono ?_
      rintro e1 w2 ⟨v2, rfl, hv, hn⟩
      have Q2 := Lib.hid (Q1.out.new hn)
      replace T1 := Lib.hid (T1.out.new hn)
      have T2 := Lib.hid hv
      clear hv hn Q1
      clear c0 c1 c2 c3 c4 c5 c6 c7
      obtain ⟨c0, c1, c2, c3⟩ := Q2.out.ba.cells4
      obtain ⟨c4, c5, c6, c7⟩ := Q2.out.bb.cells4
      go_wp2_with fail
      refine (HC1.out _ _ _ _ T1.out T2.out HB1.out).mono ?_
      rintro e1 w3 ⟨rfl, hn⟩
      have Q3 := Lib.hid (Q2.out.new hn)
      clear hn Q2
      clear c0 c1 c2 c3 c4 c5 c6 c7
      obtain ⟨c0, c1, c2, c3⟩ := Q3.out.ba.cells4
      obtain ⟨c4, c5, c6, c7⟩ := Q3.out.bb.cells4
      clear c0 c1 c2 c3 c4 c5 c6 c7
      clear T1 T2
      go_wp2
      refine wp_region_rel (by kernel_rfl) (VL [(7, fun ww vv => ∃ P, vv = .pointer (some ⟨P, 0, none⟩) ∧ Box ww P #[.slice none 0 0, .bool false, .slice none 0 0, .bool false] NRat ∧ w.heap.size + 3 ≤ P), (29, fun ww vv => ∃ r, vv = .tuple #[r, .int .i64 (de)] ∧ RatB ww r (mkN (n * denZ d2 - n2 * denZ d) (denZ d * denZ d2)) (mkD (n * denZ d2 - n2 * denZ d) (denZ d * denZ d2)) (k + k + (k + k) + 1)), (30, fun ww vv => vv = .func (.func 30) #[] #[]), (31, fun ww vv => vv = .pointer (some ⟨w.heap.size, 0, none⟩)), (32, fun ww vv => vv = .agg #[.slice A l c, .bool b]), (33, fun ww vv => vv = .agg #[.slice C m e, .bool f, .slice C' m' e', .bool f']), (34, fun ww vv => NumB ww vv (denZ d2) (k)), (35, fun ww vv => NumB ww vv (n * denZ d2) (k + k)), (36, fun ww vv => vv = .pointer (some ⟨w.heap.size + 1, 0, none⟩)), (37, fun ww vv => vv = .agg #[.slice C m e, .bool f]), (38, fun ww vv => vv = .agg #[.slice A l c, .bool b, .slice A' l' c', .bool b']), (39, fun ww vv => NumB ww vv (denZ d) (k)), (40, fun ww vv => NumB ww vv (n2 * denZ d) (k + k)), (41, fun ww vv => NumB ww vv (n * denZ d2 - n2 * denZ d) (k + k + (k + k) + 1)), (42, fun ww vv => vv = .agg #[.slice A l c, .bool b, .slice A' l' c', .bool b']), (43, fun ww vv => NumB ww vv (denZ d) (k)), (44, fun ww vv => vv = .agg #[.slice C m e, .bool f, .slice C' m' e', .bool f']), (45, fun ww vv => NumB ww vv (denZ d2) (k)), (46, fun ww vv => NumB ww vv (denZ d * denZ d2) (k + k)), (47, fun ww vv => ∃ r, vv = .tuple #[r, .int .i64 (de)] ∧ RatB ww r (mkN (n * denZ d2 - n2 * denZ d) (denZ d * denZ d2)) (mkD (n * denZ d2 - n2 * denZ d) (denZ d * denZ d2)) (k + k + (k + k) + 1)), (48, fun ww vv => RatB ww vv (mkN (n * denZ d2 - n2 * denZ d) (denZ d * denZ d2)) (mkD (n * denZ d2 - n2 * denZ d) (denZ d * denZ d2)) (k + k + (k + k) + 1)), (49, fun ww vv => vv = .int .i64 de)]) (VL_mono ⟨fun _ _ _ h hn => h.elim fun P h => ⟨P, h.1, h.2.1.new hn, h.2.2⟩, fun _ _ _ h hn => h.elim fun r h => ⟨r, h.1, h.2.new hn⟩, fun _ _ _ h _ => h, fun _ _ _ h _ => h, fun _ _ _ h _ => h, fun _ _ _ h _ => h, fun _ _ _ h hn => NumB.new h hn, fun _ _ _ h hn => NumB.new h hn, fun _ _ _ h _ => h, fun _ _ _ h _ => h, fun _ _ _ h _ => h, fun _ _ _ h hn => NumB.new h hn, fun _ _ _ h hn => NumB.new h hn, fun _ _ _ h hn => NumB.new h hn, fun _ _ _ h _ => h, fun _ _ _ h hn => NumB.new h hn, fun _ _ _ h _ => h, fun _ _ _ h hn => NumB.new h hn, fun _ _ _ h hn => NumB.new h hn, fun _ _ _ h hn => h.elim fun r h => ⟨r, h.1, h.2.new hn⟩, fun _ _ _ h hn => RatB.new h hn, fun _ _ _ h _ => h, trivial⟩) _ _ [false, false, false, false, false, false, false, true, false, false, false, false, false, false, false, false, false, false, false, false, false, false, false, false, false, false, false, false, false, true, true, true, true, true, true, true, true, true, true, true, true, true, true, true, true, true, true, true, true, true, false] [true, true, true, true, true, true, true, true, true, true, true, true, true, true, true, true, true, true, true, true, true, true, false, false] [false, false, false, false, false, false, false, false, false, false, false, false, false, false, false, false, false, false, false, false, true, false, false, false] [[], [], [31], [], [33], [32, 34], [], [36], [], [38], [37, 39], [30, 35, 40], [], [42], [], [44], [43, 45], [41, 46], [47], [29], [29], [], [], []] [7, 29, 30, 31, 32, 33, 34, 35, 36, 37, 38, 39, 40, 41, 42, 43, 44, 45, 46, 47, 48, 49] 2 (by kernel_rfl) rfl rfl (by kernel_rfl) (by kernel_rfl) (fun _ _ _ _ _ h => h) ⟨?o0, ?o1, ?o2, ?o3, ?o4, ?o5, ?o6, ?o7, ?o8, ?o9, ?o10, ?o11, ?o12, ?o13, ?o14, ?o15, ?o16, ?o17, ?o18, ?o19, ?o20, ?o21, trivial⟩ ?last
      case o0 =>
        intro s w' K hn hk hK
        clear hk
        simp only [fr, fill, Nat.reduceAdd, Act.put, List.setIfInBounds_toArray, List.set_cons_zero, List.set_cons_succ] at hK ⊢
        refine ⟨true, rfl, ?_⟩
        show Oper.wp _ _ _ _ _ _
        (first | go_big_op | go_simp)
        exact hK _ _ (New.refl _) rfl
      case o1 =>
        intro s w' K hn hk hK
        clear hk
        simp only [fr, fill, Nat.reduceAdd, Act.put, List.setIfInBounds_toArray, List.set_cons_zero, List.set_cons_succ] at hK ⊢
        refine ⟨true, rfl, ?_⟩
        show Oper.wp _ _ _ _ _ _
        (first | go_big_op | go_simp)
        exact hK _ _ (New.refl _) rfl
      case o2 =>
        intro s w' K hn hk hK
        have h31 : (s 31) = .pointer (some ⟨w.heap.size, 0, none⟩) := hk.here
        clear hk
        simp only [fr, fill, Nat.reduceAdd, Act.put, List.setIfInBounds_toArray, List.set_cons_zero, List.set_cons_succ] at hK ⊢
        generalize s 31 = x31 at *
        subst h31
        have hq := Q3.out.new hn
        obtain ⟨c0, c1, c2, c3⟩ := hq.ba.cells4
        clear hq
        refine ⟨true, rfl, ?_⟩
        show Oper.wp _ _ _ _ _ _
        (first | go_big_op | go_simp)
        exact hK _ _ (New.refl _) rfl
      case o3 =>
        intro s w' K hn hk hK
        clear hk
        simp only [fr, fill, Nat.reduceAdd, Act.put, List.setIfInBounds_toArray, List.set_cons_zero, List.set_cons_succ] at hK ⊢
        have hq := Q3.out.new hn
        obtain ⟨c4, c5, c6, c7⟩ := hq.bb.cells4
        clear hq
        refine ⟨true, rfl, ?_⟩
        show Oper.wp _ _ _ _ _ _
        (first | go_big_op | go_simp)
        exact hK _ _ (New.refl _) rfl
      case o4 =>
        intro s w' K hn hk hK
        have h33 : (s 33) = .agg #[.slice C m e, .bool f, .slice C' m' e', .bool f'] := hk.here
        clear hk
        simp only [fr, fill, Nat.reduceAdd, Act.put, List.setIfInBounds_toArray, List.set_cons_zero, List.set_cons_succ] at hK ⊢
        generalize s 33 = x33 at *
        subst h33
        refine ⟨true, rfl, ?_⟩
        show Oper.wp _ _ _ _ _ _
        (first | go_big_op | go_simp)
        refine (HD2.out _ _ (Q3.out.yv.new hn)).mono ?_
        rintro e' w'' ⟨v', rfl, hv', hn'⟩
        exact hK _ _ hn' hv'
      case o5 =>
        intro s w' K hn hk hK
        have h32 : (s 32) = .agg #[.slice A l c, .bool b] := hk.here
        have h34 : NumB w' (s 34) (denZ d2) (k) := hk.next.here
        clear hk
        simp only [fr, fill, Nat.reduceAdd, Act.put, List.setIfInBounds_toArray, List.set_cons_zero, List.set_cons_succ] at hK ⊢
        generalize s 32 = x32 at *
        generalize s 34 = x34 at *
        subst h32
        refine ⟨true, rfl, ?_⟩
        show Oper.wp _ _ _ _ _ _
        (first | go_big_op | go_simp)
        refine (HM1.out _ _ _ (Q3.out.xn.new hn) h34).mono ?_
        rintro e' w'' ⟨v', rfl, hv', hn'⟩
        exact hK _ _ hn' hv'
      case o6 =>
        intro s w' K hn hk hK
        clear hk
        simp only [fr, fill, Nat.reduceAdd, Act.put, List.setIfInBounds_toArray, List.set_cons_zero, List.set_cons_succ] at hK ⊢
        refine ⟨true, rfl, ?_⟩
        show Oper.wp _ _ _ _ _ _
        (first | go_big_op | go_simp)
        exact hK _ _ (New.refl _) rfl
      case o7 =>
        intro s w' K hn hk hK
        have h36 : (s 36) = .pointer (some ⟨w.heap.size + 1, 0, none⟩) := hk.here
        clear hk
        simp only [fr, fill, Nat.reduceAdd, Act.put, List.setIfInBounds_toArray, List.set_cons_zero, List.set_cons_succ] at hK ⊢
        generalize s 36 = x36 at *
        subst h36
        have hq := Q3.out.new hn
        obtain ⟨c4, c5, c6, c7⟩ := hq.bb.cells4
        clear hq
        refine ⟨true, rfl, ?_⟩
        show Oper.wp _ _ _ _ _ _
        (first | go_big_op | go_simp)
        exact hK _ _ (New.refl _) rfl
      case o8 =>
        intro s w' K hn hk hK
        clear hk
        simp only [fr, fill, Nat.reduceAdd, Act.put, List.setIfInBounds_toArray, List.set_cons_zero, List.set_cons_succ] at hK ⊢
        have hq := Q3.out.new hn
        obtain ⟨c0, c1, c2, c3⟩ := hq.ba.cells4
        clear hq
        refine ⟨true, rfl, ?_⟩
        show Oper.wp _ _ _ _ _ _
        (first | go_big_op | go_simp)
        exact hK _ _ (New.refl _) rfl
      case o9 =>
        intro s w' K hn hk hK
        have h38 : (s 38) = .agg #[.slice A l c, .bool b, .slice A' l' c', .bool b'] := hk.here
        clear hk
        simp only [fr, fill, Nat.reduceAdd, Act.put, List.setIfInBounds_toArray, List.set_cons_zero, List.set_cons_succ] at hK ⊢
        generalize s 38 = x38 at *
        subst h38
        refine ⟨true, rfl, ?_⟩
        show Oper.wp _ _ _ _ _ _
        (first | go_big_op | go_simp)
        refine (HD1.out _ _ (Q3.out.xv.new hn)).mono ?_
        rintro e' w'' ⟨v', rfl, hv', hn'⟩
        exact hK _ _ hn' hv'
      case o10 =>
        intro s w' K hn hk hK
        have h37 : (s 37) = .agg #[.slice C m e, .bool f] := hk.here
        have h39 : NumB w' (s 39) (denZ d) (k) := hk.next.here
        clear hk
        simp only [fr, fill, Nat.reduceAdd, Act.put, List.setIfInBounds_toArray, List.set_cons_zero, List.set_cons_succ] at hK ⊢
        generalize s 37 = x37 at *
        generalize s 39 = x39 at *
        subst h37
        refine ⟨true, rfl, ?_⟩
        show Oper.wp _ _ _ _ _ _
        (first | go_big_op | go_simp)
        refine (HM2.out _ _ _ (Q3.out.yn.new hn) h39).mono ?_
        rintro e' w'' ⟨v', rfl, hv', hn'⟩
        exact hK _ _ hn' hv'
      case o11 =>
        intro s w' K hn hk hK
        have h30 : (s 30) = .func (.func 30) #[] #[] := hk.here
        have h35 : NumB w' (s 35) (n * denZ d2) (k + k) := hk.next.here
        have h40 : NumB w' (s 40) (n2 * denZ d) (k + k) := hk.next.next.here
        clear hk
        simp only [fr, fill, Nat.reduceAdd, Act.put, List.setIfInBounds_toArray, List.set_cons_zero, List.set_cons_succ] at hK ⊢
        generalize s 30 = x30 at *
        generalize s 35 = x35 at *
        generalize s 40 = x40 at *
        subst h30
        refine ⟨true, rfl, ?_⟩
        show Oper.wp _ _ _ _ _ _
        (first | go_big_op | go_simp)
        refine (HF.out _ _ _ h35 h40).mono ?_
        rintro e' w'' ⟨v', rfl, hv', hn'⟩
        exact hK _ _ hn' hv'
      case o12 =>
        intro s w' K hn hk hK
        clear hk
        simp only [fr, fill, Nat.reduceAdd, Act.put, List.setIfInBounds_toArray, List.set_cons_zero, List.set_cons_succ] at hK ⊢
        have hq := Q3.out.new hn
        obtain ⟨c0, c1, c2, c3⟩ := hq.ba.cells4
        clear hq
        refine ⟨true, rfl, ?_⟩
        show Oper.wp _ _ _ _ _ _
        (first | go_big_op | go_simp)
        exact hK _ _ (New.refl _) rfl
      case o13 =>
        intro s w' K hn hk hK
        have h42 : (s 42) = .agg #[.slice A l c, .bool b, .slice A' l' c', .bool b'] := hk.here
        clear hk
        simp only [fr, fill, Nat.reduceAdd, Act.put, List.setIfInBounds_toArray, List.set_cons_zero, List.set_cons_succ] at hK ⊢
        generalize s 42 = x42 at *
        subst h42
        refine ⟨true, rfl, ?_⟩
        show Oper.wp _ _ _ _ _ _
        (first | go_big_op | go_simp)
        refine (HD1.out _ _ (Q3.out.xv.new hn)).mono ?_
        rintro e' w'' ⟨v', rfl, hv', hn'⟩
        exact hK _ _ hn' hv'
      case o14 =>
        intro s w' K hn hk hK
        clear hk
        simp only [fr, fill, Nat.reduceAdd, Act.put, List.setIfInBounds_toArray, List.set_cons_zero, List.set_cons_succ] at hK ⊢
        have hq := Q3.out.new hn
        obtain ⟨c4, c5, c6, c7⟩ := hq.bb.cells4
        clear hq
        refine ⟨true, rfl, ?_⟩
        show Oper.wp _ _ _ _ _ _
        (first | go_big_op | go_simp)
        exact hK _ _ (New.refl _) rfl
      case o15 =>
        intro s w' K hn hk hK
        have h44 : (s 44) = .agg #[.slice C m e, .bool f, .slice C' m' e', .bool f'] := hk.here
        clear hk
        simp only [fr, fill, Nat.reduceAdd, Act.put, List.setIfInBounds_toArray, List.set_cons_zero, List.set_cons_succ] at hK ⊢
        generalize s 44 = x44 at *
        subst h44
        refine ⟨true, rfl, ?_⟩
        show Oper.wp _ _ _ _ _ _
        (first | go_big_op | go_simp)
        refine (HD2.out _ _ (Q3.out.yv.new hn)).mono ?_
        rintro e' w'' ⟨v', rfl, hv', hn'⟩
        exact hK _ _ hn' hv'
      case o16 =>
        intro s w' K hn hk hK
        have h43 : NumB w' (s 43) (denZ d) (k) := hk.here
        have h45 : NumB w' (s 45) (denZ d2) (k) := hk.next.here
        clear hk
        simp only [fr, fill, Nat.reduceAdd, Act.put, List.setIfInBounds_toArray, List.set_cons_zero, List.set_cons_succ] at hK ⊢
        generalize s 43 = x43 at *
        generalize s 45 = x45 at *
        refine ⟨true, rfl, ?_⟩
        show Oper.wp _ _ _ _ _ _
        (first | go_big_op | go_simp)
        refine (HM3.out _ _ _ h43 h45).mono ?_
        rintro e' w'' ⟨v', rfl, hv', hn'⟩
        exact hK _ _ hn' hv'
      case o17 =>
        intro s w' K hn hk hK
        have h41 : NumB w' (s 41) (n * denZ d2 - n2 * denZ d) (k + k + (k + k) + 1) := hk.here
        have h46 : NumB w' (s 46) (denZ d * denZ d2) (k + k) := hk.next.here
        clear hk
        simp only [fr, fill, Nat.reduceAdd, Act.put, List.setIfInBounds_toArray, List.set_cons_zero, List.set_cons_succ] at hK ⊢
        generalize s 41 = x41 at *
        generalize s 46 = x46 at *
        refine ⟨true, rfl, ?_⟩
        show Oper.wp _ _ _ _ _ _
        (first | go_big_op | go_simp)
        refine (HMK.out _ _ _ h41 (h46.more (by omega))).mono ?_
        rintro e' w'' ⟨r, rfl, hv', hn'⟩
        exact hK _ _ hn' ⟨_, rfl, hv'⟩
      case o18 =>
        intro s w' K hn hk hK
        have h47 : ∃ r, (s 47) = .tuple #[r, .int .i64 (de)] ∧ RatB w' r (mkN (n * denZ d2 - n2 * denZ d) (denZ d * denZ d2)) (mkD (n * denZ d2 - n2 * denZ d) (denZ d * denZ d2)) (k + k + (k + k) + 1) := hk.here
        clear hk
        simp only [fr, fill, Nat.reduceAdd, Act.put, List.setIfInBounds_toArray, List.set_cons_zero, List.set_cons_succ] at hK ⊢
        generalize s 47 = x47 at *
        obtain ⟨r47, rfl, h47⟩ := h47
        refine ⟨true, rfl, ?_⟩
        show Oper.wp _ _ _ _ _ _
        (first | go_big_op | go_simp)
        exact hK _ _ (New.refl _) ⟨_, rfl, h47⟩
      case o19 =>
        intro s w' K hn hk hK
        have h29 : ∃ r, (s 29) = .tuple #[r, .int .i64 (de)] ∧ RatB w' r (mkN (n * denZ d2 - n2 * denZ d) (denZ d * denZ d2)) (mkD (n * denZ d2 - n2 * denZ d) (denZ d * denZ d2)) (k + k + (k + k) + 1) := hk.here
        clear hk
        simp only [fr, fill, Nat.reduceAdd, Act.put, List.setIfInBounds_toArray, List.set_cons_zero, List.set_cons_succ] at hK ⊢
        generalize s 29 = x29 at *
        obtain ⟨r29, rfl, h29⟩ := h29
        refine ⟨true, rfl, ?_⟩
        show Oper.wp _ _ _ _ _ _
        (first | go_big_op | go_simp)
        exact hK _ _ (New.refl _) h29
      case o20 =>
        intro s w' hn hk
        have h29 : ∃ r, (s 29) = .tuple #[r, .int .i64 (de)] ∧ RatB w' r (mkN (n * denZ d2 - n2 * denZ d) (denZ d * denZ d2)) (mkD (n * denZ d2 - n2 * denZ d) (denZ d * denZ d2)) (k + k + (k + k) + 1) := hk.here
        clear hk
        simp only [fr, fill, Nat.reduceAdd, Act.put, List.setIfInBounds_toArray, List.set_cons_zero, List.set_cons_succ]
        generalize s 29 = x29 at *
        obtain ⟨r29, rfl, h29⟩ := h29
        refine ⟨.int .i64 de, Or.inl ⟨rfl, fun W' => ?_⟩, rfl⟩
        first | rfl | go_simp
      case o21 =>
        intro s w' K hn hk hK
        clear hk
        simp only [fr, fill, Nat.reduceAdd, Act.put, List.setIfInBounds_toArray, List.set_cons_zero, List.set_cons_succ] at hK ⊢
        refine ⟨true, rfl, ?_⟩
        show Oper.wp _ _ _ _ _ _
        (first | go_big_op | go_simp)
        exact hK _ _ ((New.refl _).alloc _) ⟨_, rfl, Box.last _ _ _, by have := Q3.out.lt; have := hn.le; omega⟩
      case last =>
        intro s V0 hn hk
        have h7 : ∃ P, (s 7) = .pointer (some ⟨P, 0, none⟩) ∧ Box V0 P #[.slice none 0 0, .bool false, .slice none 0 0, .bool false] NRat ∧ w.heap.size + 3 ≤ P := hk.here
        have h29 : ∃ r, (s 29) = .tuple #[r, .int .i64 (de)] ∧ RatB V0 r (mkN (n * denZ d2 - n2 * denZ d) (denZ d * denZ d2)) (mkD (n * denZ d2 - n2 * denZ d) (denZ d * denZ d2)) (k + k + (k + k) + 1) := hk.next.here
        have h30 : (s 30) = .func (.func 30) #[] #[] := hk.next.next.here
        have h31 : (s 31) = .pointer (some ⟨w.heap.size, 0, none⟩) := hk.next.next.next.here
        have h32 : (s 32) = .agg #[.slice A l c, .bool b] := hk.next.next.next.next.here
        have h33 : (s 33) = .agg #[.slice C m e, .bool f, .slice C' m' e', .bool f'] := hk.next.next.next.next.next.here
        have h34 : NumB V0 (s 34) (denZ d2) (k) := hk.next.next.next.next.next.next.here
        have h35 : NumB V0 (s 35) (n * denZ d2) (k + k) := hk.next.next.next.next.next.next.next.here
        have h36 : (s 36) = .pointer (some ⟨w.heap.size + 1, 0, none⟩) := hk.next.next.next.next.next.next.next.next.here
        have h37 : (s 37) = .agg #[.slice C m e, .bool f] := hk.next.next.next.next.next.next.next.next.next.here
        have h38 : (s 38) = .agg #[.slice A l c, .bool b, .slice A' l' c', .bool b'] := hk.next.next.next.next.next.next.next.next.next.next.here
        have h39 : NumB V0 (s 39) (denZ d) (k) := hk.next.next.next.next.next.next.next.next.next.next.next.here
        have h40 : NumB V0 (s 40) (n2 * denZ d) (k + k) := hk.next.next.next.next.next.next.next.next.next.next.next.next.here
        have h41 : NumB V0 (s 41) (n * denZ d2 - n2 * denZ d) (k + k + (k + k) + 1) := hk.next.next.next.next.next.next.next.next.next.next.next.next.next.here
        have h42 : (s 42) = .agg #[.slice A l c, .bool b, .slice A' l' c', .bool b'] := hk.next.next.next.next.next.next.next.next.next.next.next.next.next.next.here
        have h43 : NumB V0 (s 43) (denZ d) (k) := hk.next.next.next.next.next.next.next.next.next.next.next.next.next.next.next.here
        have h44 : (s 44) = .agg #[.slice C m e, .bool f, .slice C' m' e', .bool f'] := hk.next.next.next.next.next.next.next.next.next.next.next.next.next.next.next.next.here
        have h45 : NumB V0 (s 45) (denZ d2) (k) := hk.next.next.next.next.next.next.next.next.next.next.next.next.next.next.next.next.next.here
        have h46 : NumB V0 (s 46) (denZ d * denZ d2) (k + k) := hk.next.next.next.next.next.next.next.next.next.next.next.next.next.next.next.next.next.next.here
        have h47 : ∃ r, (s 47) = .tuple #[r, .int .i64 (de)] ∧ RatB V0 r (mkN (n * denZ d2 - n2 * denZ d) (denZ d * denZ d2)) (mkD (n * denZ d2 - n2 * denZ d) (denZ d * denZ d2)) (k + k + (k + k) + 1) := hk.next.next.next.next.next.next.next.next.next.next.next.next.next.next.next.next.next.next.next.here
        have h48 : RatB V0 (s 48) (mkN (n * denZ d2 - n2 * denZ d) (denZ d * denZ d2)) (mkD (n * denZ d2 - n2 * denZ d) (denZ d * denZ d2)) (k + k + (k + k) + 1) := hk.next.next.next.next.next.next.next.next.next.next.next.next.next.next.next.next.next.next.next.next.here
        have h49 : (s 49) = .int .i64 de := hk.next.next.next.next.next.next.next.next.next.next.next.next.next.next.next.next.next.next.next.next.next.here
        clear hk
        simp only [fr, fill, Nat.reduceAdd, Act.put, List.setIfInBounds_toArray, List.set_cons_zero, List.set_cons_succ]
        generalize s 7 = x7 at *
        generalize s 29 = x29 at *
        generalize s 30 = x30 at *
        generalize s 31 = x31 at *
        generalize s 32 = x32 at *
        generalize s 33 = x33 at *
        generalize s 34 = x34 at *
        generalize s 35 = x35 at *
        generalize s 36 = x36 at *
        generalize s 37 = x37 at *
        generalize s 38 = x38 at *
        generalize s 39 = x39 at *
        generalize s 40 = x40 at *
        generalize s 41 = x41 at *
        generalize s 42 = x42 at *
        generalize s 43 = x43 at *
        generalize s 44 = x44 at *
        generalize s 45 = x45 at *
        generalize s 46 = x46 at *
        generalize s 47 = x47 at *
        generalize s 48 = x48 at *
        generalize s 49 = x49 at *
        obtain ⟨P, rfl, hbx, hP⟩ := h7
        obtain ⟨r29, rfl, h29⟩ := h29
        subst h30
        subst h31
        subst h32
        subst h33
        subst h36
        subst h37
        subst h38
        subst h42
        subst h44
        obtain ⟨r47, rfl, h47⟩ := h47
        subst h49
        refine wpAny_chain [22, 23] _ _ _ (by kernel_rfl) ?_
        change wpList _ _ _ [_, _] _ _
        have hq := Q3.out.new hn
        obtain ⟨R, rl, rc, R', rl', rc', rfl⟩ := RatB.form h48
        generalize decide (mkN (n * denZ d2 - n2 * denZ d) (denZ d * denZ d2) < 0) = rb at *
        generalize decide (mkD (n * denZ d2 - n2 * denZ d) (denZ d * denZ d2) < 0) = rb' at *
        obtain ⟨k0, k1, k2, k3⟩ := hbx.cells4
        have g0 := hbx.frozen 0
        have g1 := hbx.frozen 1
        have g2 := hbx.frozen 2
        have g3 := hbx.frozen 3
        have st := hq.gs h48 hbx hP
        have ST := Lib.hid st
        clear st hq h34 h35 h39 h40 h41 h43 h45 h46 h47 h29 h48 hn hP hbx
        refine wpList_plain rfl fun K22 hK22 => ?_
        go_simp
        refine hK22 _ _ ?_
        clear hK22
        refine wpList_plain rfl fun K23 hK23 => ?_
        go_simp
        refine hK23 _ _ ?_
        clear hK23
        change Exit.then _ _ .normal _ _
        simp only [Exit.then]
        refine ST.out.name2 ?_
        clear ST
        rintro V hV P2 hP2 st
        rw [← hV, ← hP2]
        clear hV hP2 k0 k1 k2 k3 g0 g1 g2 g3
        have hq := st.q
        obtain ⟨k0, k1, k2, k3⟩ := st.bx.cells4
        have hFR := hq.br
        have c20 := hFR.cells4.1
        have c21 := hFR.cells4.2.1
        have c22 := hFR.cells4.2.2.1
        have c23 := hFR.cells4.2.2.2
        have f20 := hFR.frozen 0
        have f21 := hFR.frozen 1
        have f22 := hFR.frozen 2
        have f23 := hFR.frozen 3
        obtain ⟨gb, gn, gv⟩ := hq.done (.slice R rl rc) (.bool rb) (.slice R' rl' rc') (.bool rb')
        have GR := Lib.hid (gv st.rv)
        have GN := Lib.hid gn
        obtain ⟨y0, y1, y2, y3⟩ := gb.cells4
        clear hFR gb gn gv st hq
        go_wp2
        refine bodyPost_ret (v := .agg #[.slice R rl rc, .bool rb, .slice R' rl' rc', .bool rb']) (by simp [results, Tryz.results104, go_sem, y0, y1, y2, y3]) rfl ⟨_, rfl, GR.out, GN.out⟩
    · go_enter Tryz.func104, Tryz.ntmps104
      go_wp2_with fail
      refine (HD1.out _ _ Q0.out.xv).mono ?_
      rintro e1 w1 ⟨v1, rfl, hv, hn⟩
      have Q1 := Lib.hid (Q0.out.new hn)
      have T1 := Lib.hid hv
      clear hv hn Q0
      obtain ⟨c0, c1, c2, c3⟩ := Q1.out.ba.cells4
      obtain ⟨c4, c5, c6, c7⟩ := Q1.out.bb.cells4
      go_wp2_with fail
      refine (HON.out _).mono ?_
      rintro e1 w2 ⟨v2, rfl, hv, hn⟩
      have Q2 := Lib.hid (Q1.out.new hn)
      replace T1 := Lib.hid (T1.out.new hn)
      have T2 := Lib.hid hv
      clear hv hn Q1
      clear c0 c1 c2 c3 c4 c5 c6 c7
      obtain ⟨c0, c1, c2, c3⟩ := Q2.out.ba.cells4
      obtain ⟨c4, c5, c6, c7⟩ := Q2.out.bb.cells4
      go_wp2_with fail
      refine (HC1.out _ _ _ _ T1.out T2.out HB1.out).mono ?_
      rintro e1 w3 ⟨rfl, hn⟩
      have Q3 := Lib.hid (Q2.out.new hn)
      clear hn Q2
      clear c0 c1 c2 c3 c4 c5 c6 c7
      obtain ⟨c0, c1, c2, c3⟩ := Q3.out.ba.cells4
      obtain ⟨c4, c5, c6, c7⟩ := Q3.out.bb.cells4
      go_wp2_with fail
      refine (HD2.out _ _ Q3.out.yv).mono ?_
      rintro e1 w4 ⟨v3, rfl, hv, hn⟩
      have Q4 := Lib.hid (Q3.out.new hn)
      clear T1 T2
      have T1 := Lib.hid hv
      clear hv hn Q3
      clear c0 c1 c2 c3 c4 c5 c6 c7
      obtain ⟨c0, c1, c2, c3⟩ := Q4.out.ba.cells4
      obtain ⟨c4, c5, c6, c7⟩ := Q4.out.bb.cells4
      go_wp2_with fail
      refine (HON.out _).mono ?_
      rintro e1 w5 ⟨v4, rfl, hv, hn⟩
      have Q5 := Lib.hid (Q4.out.new hn)
      replace T1 := Lib.hid (T1.out.new hn)
      have T2 := Lib.hid hv
      clear hv hn Q4
      clear c0 c1 c2 c3 c4 c5 c6 c7
      obtain ⟨c0, c1, c2, c3⟩ := Q5.out.ba.cells4
      obtain ⟨c4, c5, c6, c7⟩ := Q5.out.bb.cells4
      go_wp2_with fail
      refine (HC2.out _ _ _ _ T1.out T2.out HB2.out).mono ?_
      rintro e1 w6 ⟨rfl, hn⟩
      have Q6 := Lib.hid (Q5.out.new hn)
      clear hn Q5
      clear c0 c1 c2 c3 c4 c5 c6 c7
      obtain ⟨c0, c1, c2, c3⟩ := Q6.out.ba.cells4
      obtain ⟨c4, c5, c6, c7⟩ := Q6.out.bb.cells4
      clear c0 c1 c2 c3 c4 c5 c6 c7
      clear T1 T2
      go_wp2
      refine wp_region_rel (by kernel_rfl) (VL [(7, fun ww vv => ∃ P, vv = .pointer (some ⟨P, 0, none⟩) ∧ Box ww P #[.slice none 0 0, .bool false, .slice none 0 0, .bool false] NRat ∧ w.heap.size + 3 ≤ P), (29, fun ww vv => ∃ r, vv = .tuple #[r, .int .i64 (de)] ∧ RatB ww r (mkN (n * denZ d2 - n2 * denZ d) (denZ d * denZ d2)) (mkD (n * denZ d2 - n2 * denZ d) (denZ d * denZ d2)) (k + k + (k + k) + 1)), (30, fun ww vv => vv = .func (.func 30) #[] #[]), (31, fun ww vv => vv = .pointer (some ⟨w.heap.size, 0, none⟩)), (32, fun ww vv => vv = .agg #[.slice A l c, .bool b]), (33, fun ww vv => vv = .agg #[.slice C m e, .bool f, .slice C' m' e', .bool f']), (34, fun ww vv => NumB ww vv (denZ d2) (k)), (35, fun ww vv => NumB ww vv (n * denZ d2) (k + k)), (36, fun ww vv => vv = .pointer (some ⟨w.heap.size + 1, 0, none⟩)), (37, fun ww vv => vv = .agg #[.slice C m e, .bool f]), (38, fun ww vv => vv = .agg #[.slice A l c, .bool b, .slice A' l' c', .bool b']), (39, fun ww vv => NumB ww vv (denZ d) (k)), (40, fun ww vv => NumB ww vv (n2 * denZ d) (k + k)), (41, fun ww vv => NumB ww vv (n * denZ d2 - n2 * denZ d) (k + k + (k + k) + 1)), (42, fun ww vv => vv = .agg #[.slice A l c, .bool b, .slice A' l' c', .bool b']), (43, fun ww vv => NumB ww vv (denZ d) (k)), (44, fun ww vv => vv = .agg #[.slice C m e, .bool f, .slice C' m' e', .bool f']), (45, fun ww vv => NumB ww vv (denZ d2) (k)), (46, fun ww vv => NumB ww vv (denZ d * denZ d2) (k + k)), (47, fun ww vv => ∃ r, vv = .tuple #[r, .int .i64 (de)] ∧ RatB ww r (mkN (n * denZ d2 - n2 * denZ d) (denZ d * denZ d2)) (mkD (n * denZ d2 - n2 * denZ d) (denZ d * denZ d2)) (k + k + (k + k) + 1)), (48, fun ww vv => RatB ww vv (mkN (n * denZ d2 - n2 * denZ d) (denZ d * denZ d2)) (mkD (n * denZ d2 - n2 * denZ d) (denZ d * denZ d2)) (k + k + (k + k) + 1)), (49, fun ww vv => vv = .int .i64 de)]) (VL_mono ⟨fun _ _ _ h hn => h.elim fun P h => ⟨P, h.1, h.2.1.new hn, h.2.2⟩, fun _ _ _ h hn => h.elim fun r h => ⟨r, h.1, h.2.new hn⟩, fun _ _ _ h _ => h, fun _ _ _ h _ => h, fun _ _ _ h _ => h, fun _ _ _ h _ => h, fun _ _ _ h hn => NumB.new h hn, fun _ _ _ h hn => NumB.new h hn, fun _ _ _ h _ => h, fun _ _ _ h _ => h, fun _ _ _ h _ => h, fun _ _ _ h hn => NumB.new h hn, fun _ _ _ h hn => NumB.new h hn, fun _ _ _ h hn => NumB.new h hn, fun _ _ _ h _ => h, fun _ _ _ h hn => NumB.new h hn, fun _ _ _ h _ => h, fun _ _ _ h hn => NumB.new h hn, fun _ _ _ h hn => NumB.new h hn, fun _ _ _ h hn => h.elim fun r h => ⟨r, h.1, h.2.new hn⟩, fun _ _ _ h hn => RatB.new h hn, fun _ _ _ h _ => h, trivial⟩) _ _ [false, false, false, false, false, false, false, true, false, false, false, false, false, false, false, false, false, false, false, false, false, false, false, false, false, false, false, false, false, true, true, true, true, true, true, true, true, true, true, true, true, true, true, true, true, true, true, true, true, true, false] [true, true, true, true, true, true, true, true, true, true, true, true, true, true, true, true, true, true, true, true, true, true, false, false] [false, false, false, false, false, false, false, false, false, false, false, false, false, false, false, false, false, false, false, false, true, false, false, false] [[], [], [31], [], [33], [32, 34], [], [36], [], [38], [37, 39], [30, 35, 40], [], [42], [], [44], [43, 45], [41, 46], [47], [29], [29], [], [], []] [7, 29, 30, 31, 32, 33, 34, 35, 36, 37, 38, 39, 40, 41, 42, 43, 44, 45, 46, 47, 48, 49] 2 (by kernel_rfl) rfl rfl (by kernel_rfl) (by kernel_rfl) (fun _ _ _ _ _ h => h) ⟨?o0, ?o1, ?o2, ?o3, ?o4, ?o5, ?o6, ?o7, ?o8, ?o9, ?o10, ?o11, ?o12, ?o13, ?o14, ?o15, ?o16, ?o17, ?o18, ?o19, ?o20, ?o21, trivial⟩ ?last
      case o0 =>
        intro s w' K hn hk hK
        clear hk
        simp only [fr, fill, Nat.reduceAdd, Act.put, List.setIfInBounds_toArray, List.set_cons_zero, List.set_cons_succ] at hK ⊢
        refine ⟨true, rfl, ?_⟩
        show Oper.wp _ _ _ _ _ _
        (first | go_big_op | go_simp)
        exact hK _ _ (New.refl _) rfl
      case o1 =>
        intro s w' K hn hk hK
        clear hk
        simp only [fr, fill, Nat.reduceAdd, Act.put, List.setIfInBounds_toArray, List.set_cons_zero, List.set_cons_succ] at hK ⊢
        refine ⟨true, rfl, ?_⟩
        show Oper.wp _ _ _ _ _ _
        (first | go_big_op | go_simp)
        exact hK _ _ (New.refl _) rfl
      case o2 =>
        intro s w' K hn hk hK
        have h31 : (s 31) = .pointer (some ⟨w.heap.size, 0, none⟩) := hk.here
        clear hk
        simp only [fr, fill, Nat.reduceAdd, Act.put, List.setIfInBounds_toArray, List.set_cons_zero, List.set_cons_succ] at hK ⊢
        generalize s 31 = x31 at *
        subst h31
        have hq := Q6.out.new hn
        obtain ⟨c0, c1, c2, c3⟩ := hq.ba.cells4
        clear hq
        refine ⟨true, rfl, ?_⟩
        show Oper.wp _ _ _ _ _ _
        (first | go_big_op | go_simp)
        exact hK _ _ (New.refl _) rfl
      case o3 =>
        intro s w' K hn hk hK
        clear hk
        simp only [fr, fill, Nat.reduceAdd, Act.put, List.setIfInBounds_toArray, List.set_cons_zero, List.set_cons_succ] at hK ⊢
        have hq := Q6.out.new hn
        obtain ⟨c4, c5, c6, c7⟩ := hq.bb.cells4
        clear hq
        refine ⟨true, rfl, ?_⟩
        show Oper.wp _ _ _ _ _ _
        (first | go_big_op | go_simp)
        exact hK _ _ (New.refl _) rfl
      case o4 =>
        intro s w' K hn hk hK
        have h33 : (s 33) = .agg #[.slice C m e, .bool f, .slice C' m' e', .bool f'] := hk.here
        clear hk
        simp only [fr, fill, Nat.reduceAdd, Act.put, List.setIfInBounds_toArray, List.set_cons_zero, List.set_cons_succ] at hK ⊢
        generalize s 33 = x33 at *
        subst h33
        refine ⟨true, rfl, ?_⟩
        show Oper.wp _ _ _ _ _ _
        (first | go_big_op | go_simp)
        refine (HD2.out _ _ (Q6.out.yv.new hn)).mono ?_
        rintro e' w'' ⟨v', rfl, hv', hn'⟩
        exact hK _ _ hn' hv'
      case o5 =>
        intro s w' K hn hk hK
        have h32 : (s 32) = .agg #[.slice A l c, .bool b] := hk.here
        have h34 : NumB w' (s 34) (denZ d2) (k) := hk.next.here
        clear hk
        simp only [fr, fill, Nat.reduceAdd, Act.put, List.setIfInBounds_toArray, List.set_cons_zero, List.set_cons_succ] at hK ⊢
        generalize s 32 = x32 at *
        generalize s 34 = x34 at *
        subst h32
        refine ⟨true, rfl, ?_⟩
        show Oper.wp _ _ _ _ _ _
        (first | go_big_op | go_simp)
        refine (HM1.out _ _ _ (Q6.out.xn.new hn) h34).mono ?_
        rintro e' w'' ⟨v', rfl, hv', hn'⟩
        exact hK _ _ hn' hv'
      case o6 =>
        intro s w' K hn hk hK
        clear hk
        simp only [fr, fill, Nat.reduceAdd, Act.put, List.setIfInBounds_toArray, List.set_cons_zero, List.set_cons_succ] at hK ⊢
        refine ⟨true, rfl, ?_⟩
        show Oper.wp _ _ _ _ _ _
        (first | go_big_op | go_simp)
        exact hK _ _ (New.refl _) rfl
      case o7 =>
        intro s w' K hn hk hK
        have h36 : (s 36) = .pointer (some ⟨w.heap.size + 1, 0, none⟩) := hk.here
        clear hk
        simp only [fr, fill, Nat.reduceAdd, Act.put, List.setIfInBounds_toArray, List.set_cons_zero, List.set_cons_succ] at hK ⊢
        generalize s 36 = x36 at *
        subst h36
        have hq := Q6.out.new hn
        obtain ⟨c4, c5, c6, c7⟩ := hq.bb.cells4
        clear hq
        refine ⟨true, rfl, ?_⟩
        show Oper.wp _ _ _ _ _ _
        (first | go_big_op | go_simp)
        exact hK _ _ (New.refl _) rfl
      case o8 =>
        intro s w' K hn hk hK
        clear hk
        simp only [fr, fill, Nat.reduceAdd, Act.put, List.setIfInBounds_toArray, List.set_cons_zero, List.set_cons_succ] at hK ⊢
        have hq := Q6.out.new hn
        obtain ⟨c0, c1, c2, c3⟩ := hq.ba.cells4
        clear hq
        refine ⟨true, rfl, ?_⟩
        show Oper.wp _ _ _ _ _ _
        (first | go_big_op | go_simp)
        exact hK _ _ (New.refl _) rfl
      case o9 =>
        intro s w' K hn hk hK
        have h38 : (s 38) = .agg #[.slice A l c, .bool b, .slice A' l' c', .bool b'] := hk.here
        clear hk
        simp only [fr, fill, Nat.reduceAdd, Act.put, List.setIfInBounds_toArray, List.set_cons_zero, List.set_cons_succ] at hK ⊢
        generalize s 38 = x38 at *
        subst h38
        refine ⟨true, rfl, ?_⟩
        show Oper.wp _ _ _ _ _ _
        (first | go_big_op | go_simp)
        refine (HD1.out _ _ (Q6.out.xv.new hn)).mono ?_
        rintro e' w'' ⟨v', rfl, hv', hn'⟩
        exact hK _ _ hn' hv'
      case o10 =>
        intro s w' K hn hk hK
        have h37 : (s 37) = .agg #[.slice C m e, .bool f] := hk.here
        have h39 : NumB w' (s 39) (denZ d) (k) := hk.next.here
        clear hk
        simp only [fr, fill, Nat.reduceAdd, Act.put, List.setIfInBounds_toArray, List.set_cons_zero, List.set_cons_succ] at hK ⊢
        generalize s 37 = x37 at *
        generalize s 39 = x39 at *
        subst h37
        refine ⟨true, rfl, ?_⟩
        show Oper.wp _ _ _ _ _ _
        (first | go_big_op | go_simp)
        refine (HM2.out _ _ _ (Q6.out.yn.new hn) h39).mono ?_
        rintro e' w'' ⟨v', rfl, hv', hn'⟩
        exact hK _ _ hn' hv'
      case o11 =>
        intro s w' K hn hk hK
        have h30 : (s 30) = .func (.func 30) #[] #[] := hk.here
        have h35 : NumB w' (s 35) (n * denZ d2) (k + k) := hk.next.here
        have h40 : NumB w' (s 40) (n2 * denZ d) (k + k) := hk.next.next.here
        clear hk
        simp only [fr, fill, Nat.reduceAdd, Act.put, List.setIfInBounds_toArray, List.set_cons_zero, List.set_cons_succ] at hK ⊢
        generalize s 30 = x30 at *
        generalize s 35 = x35 at *
        generalize s 40 = x40 at *
        subst h30
        refine ⟨true, rfl, ?_⟩
        show Oper.wp _ _ _ _ _ _
        (first | go_big_op | go_simp)
        refine (HF.out _ _ _ h35 h40).mono ?_
        rintro e' w'' ⟨v', rfl, hv', hn'⟩
        exact hK _ _ hn' hv'
      case o12 =>
        intro s w' K hn hk hK
        clear hk
        simp only [fr, fill, Nat.reduceAdd, Act.put, List.setIfInBounds_toArray, List.set_cons_zero, List.set_cons_succ] at hK ⊢
        have hq := Q6.out.new hn
        obtain ⟨c0, c1, c2, c3⟩ := hq.ba.cells4
        clear hq
        refine ⟨true, rfl, ?_⟩
        show Oper.wp _ _ _ _ _ _
        (first | go_big_op | go_simp)
        exact hK _ _ (New.refl _) rfl
      case o13 =>
        intro s w' K hn hk hK
        have h42 : (s 42) = .agg #[.slice A l c, .bool b, .slice A' l' c', .bool b'] := hk.here
        clear hk
        simp only [fr, fill, Nat.reduceAdd, Act.put, List.setIfInBounds_toArray, List.set_cons_zero, List.set_cons_succ] at hK ⊢
        generalize s 42 = x42 at *
        subst h42
        refine ⟨true, rfl, ?_⟩
        show Oper.wp _ _ _ _ _ _
        (first | go_big_op | go_simp)
        refine (HD1.out _ _ (Q6.out.xv.new hn)).mono ?_
        rintro e' w'' ⟨v', rfl, hv', hn'⟩
        exact hK _ _ hn' hv'
      case o14 =>
        intro s w' K hn hk hK
        clear hk
        simp only [fr, fill, Nat.reduceAdd, Act.put, List.setIfInBounds_toArray, List.set_cons_zero, List.set_cons_succ] at hK ⊢
        have hq := Q6.out.new hn
        obtain ⟨c4, c5, c6, c7⟩ := hq.bb.cells4
        clear hq
        refine ⟨true, rfl, ?_⟩
        show Oper.wp _ _ _ _ _ _
        (first | go_big_op | go_simp)
        exact hK _ _ (New.refl _) rfl
      case o15 =>
        intro s w' K hn hk hK
        have h44 : (s 44) = .agg #[.slice C m e, .bool f, .slice C' m' e', .bool f'] := hk.here
        clear hk
        simp only [fr, fill, Nat.reduceAdd, Act.put, List.setIfInBounds_toArray, List.set_cons_zero, List.set_cons_succ] at hK ⊢
        generalize s 44 = x44 at *
        subst h44
        refine ⟨true, rfl, ?_⟩
        show Oper.wp _ _ _ _ _ _
        (first | go_big_op | go_simp)
        refine (HD2.out _ _ (Q6.out.yv.new hn)).mono ?_
        rintro e' w'' ⟨v', rfl, hv', hn'⟩
        exact hK _ _ hn' hv'
      case o16 =>
        intro s w' K hn hk hK
        have h43 : NumB w' (s 43) (denZ d) (k) := hk.here
        have h45 : NumB w' (s 45) (denZ d2) (k) := hk.next.here
        clear hk
        simp only [fr, fill, Nat.reduceAdd, Act.put, List.setIfInBounds_toArray, List.set_cons_zero, List.set_cons_succ] at hK ⊢
        generalize s 43 = x43 at *
        generalize s 45 = x45 at *
        refine ⟨true, rfl, ?_⟩
        show Oper.wp _ _ _ _ _ _
        (first | go_big_op | go_simp)
        refine (HM3.out _ _ _ h43 h45).mono ?_
        rintro e' w'' ⟨v', rfl, hv', hn'⟩
        exact hK _ _ hn' hv'
      case o17 =>
        intro s w' K hn hk hK
        have h41 : NumB w' (s 41) (n * denZ d2 - n2 * denZ d) (k + k + (k + k) + 1) := hk.here
        have h46 : NumB w' (s 46) (denZ d * denZ d2) (k + k) := hk.next.here
        clear hk
        simp only [fr, fill, Nat.reduceAdd, Act.put, List.setIfInBounds_toArray, List.set_cons_zero, List.set_cons_succ] at hK ⊢
        generalize s 41 = x41 at *
        generalize s 46 = x46 at *
        refine ⟨true, rfl, ?_⟩
        show Oper.wp _ _ _ _ _ _
        (first | go_big_op | go_simp)
        refine (HMK.out _ _ _ h41 (h46.more (by omega))).mono ?_
        rintro e' w'' ⟨r, rfl, hv', hn'⟩
        exact hK _ _ hn' ⟨_, rfl, hv'⟩
      case o18 =>
        intro s w' K hn hk hK
        have h47 : ∃ r, (s 47) = .tuple #[r, .int .i64 (de)] ∧ RatB w' r (mkN (n * denZ d2 - n2 * denZ d) (denZ d * denZ d2)) (mkD (n * denZ d2 - n2 * denZ d) (denZ d * denZ d2)) (k + k + (k + k) + 1) := hk.here
        clear hk
        simp only [fr, fill, Nat.reduceAdd, Act.put, List.setIfInBounds_toArray, List.set_cons_zero, List.set_cons_succ] at hK ⊢
        generalize s 47 = x47 at *
        obtain ⟨r47, rfl, h47⟩ := h47
        refine ⟨true, rfl, ?_⟩
        show Oper.wp _ _ _ _ _ _
        (first | go_big_op | go_simp)
        exact hK _ _ (New.refl _) ⟨_, rfl, h47⟩
      case o19 =>
        intro s w' K hn hk hK
        have h29 : ∃ r, (s 29) = .tuple #[r, .int .i64 (de)] ∧ RatB w' r (mkN (n * denZ d2 - n2 * denZ d) (denZ d * denZ d2)) (mkD (n * denZ d2 - n2 * denZ d) (denZ d * denZ d2)) (k + k + (k + k) + 1) := hk.here
        clear hk
        simp only [fr, fill, Nat.reduceAdd, Act.put, List.setIfInBounds_toArray, List.set_cons_zero, List.set_cons_succ] at hK ⊢
        generalize s 29 = x29 at *
        obtain ⟨r29, rfl, h29⟩ := h29
        refine ⟨true, rfl, ?_⟩
        show Oper.wp _ _ _ _ _ _
        (first | go_big_op | go_simp)
        exact hK _ _ (New.refl _) h29
      case o20 =>
        intro s w' hn hk
        have h29 : ∃ r, (s 29) = .tuple #[r, .int .i64 (de)] ∧ RatB w' r (mkN (n * denZ d2 - n2 * denZ d) (denZ d * denZ d2)) (mkD (n * denZ d2 - n2 * denZ d) (denZ d * denZ d2)) (k + k + (k + k) + 1) := hk.here
        clear hk
        simp only [fr, fill, Nat.reduceAdd, Act.put, List.setIfInBounds_toArray, List.set_cons_zero, List.set_cons_succ]
        generalize s 29 = x29 at *
        obtain ⟨r29, rfl, h29⟩ := h29
        refine ⟨.int .i64 de, Or.inl ⟨rfl, fun W' => ?_⟩, rfl⟩
        first | rfl | go_simp
      case o21 =>
        intro s w' K hn hk hK
        clear hk
        simp only [fr, fill, Nat.reduceAdd, Act.put, List.setIfInBounds_toArray, List.set_cons_zero, List.set_cons_succ] at hK ⊢
        refine ⟨true, rfl, ?_⟩
        show Oper.wp _ _ _ _ _ _
        (first | go_big_op | go_simp)
        exact hK _ _ ((New.refl _).alloc _) ⟨_, rfl, Box.last _ _ _, by have := Q6.out.lt; have := hn.le; omega⟩
      case last =>
        intro s V0 hn hk
        have h7 : ∃ P, (s 7) = .pointer (some ⟨P, 0, none⟩) ∧ Box V0 P #[.slice none 0 0, .bool false, .slice none 0 0, .bool false] NRat ∧ w.heap.size + 3 ≤ P := hk.here
        have h29 : ∃ r, (s 29) = .tuple #[r, .int .i64 (de)] ∧ RatB V0 r (mkN (n * denZ d2 - n2 * denZ d) (denZ d * denZ d2)) (mkD (n * denZ d2 - n2 * denZ d) (denZ d * denZ d2)) (k + k + (k + k) + 1) := hk.next.here
        have h30 : (s 30) = .func (.func 30) #[] #[] := hk.next.next.here
        have h31 : (s 31) = .pointer (some ⟨w.heap.size, 0, none⟩) := hk.next.next.next.here
        have h32 : (s 32) = .agg #[.slice A l c, .bool b] := hk.next.next.next.next.here
        have h33 : (s 33) = .agg #[.slice C m e, .bool f, .slice C' m' e', .bool f'] := hk.next.next.next.next.next.here
        have h34 : NumB V0 (s 34) (denZ d2) (k) := hk.next.next.next.next.next.next.here
        have h35 : NumB V0 (s 35) (n * denZ d2) (k + k) := hk.next.next.next.next.next.next.next.here
        have h36 : (s 36) = .pointer (some ⟨w.heap.size + 1, 0, none⟩) := hk.next.next.next.next.next.next.next.next.here
        have h37 : (s 37) = .agg #[.slice C m e, .bool f] := hk.next.next.next.next.next.next.next.next.next.here
        have h38 : (s 38) = .agg #[.slice A l c, .bool b, .slice A' l' c', .bool b'] := hk.next.next.next.next.next.next.next.next.next.next.here
        have h39 : NumB V0 (s 39) (denZ d) (k) := hk.next.next.next.next.next.next.next.next.next.next.next.here
        have h40 : NumB V0 (s 40) (n2 * denZ d) (k + k) := hk.next.next.next.next.next.next.next.next.next.next.next.next.here
        have h41 : NumB V0 (s 41) (n * denZ d2 - n2 * denZ d) (k + k + (k + k) + 1) := hk.next.next.next.next.next.next.next.next.next.next.next.next.next.here
        have h42 : (s 42) = .agg #[.slice A l c, .bool b, .slice A' l' c', .bool b'] := hk.next.next.next.next.next.next.next.next.next.next.next.next.next.next.here
        have h43 : NumB V0 (s 43) (denZ d) (k) := hk.next.next.next.next.next.next.next.next.next.next.next.next.next.next.next.here
        have h44 : (s 44) = .agg #[.slice C m e, .bool f, .slice C' m' e', .bool f'] := hk.next.next.next.next.next.next.next.next.next.next.next.next.next.next.next.next.here
        have h45 : NumB V0 (s 45) (denZ d2) (k) := hk.next.next.next.next.next.next.next.next.next.next.next.next.next.next.next.next.next.here
        have h46 : NumB V0 (s 46) (denZ d * denZ d2) (k + k) := hk.next.next.next.next.next.next.next.next.next.next.next.next.next.next.next.next.next.next.here
        have h47 : ∃ r, (s 47) = .tuple #[r, .int .i64 (de)] ∧ RatB V0 r (mkN (n * denZ d2 - n2 * denZ d) (denZ d * denZ d2)) (mkD (n * denZ d2 - n2 * denZ d) (denZ d * denZ d2)) (k + k + (k + k) + 1) := hk.next.next.next.next.next.next.next.next.next.next.next.next.next.next.next.next.next.next.next.here
        have h48 : RatB V0 (s 48) (mkN (n * denZ d2 - n2 * denZ d) (denZ d * denZ d2)) (mkD (n * denZ d2 - n2 * denZ d) (denZ d * denZ d2)) (k + k + (k + k) + 1) := hk.next.next.next.next.next.next.next.next.next.next.next.next.next.next.next.next.next.next.next.next.here
        have h49 : (s 49) = .int .i64 de := hk.next.next.next.next.next.next.next.next.next.next.next.next.next.next.next.next.next.next.next.next.next.here
        clear hk
        simp only [fr, fill, Nat.reduceAdd, Act.put, List.setIfInBounds_toArray, List.set_cons_zero, List.set_cons_succ]
        generalize s 7 = x7 at *
        generalize s 29 = x29 at *
        generalize s 30 = x30 at *
        generalize s 31 = x31 at *
        generalize s 32 = x32 at *
        generalize s 33 = x33 at *
        generalize s 34 = x34 at *
        generalize s 35 = x35 at *
        generalize s 36 = x36 at *
        generalize s 37 = x37 at *
        generalize s 38 = x38 at *
        generalize s 39 = x39 at *
        generalize s 40 = x40 at *
        generalize s 41 = x41 at *
        generalize s 42 = x42 at *
        generalize s 43 = x43 at *
        generalize s 44 = x44 at *
        generalize s 45 = x45 at *
        generalize s 46 = x46 at *
        generalize s 47 = x47 at *
        generalize s 48 = x48 at *
        generalize s 49 = x49 at *
        obtain ⟨P, rfl, hbx, hP⟩ := h7
        obtain ⟨r29, rfl, h29⟩ := h29
        subst h30
        subst h31
        subst h32
        subst h33
        subst h36
        subst h37
        subst h38
        subst h42
        subst h44
        obtain ⟨r47, rfl, h47⟩ := h47
        subst h49
        refine wpAny_chain [22, 23] _ _ _ (by kernel_rfl) ?_
        change wpList _ _ _ [_, _] _ _
        have hq := Q6.out.new hn
        obtain ⟨R, rl, rc, R', rl', rc', rfl⟩ := RatB.form h48
        generalize decide (mkN (n * denZ d2 - n2 * denZ d) (denZ d * denZ d2) < 0) = rb at *
        generalize decide (mkD (n * denZ d2 - n2 * denZ d) (denZ d * denZ d2) < 0) = rb' at *
        obtain ⟨k0, k1, k2, k3⟩ := hbx.cells4
        have g0 := hbx.frozen 0
        have g1 := hbx.frozen 1
        have g2 := hbx.frozen 2
        have g3 := hbx.frozen 3
        have st := hq.gs h48 hbx hP
        have ST := Lib.hid st
        clear st hq h34 h35 h39 h40 h41 h43 h45 h46 h47 h29 h48 hn hP hbx
        refine wpList_plain rfl fun K22 hK22 => ?_
        go_simp
        refine hK22 _ _ ?_
        clear hK22
        refine wpList_plain rfl fun K23 hK23 => ?_
        go_simp
        refine hK23 _ _ ?_
        clear hK23
        change Exit.then _ _ .normal _ _
        simp only [Exit.then]
        refine ST.out.name2 ?_
        clear ST
        rintro V hV P2 hP2 st
        rw [← hV, ← hP2]
        clear hV hP2 k0 k1 k2 k3 g0 g1 g2 g3
        have hq := st.q
        obtain ⟨k0, k1, k2, k3⟩ := st.bx.cells4
        have hFR := hq.br
        have c20 := hFR.cells4.1
        have c21 := hFR.cells4.2.1
        have c22 := hFR.cells4.2.2.1
        have c23 := hFR.cells4.2.2.2
        have f20 := hFR.frozen 0
        have f21 := hFR.frozen 1
        have f22 := hFR.frozen 2
        have f23 := hFR.frozen 3
        obtain ⟨gb, gn, gv⟩ := hq.done (.slice R rl rc) (.bool rb) (.slice R' rl' rc') (.bool rb')
        have GR := Lib.hid (gv st.rv)
        have GN := Lib.hid gn
        obtain ⟨y0, y1, y2, y3⟩ := gb.cells4
        clear hFR gb gn gv st hq
        go_wp2
        refine bodyPost_ret (v := .agg #[.slice R rl rc, .bool rb, .slice R' rl' rc', .bool rb']) (by simp [results, Tryz.results104, go_sem, y0, y1, y2, y3]) rfl ⟨_, rfl, GR.out, GN.out⟩
end
end Go.Proofs.YtkjlmibleoecgaaGreatDoor
