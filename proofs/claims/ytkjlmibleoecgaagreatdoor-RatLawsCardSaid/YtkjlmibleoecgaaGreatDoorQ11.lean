/- Law 03's number. (Printed by mkq11.py.) -/
import Derived.Test.YtkjlmibleoecgaaGreatDoorRQ4
namespace Go.Proofs.YtkjlmibleoecgaaGreatDoor
set_option linter.unusedSimpArgs false
set_option linter.unusedVariables false
open Go.RowKit
theorem far4c {V : World} {p q j : Nat} {x a0 a1 a2 a3 : Value} (hq : ¬ p = q) (h : V.cell? ⟨q, j, none⟩ = some x) : ((((V.setCell ⟨p, 0, none⟩ a0).setCell ⟨p, 1, none⟩ a1).setCell ⟨p, 2, none⟩ a2).setCell ⟨p, 3, none⟩ a3).cell? ⟨q, j, none⟩ = some x := by
  rw [World.cell?_setCell_far _ _ _ _ hq, World.cell?_setCell_far _ _ _ _ hq, World.cell?_setCell_far _ _ _ _ hq, World.cell?_setCell_far _ _ _ _ hq]
  exact h
theorem RatB.lay4r {w : World} {P : Nat} {v : Value} {n d : Int} {k : Nat} (hv : RatB w v n d k) {a0 a1 a2 a3 : Value} (hb : Box w P #[a0, a1, a2, a3] RRat) (x0 x1 x2 x3 : Value) :
    RatB ((((w.setCell ⟨P, 0, none⟩ x0).setCell ⟨P, 1, none⟩ x1).setCell ⟨P, 2, none⟩ x2).setCell ⟨P, 3, none⟩ x3) v n d k := by
  have b1 := hb.set 0 x0
  have b2 := b1.set 1 x1
  have b3 := b2.set 2 x2
  obtain ⟨A, l, c, A', l', c', rfl, h1, h2⟩ := hv
  exact ⟨A, l, c, A', l', c', rfl, (((h1.set hb (by decide) x0).set b1 (by decide) x1).set b2 (by decide) x2).set b3 (by decide) x3, (((h2.set hb (by decide) x0).set b1 (by decide) x1).set b2 (by decide) x2).set b3 (by decide) x3⟩
theorem New.set4 {w0 w : World} (h : New w0 w) {p : Nat} (hp : w0.heap.size ≤ p) (a0 a1 a2 a3 : Value) : New w0 ((((w.setCell ⟨p, 0, none⟩ a0).setCell ⟨p, 1, none⟩ a1).setCell ⟨p, 2, none⟩ a2).setCell ⟨p, 3, none⟩ a3) :=
  (((h.setCell (p := ⟨p, 0, none⟩) hp a0).setCell (p := ⟨p, 1, none⟩) hp a1).setCell (p := ⟨p, 2, none⟩) hp a2).setCell (p := ⟨p, 3, none⟩) hp a3
/-- The world while both results are laid down. -/
structure NC (w0 w : World) (p p6 p8 : Nat) (v : Value) (rv uv : Array Value) (n d : Int) : Prop where
  nw : New w0 w
  b6 : Box w p6 rv NRat
  b8 : Box w p8 uv RRat
  bp : ∃ a0 a1 a2 a3, Box w p #[a0, a1, a2, a3] NRat
  br : Box w (p + 1) #[.bool false, .slice none 0 0, .bool false, .slice none 0 0] RRat
  rv : RatB w v n d 256
  p6 : p + 1 < p6
  p8 : p + 1 < p8
theorem NC.turn {w : World} {p p6 p8 : Nat} {v : Value} {rv uv : Array Value} {n d : Int} {w0 : World} (h : NC w0 w p p6 p8 v rv uv n d) {a0 a1 a2 a3 : Value} (hb : Box w p #[a0, a1, a2, a3] NRat) (x0 x1 x2 x3 : Value) (hp : w0.heap.size ≤ p := by exact Nat.le_refl _) :
    NC w0 ((((w.setCell ⟨p, 0, none⟩ x0).setCell ⟨p, 1, none⟩ x1).setCell ⟨p, 2, none⟩ x2).setCell ⟨p, 3, none⟩ x3) p p6 p8 v rv uv n d := by
  have h6 := h.p6
  have h8 := h.p8
  exact ⟨New.set4 h.nw hp _ _ _ _, h.b6.far4 (by omega) _ _ _ _, h.b8.far4 (by omega) _ _ _ _, ⟨_, _, _, _, hb.lay4 _ _ _ _⟩, h.br.far4 (by omega) _ _ _ _, h.rv.lay4 hb _ _ _ _, by omega, by omega⟩
set_option maxRecDepth 1000000 in
set_option maxHeartbeats 8000000 in
theorem qnumber_n (s : ByteArray) (w : World) (hs : s.size ≤ 256) {m : Int} (hm : w.cell? ⟨3, 0, none⟩ = some (.int .i64 m)) (L : Lib.TabIs Tryz.prog w "internal/strconv.uint64pow10" .u64 Lib.pow10Tab) :
    Calls Tryz.prog 58 #[.string s] w fun e w' => ∃ v u, e = .returned (.tuple #[v, u, .bool (okQ s.data.toList), .bool true]) ∧ RatB w' v (qN s.data.toList) (qD s.data.toList) 256 ∧ ShR u ∧ New w w' := by
  have HP := Lib.hid (fun W (hn : New w W) => qparse_n s hs (hn.still hm) (tabIs_new hn L))
  have HR := Lib.hid (fun W => rqparse_n (w := W) s hs)
  have he : (errQ s.data.toList == 0) = okQ s.data.toList := by unfold errQ; cases okQ s.data.toList <;> rfl
  generalize errQ s.data.toList = er at *
  generalize okQ s.data.toList = ok at *
  generalize qN s.data.toList = n at *
  generalize qD s.data.toList = d at *
  have HN := Lib.hid (((New.refl w).alloc (.cells #[.slice none 0 0, .bool false, .slice none 0 0, .bool false] NRat)).alloc (.cells #[.bool false, .slice none 0 0, .bool false, .slice none 0 0] RRat))
  have HB1 := Lib.hid ((Box.last w #[.slice none 0 0, .bool false, .slice none 0 0, .bool false] NRat).alloc (.cells #[.bool false, .slice none 0 0, .bool false, .slice none 0 0] RRat))
  have HB2 := Lib.hid (Box.last2 w (.cells #[.slice none 0 0, .bool false, .slice none 0 0, .bool false] NRat) #[.bool false, .slice none 0 0, .bool false, .slice none 0 0] RRat)
  clear hm L
  go_enter Tryz.func58, Tryz.ntmps58
  go_wp2_with fail
  refine (HP.out _ HN.out).mono ?_
  rintro e w1 ⟨v, rfl, hv, hn⟩
  obtain ⟨R, rl, rc, R', rl', rc', rfl⟩ := RatB.form hv
  generalize decide (n < 0) = rb at *
  generalize decide (d < 0) = rb' at *
  have hnn := hn.alloc (.cells #[.slice R rl rc, .bool rb, .slice R' rl' rc', .bool rb'] NRat)
  have HP6 := Lib.hid (HB2.out.new hn).lt
  have T6 := Lib.hid (Box.last w1 #[.slice R rl rc, .bool rb, .slice R' rl' rc', .bool rb'] NRat)
  have X6 := Lib.hid (hv.new ((New.refl w1).alloc (.cells #[.slice R rl rc, .bool rb, .slice R' rl' rc', .bool rb'] NRat)))
  replace HB1 := Lib.hid (HB1.out.new hnn)
  replace HB2 := Lib.hid (HB2.out.new hnn)
  replace HN := Lib.hid (HN.out.trans hnn)
  clear hn hnn hv HP
  go_wp2_with fail
  refine (HR.out _).mono ?_
  rintro e w2 ⟨u, rfl, ⟨ub, U, ul, uc, ub', U', ul', uc', rfl⟩, hn⟩
  have hnn := hn.alloc (.cells #[.bool ub, .slice U ul uc, .bool ub', .slice U' ul' uc'] RRat)
  have HP8 := Lib.hid (HB2.out.new hn).lt
  have T8 := Lib.hid (Box.last w2 #[.bool ub, .slice U ul uc, .bool ub', .slice U' ul' uc'] RRat)
  replace T6 := Lib.hid (T6.out.new hnn)
  replace X6 := Lib.hid (X6.out.new hnn)
  replace HB1 := Lib.hid (HB1.out.new hnn)
  replace HB2 := Lib.hid (HB2.out.new hnn)
  replace HN := Lib.hid (HN.out.trans hnn)
  clear hn hnn HR
  go_wp2
  generalize hW : w2.alloc (.cells #[.bool ub, .slice U ul uc, .bool ub', .slice U' ul' uc'] RRat) = W at *
  generalize w1.heap.size = p6 at *
  generalize w2.heap.size = p8 at *
  clear hW
  have hp6 := HP6.out
  have hp8 := HP8.out
  have C0 := Lib.hid (show NC w W.drew w.heap.size p6 p8 (.agg #[.slice R rl rc, .bool rb, .slice R' rl' rc', .bool rb']) #[.slice R rl rc, .bool rb, .slice R' rl' rc', .bool rb'] #[.bool ub, .slice U ul uc, .bool ub', .slice U' ul' uc'] n d from ⟨HN.out.drew, T6.out.new (New.refl W).drew, T8.out.new (New.refl W).drew, ⟨_, _, _, _, HB1.out.new (New.refl W).drew⟩, HB2.out.new (New.refl W).drew, X6.out.new (New.refl W).drew, by omega, by omega⟩)
  clear hp6 hp8 HP6 HP8 T6 T8 X6 HB1 HB2 HN
  refine wp_region_relR (by kernel_rfl) (fun a b => (NC w a w.heap.size p6 p8 (.agg #[.slice R rl rc, .bool rb, .slice R' rl' rc', .bool rb']) #[.slice R rl rc, .bool rb, .slice R' rl' rc', .bool rb'] #[.bool ub, .slice U ul uc, .bool ub', .slice U' ul' uc'] n d → NC w b w.heap.size p6 p8 (.agg #[.slice R rl rc, .bool rb, .slice R' rl' rc', .bool rb']) #[.slice R rl rc, .bool rb, .slice R' rl' rc', .bool rb'] #[.bool ub, .slice U ul uc, .bool ub', .slice U' ul' uc'] n d) ∧ (Box a w.heap.size #[.slice R rl rc, .bool rb, .slice R' rl' rc', .bool rb'] NRat → Box b w.heap.size #[.slice R rl rc, .bool rb, .slice R' rl' rc', .bool rb'] NRat)) (fun _ => ⟨id, id⟩) (fun h1 h2 => ⟨fun h => h2.1 (h1.1 h), fun h => h2.2 (h1.2 h)⟩) W.drew ⟨id, id⟩ (VL [(20, fun ww vv => vv = .agg #[.slice R rl rc, .bool rb, .slice R' rl' rc', .bool rb']), (21, fun ww vv => vv = .agg #[.bool ub, .slice U ul uc, .bool ub', .slice U' ul' uc']), (22, fun ww vv => vv = .int .i64 er), (23, fun ww vv => vv = .bool ok), (24, fun ww vv => vv = .int .i64 er), (25, fun ww vv => vv = .int .i64 er), (26, fun ww vv => vv = .bool true), (1007, fun ww vv => Box ww w.heap.size #[.slice R rl rc, .bool rb, .slice R' rl' rc', .bool rb'] NRat)]) (VL_monoR ⟨fun _ _ _ h _ => h, fun _ _ _ h _ => h, fun _ _ _ h _ => h, fun _ _ _ h _ => h, fun _ _ _ h _ => h, fun _ _ _ h _ => h, fun _ _ _ h _ => h, fun _ _ _ h hn => hn.2 h, trivial⟩) _ _ [false, false, false, false, false, false, false, false, false, false, false, false, false, false, false, false, false, false, false, false, true, true, true, true, true, true, true] [true, true, true, true, true, true, true, true, false, false, false] [false, false, true, true, true, true, true, false, false, false, false] [[], [], [], [22], [], [], [24, 25], [20], [], [], []] [20, 21, 22, 23, 24, 25, 26, 1007] 3 (by kernel_rfl) rfl rfl (by kernel_rfl) (by kernel_rfl) (fun _ _ _ _ _ h => h) ⟨?o0, ?o1, ?o2, ?o3, ?o4, ?o5, ?o6, ?o7, trivial⟩ ?last
  case o0 =>
    intro s w' K hn hk hK
    clear hk
    simp only [fr, fill, Nat.reduceAdd, Act.put, List.setIfInBounds_toArray, List.set_cons_zero, List.set_cons_succ] at hK ⊢
    have hc := hn.1 C0.out
    obtain ⟨c0, c1, c2, c3⟩ := hc.b6.cells4
    refine ⟨true, rfl, ?_⟩
    show Oper.wp _ _ _ _ _ _
    (first | go_big_op | go_simp)
    first | exact hK _ _ ⟨id, id⟩ rfl | (simp only [he] at *; exact hK _ _ ⟨id, id⟩ rfl) | exact hK _ _ ⟨id, id⟩ he | (simp only [beq_self_eq_true] at *; exact hK _ _ ⟨id, id⟩ rfl)
  case o1 =>
    intro s w' K hn hk hK
    clear hk
    simp only [fr, fill, Nat.reduceAdd, Act.put, List.setIfInBounds_toArray, List.set_cons_zero, List.set_cons_succ] at hK ⊢
    have hc := hn.1 C0.out
    obtain ⟨c0, c1, c2, c3⟩ := hc.b8.cells4
    refine ⟨true, rfl, ?_⟩
    show Oper.wp _ _ _ _ _ _
    (first | go_big_op | go_simp)
    first | exact hK _ _ ⟨id, id⟩ rfl | (simp only [he] at *; exact hK _ _ ⟨id, id⟩ rfl) | exact hK _ _ ⟨id, id⟩ he | (simp only [beq_self_eq_true] at *; exact hK _ _ ⟨id, id⟩ rfl)
  case o2 =>
    intro s w' hn hk
    clear hk
    simp only [fr, fill, Nat.reduceAdd, Act.put, List.setIfInBounds_toArray, List.set_cons_zero, List.set_cons_succ]
    refine ⟨.int .i64 er, Or.inl ⟨rfl, fun W' => ?_⟩, rfl⟩
    first | rfl | go_simp
  case o3 =>
    intro s w' hn hk
    have h22 : (s 22) = .int .i64 er := hk.here
    clear hk
    simp only [fr, fill, Nat.reduceAdd, Act.put, List.setIfInBounds_toArray, List.set_cons_zero, List.set_cons_succ]
    generalize s 22 = x22 at *
    subst h22
    refine ⟨.bool ok, Or.inl ⟨rfl, fun W' => ?_⟩, rfl⟩
    go_simp
    all_goals (try simp [he])
  case o4 =>
    intro s w' hn hk
    clear hk
    simp only [fr, fill, Nat.reduceAdd, Act.put, List.setIfInBounds_toArray, List.set_cons_zero, List.set_cons_succ]
    refine ⟨.int .i64 er, Or.inl ⟨rfl, fun W' => ?_⟩, rfl⟩
    first | rfl | go_simp
  case o5 =>
    intro s w' hn hk
    clear hk
    simp only [fr, fill, Nat.reduceAdd, Act.put, List.setIfInBounds_toArray, List.set_cons_zero, List.set_cons_succ]
    refine ⟨.int .i64 er, Or.inl ⟨rfl, fun W' => ?_⟩, rfl⟩
    first | rfl | go_simp
  case o6 =>
    intro s w' hn hk
    have h24 : (s 24) = .int .i64 er := hk.here
    have h25 : (s 25) = .int .i64 er := hk.next.here
    clear hk
    simp only [fr, fill, Nat.reduceAdd, Act.put, List.setIfInBounds_toArray, List.set_cons_zero, List.set_cons_succ]
    generalize s 24 = x24 at *
    generalize s 25 = x25 at *
    subst h24
    subst h25
    refine ⟨.bool true, Or.inl ⟨rfl, fun W' => ?_⟩, rfl⟩
    go_simp
    all_goals (try simp)
  case o7 =>
    intro s w' K hn hk hK
    have h20 : (s 20) = .agg #[.slice R rl rc, .bool rb, .slice R' rl' rc', .bool rb'] := hk.here
    clear hk
    simp only [fr, fill, Nat.reduceAdd, Act.put, List.setIfInBounds_toArray, List.set_cons_zero, List.set_cons_succ] at hK ⊢
    generalize s 20 = x20 at *
    subst h20
    have hc := hn.1 C0.out
    obtain ⟨z0, z1, z2, z3, c0⟩ := hc.bp
    obtain ⟨k0, k1, k2, k3⟩ := c0.cells4
    have f0 := c0.frozen 0
    have f1 := c0.frozen 1
    have f2 := c0.frozen 2
    have f3 := c0.frozen 3
    refine ⟨true, rfl, ?_⟩
    show Oper.wp _ _ _ _ _ _
    (first | go_big_op | go_simp)
    exact hK undef _ ⟨fun h => h.turn c0 (.slice R rl rc) (.bool rb) (.slice R' rl' rc') (.bool rb'), fun _ => c0.lay4 (.slice R rl rc) (.bool rb) (.slice R' rl' rc') (.bool rb')⟩ (c0.lay4 (.slice R rl rc) (.bool rb) (.slice R' rl' rc') (.bool rb'))
  case last =>
    intro s V0 hn hk
    have h20 : (s 20) = .agg #[.slice R rl rc, .bool rb, .slice R' rl' rc', .bool rb'] := hk.here
    have h21 : (s 21) = .agg #[.bool ub, .slice U ul uc, .bool ub', .slice U' ul' uc'] := hk.next.here
    have h22 : (s 22) = .int .i64 er := hk.next.next.here
    have h23 : (s 23) = .bool ok := hk.next.next.next.here
    have h24 : (s 24) = .int .i64 er := hk.next.next.next.next.here
    have h25 : (s 25) = .int .i64 er := hk.next.next.next.next.next.here
    have h26 : (s 26) = .bool true := hk.next.next.next.next.next.next.here
    have h1007 : Box V0 w.heap.size #[.slice R rl rc, .bool rb, .slice R' rl' rc', .bool rb'] NRat := hk.next.next.next.next.next.next.next.here
    clear hk
    simp only [fr, fill, Nat.reduceAdd, Act.put, List.setIfInBounds_toArray, List.set_cons_zero, List.set_cons_succ]
    generalize s 20 = x20 at *
    generalize s 21 = x21 at *
    generalize s 22 = x22 at *
    generalize s 23 = x23 at *
    generalize s 24 = x24 at *
    generalize s 25 = x25 at *
    generalize s 26 = x26 at *
    subst h20
    subst h21
    subst h22
    subst h23
    subst h24
    subst h25
    subst h26
    refine wpAny_chain [8, 9, 10] _ _ _ (by kernel_rfl) ?_
    change wpList _ _ _ [_, _, _] _ _
    have hc := hn.1 C0.out
    have hb2 := hc.br
    obtain ⟨k0, k1, k2, k3⟩ := hb2.cells4
    have f0 := hb2.frozen 0
    have f1 := hb2.frozen 1
    have f2 := hb2.frozen 2
    have f3 := hb2.frozen 3
    have GR := Lib.hid (RatB.lay4r hc.rv hb2 (.bool ub) (.slice U ul uc) (.bool ub') (.slice U' ul' uc'))
    have GN := Lib.hid (New.set4 hc.nw (show w.heap.size ≤ w.heap.size + 1 by omega) (.bool ub) (.slice U ul uc) (.bool ub') (.slice U' ul' uc'))
    obtain ⟨y0, y1, y2, y3⟩ := (h1007.far4 (show w.heap.size ≠ w.heap.size + 1 by omega) (.bool ub) (.slice U ul uc) (.bool ub') (.slice U' ul' uc')).cells4
    obtain ⟨y4, y5, y6, y7⟩ := (hb2.lay4 (.bool ub) (.slice U ul uc) (.bool ub') (.slice U' ul' uc')).cells4
    clear hc hb2 hn C0 h1007 he
    refine wpList_plain rfl fun K8 hK8 => ?_
    go_simp
    refine hK8 _ _ ?_
    clear hK8
    refine wpList_plain rfl fun K9 hK9 => ?_
    go_simp
    refine hK9 _ _ ?_
    clear hK9
    refine wpList_plain rfl fun K10 hK10 => ?_
    go_simp
    refine hK10 _ _ ?_
    clear hK10
    change Exit.then _ _ .normal _ _
    simp only [Exit.then]
    go_wp2_with fail
    refine bodyPost_ret (v := .tuple #[.agg #[.slice R rl rc, .bool rb, .slice R' rl' rc', .bool rb'], .agg #[.bool ub, .slice U ul uc, .bool ub', .slice U' ul' uc'], .bool ok, .bool true]) (by simp [results, Tryz.results58, go_sem, y0, y1, y2, y3, y4, y5, y6, y7]) rfl ⟨_, _, rfl, GR.out, ⟨_, _, _, _, _, _, _, _, rfl⟩, GN.out⟩
end Go.Proofs.YtkjlmibleoecgaaGreatDoor
