/- The laws of 03: RatOrder, walked. (Printed by mkl2.py.) -/
import Derived.Test.YtkjlmibleoecgaaGreatDoorQo
import Derived.Test.YtkjlmibleoecgaaGreatDoorL0
import Derived.Shelf.Vars
namespace Go.Proofs.YtkjlmibleoecgaaGreatDoor
set_option linter.unusedSimpArgs false
set_option linter.unusedVariables false
open Go.RowKit
theorem maxLen_of {w : World} (hsh : w.ShapedOpen Tryz.prog) : ∃ m, w.cell? ⟨3, 0, none⟩ = some (.int .i64 m) :=
  cell_of_shapedOpen_int (P := Tryz.prog) (g := 3) (t := 3) (zero := #[.int .i64 0]) hsh (of_decide_eq_true (by kernel_rfl)) (by kernel_rfl) rfl (by kernel_rfl) (by kernel_rfl) Tryz.underlying3
/-- A fraction in a box. -/
structure QY (w : World) (p : Nat) (A : Option Addr) (l c : Nat) (b : Bool) (A' : Option Addr) (l' c' : Nat) (b' : Bool) (n d : Int) (k : Nat) : Prop where
  bx : Box w p #[.slice A l c, .bool b, .slice A' l' c', .bool b'] NRat
  rv : RatB w (.agg #[.slice A l c, .bool b, .slice A' l' c', .bool b']) n d k
section
variable {w w' : World} {p : Nat} {A : Option Addr} {l c : Nat} {b : Bool} {A' : Option Addr} {l' c' : Nat} {b' : Bool} {n d : Int} {k : Nat}
theorem QY.new (h : QY w p A l c b A' l' c' b' n d k) (hn : New w w') : QY w' p A l c b A' l' c' b' n d k := ⟨h.bx.new hn, h.rv.new hn⟩
theorem QY.last (h : RatB w (.agg #[.slice A l c, .bool b, .slice A' l' c', .bool b']) n d k) : QY (w.alloc (.cells #[.slice A l c, .bool b, .slice A' l' c', .bool b'] NRat)) w.heap.size A l c b A' l' c' b' n d k :=
  ⟨Box.last w _ _, h.new ((New.refl w).alloc _)⟩
theorem QY.before (h : RatB w (.agg #[.slice A l c, .bool b, .slice A' l' c', .bool b']) n d k) (o : Obj) : QY ((w.alloc (.cells #[.slice A l c, .bool b, .slice A' l' c', .bool b'] NRat)).alloc o) w.heap.size A l c b A' l' c' b' n d k :=
  (QY.last h).new ((New.refl _).alloc _)
end
theorem qcmp_w {w : World} {u v : Value} {n d n2 d2 : Int} {k : Nat} (s : Int) (hx : RatB w u n d k) (hy : RatB w v n2 d2 k) (hk : k ≤ 15000) (hk2 : 2 ≤ k) (hs : cmpZ (n * denZ d2) (n2 * denZ d) = s) :
    Calls Tryz.prog 62 #[u, v] w fun e w' => e = .returned (.int .i64 s) ∧ New w w' := hs ▸ qcmp_n hx hy hk hk2
theorem cmp_vals (x y : Int) : cmpZ x y = -1 ∨ cmpZ x y = 0 ∨ cmpZ x y = 1 := by unfold cmpZ; (repeat' split) <;> simp
set_option maxRecDepth 1000000 in
set_option maxHeartbeats 16000000 in
theorem ratOrder_walk (a b : ByteArray) (w : World) (hsh : w.ShapedOpen Tryz.prog) (L : Lib.TabIs Tryz.prog w "internal/strconv.uint64pow10" .u64 Lib.pow10Tab) :
    Calls Tryz.prog 10 #[.string a, .string b] w fun e w' => e = .returned (.bool true) ∧ Below w.heap.size w w' := by
  obtain ⟨mx, hmx⟩ := maxLen_of hsh
  have HTAB := Lib.hid L
  have HMX := Lib.hid hmx
  clear L hmx hsh
  go_enter Tryz.func10, Tryz.ntmps10
  go_wp2_with fail
  have hbx := Box.last w #[.string a, .string b] 9
  refine (qlong_n [a, b] _ 2 2 _ rfl (fun i hi => by
    rw [hbx.cell]
    match i, hi with
    | 0, _ => rfl
    | 1, _ => rfl) hbx.lt (by decide) (by decide)).mono ?_
  rintro e w1 ⟨r, rfl, hr, hn1⟩
  have hn1' : New w w1 := ((New.refl w).alloc _).trans hn1
  clear hbx hn1
  cases r with
  | true =>
    go_wp2
    go_ret
    exact ⟨rfl, hn1'⟩
  | false =>
    have hz := hr rfl
    have ha : a.size ≤ 256 := hz a (by simp)
    have hb : b.size ≤ 256 := hz b (by simp)
    have H1 := Lib.hid (fun W (hn : New w W) => qnumber_n a W ha (hn.still HMX.out) (tabIs_new hn HTAB.out))
    have H2 := Lib.hid (fun W (hn : New w W) => qnumber_n b W hb (hn.still HMX.out) (tabIs_new hn HTAB.out))
    have hok1 := fun h => okQ_text (s := a) h
    have hok2 := fun h => okQ_text (s := b) h
    generalize okQ a.data.toList = i1 at *
    generalize okQ b.data.toList = i2 at *
    generalize qN a.data.toList = n1 at *
    generalize qD a.data.toList = d1 at *
    generalize qN b.data.toList = n2 at *
    generalize qD b.data.toList = d2 at *
    have HOK1 := Lib.hid hok1
    have HOK2 := Lib.hid hok2
    have HN1 := Lib.hid hn1'
    clear hz hr hn1' ha hb hok1 hok2
    go_wp2_with fail
    refine (H1.out _ HN1.out).mono ?_
    rintro e w2 ⟨v, u, rfl, hv, ⟨u1, U1, ul1, uc1, u1', U1', ul1', uc1', rfl⟩, hn⟩
    obtain ⟨A1, l1, c1, A1', l1', c1', rfl⟩ := RatB.form hv
    generalize decide (n1 < 0) = b1 at *
    generalize decide (d1 < 0) = b1' at *
    have hnn := (hn.alloc (.cells #[.slice A1 l1 c1, .bool b1, .slice A1' l1' c1', .bool b1'] NRat)).alloc (.cells #[.bool u1, .slice U1 ul1 uc1, .bool u1', .slice U1' ul1' uc1'] RRat)
    have T1 := Lib.hid (QY.before hv (.cells #[.bool u1, .slice U1 ul1 uc1, .bool u1', .slice U1' ul1' uc1'] RRat))
    have HN2 := Lib.hid (HN1.out.trans hnn)
    clear hn hnn hv HN1 H1
    go_wp2_with fail
    refine (H2.out _ HN2.out).mono ?_
    rintro e w3 ⟨v, u, rfl, hv, ⟨u2, U2, ul2, uc2, u2', U2', ul2', uc2', rfl⟩, hn⟩
    obtain ⟨A2, l2, c2, A2', l2', c2', rfl⟩ := RatB.form hv
    generalize decide (n2 < 0) = b2 at *
    generalize decide (d2 < 0) = b2' at *
    have hnn := (hn.alloc (.cells #[.slice A2 l2 c2, .bool b2, .slice A2' l2' c2', .bool b2'] NRat)).alloc (.cells #[.bool u2, .slice U2 ul2 uc2, .bool u2', .slice U2' ul2' uc2'] RRat)
    have T2 := Lib.hid (QY.before hv (.cells #[.bool u2, .slice U2 ul2 uc2, .bool u2', .slice U2' ul2' uc2'] RRat))
    replace T1 := Lib.hid (T1.out.new hnn)
    have HN3 := Lib.hid (HN2.out.trans hnn)
    clear hn hnn hv HN2 H2
    cases i1 with
    | false => go_wp2_with fail; go_ret; exact ⟨rfl, HN3.out⟩
    | true =>
    cases i2 with
    | false => go_wp2_with fail; go_ret; exact ⟨rfl, HN3.out⟩
    | true =>
    obtain ⟨tx1, lo1⟩ := HOK1.out rfl
    obtain ⟨tx2, lo2⟩ := HOK2.out rfl
    have hbq := low_text lo1 lo2 tx1 tx2
    have hd1 := lo1.1
    have hd2 := lo2.1
    have k1 := denZ_pos hd1
    have k2 := denZ_pos hd2
    have hB := mul_posI hd1 hd2
    obtain ⟨hs, hs0⟩ := mk_worth (a := n1 * d2 + n2 * d1) (show d1 * d2 ≠ 0 by omega)
    have HA := fun W u v (h : RatB W u n1 d1 256) (h2 : RatB W v n2 d2 256) => qadd_n h h2 (by omega) (by omega)
    have HC := fun W u v (h : RatB W u n1 d1 256) (h2 : RatB W v n2 d2 256) => qcmp_n h h2 (by omega) (by omega)
    simp only [k1, k2] at HA HC
    have HA2 := Lib.hid HA
    have HA := Lib.hid HA
    generalize hsn : mkN (n1 * d2 + n2 * d1) (d1 * d2) = sn at *
    generalize hsd : mkD (n1 * d2 + n2 * d1) (d1 * d2) = sd at *
    have k3 := denZ_pos hs0
    have HO := Lib.hid (fun W => qof_n 2 (by omega) (by omega) W)
    obtain ⟨hm, hm0⟩ := mk_worth (a := sn * 1) (show sd * 2 ≠ 0 by omega)
    have hdv : divI (sd * 2) = 0 := by unfold divI; rw [if_neg (by omega)]
    have HDV := fun W u v (h : RatB W u sn sd 1025) (h2 : RatB W v 2 1 1025) => qdiv_n h h2 (by omega) (by omega)
    simp only [k3, show denZ 1 = 1 from rfl, hdv] at HDV
    have HDV := Lib.hid HDV
    generalize hmn : mkN (sn * 1) (sd * 2) = mn at *
    generalize hmd : mkD (sn * 1) (sd * 2) = md at *
    have k4 := denZ_pos hm0
    have hmw := mid_worth hd1 hd2 hs0 hs hm
    have hlow := mid_low hd1 hd2 hm0 hmw
    have hhigh := mid_high hd1 hd2 hm0 hmw
    have HMM := fun W u v (h : RatB W u mn md 2050) (h2 : RatB W v mn md 2050) => qadd_n h h2 (by omega) (by omega)
    simp only [k4] at HMM
    have HMM := Lib.hid HMM
    have hmm := mul_posI hm0 hm0
    obtain ⟨hp, hp0⟩ := mk_worth (a := mn * md + mn * md) (show md * md ≠ 0 by omega)
    have htw := mid_twice (sn := sn) (sd := sd) hm0 hm hp
    generalize mkN (mn * md + mn * md) (md * md) = pn at *
    generalize mkD (mn * md + mn * md) (md * md) = pd at *
    have k5 := denZ_pos hp0
    obtain ⟨cc, hcc⟩ : ∃ cc, cmpZ (n1 * d2) (n2 * d1) = cc := ⟨_, rfl⟩
    have hcv := cmp_vals (n1 * d2) (n2 * d1)
    rw [hcc] at hlow hhigh hbq hcv
    simp only [hcc] at HC
    have HC := Lib.hid HC
    have HC1 := Lib.hid (fun W u v (h : RatB W u mn md 2050) (h2 : RatB W v n1 d1 256) => qcmp_w (-cc) h (h2.more (by omega)) (by omega) (by omega) (by rw [k1, k4]; exact hlow))
    have HC2 := Lib.hid (fun W u v (h : RatB W u mn md 2050) (h2 : RatB W v n2 d2 256) => qcmp_w cc h (h2.more (by omega)) (by omega) (by omega) (by rw [k2, k4]; exact hhigh))
    have HC3 := Lib.hid (fun W u v (h : RatB W u pn pd 8201) (h2 : RatB W v sn sd 1025) => qcmp_w 0 h (h2.more (by omega)) (by omega) (by omega) (by rw [k3, k5]; exact htw))
    clear HTAB HMX HOK1 HOK2 tx1 tx2 lo1 lo2 hd1 hd2 k1 k2 k3 k4 k5 hB hs hs0 hm hm0 hdv hmw hlow hhigh hmm hp hp0 htw hsn hsd hmn hmd hcc
    obtain ⟨x0, x1, x2, x3⟩ := T1.out.bx.cells4
    obtain ⟨y0, y1, y2, y3⟩ := T2.out.bx.cells4
    go_wp2_with fail
    refine (HA.out _ _ _ T1.out.rv T2.out.rv).mono ?_
    rintro e w4 ⟨v4, rfl, hv, hn⟩
    have X4 := Lib.hid hv
    replace T1 := Lib.hid (T1.out.new hn)
    replace T2 := Lib.hid (T2.out.new hn)
    have HN4 := Lib.hid (HN3.out.trans hn)
    clear hv hn HN3 x0 x1 x2 x3 y0 y1 y2 y3
    go_wp2_with fail
    refine (HO.out _).mono ?_
    rintro e w5 ⟨v5, rfl, hv, hn⟩
    have X5 := Lib.hid hv
    replace X4 := Lib.hid (X4.out.new hn)
    replace T1 := Lib.hid (T1.out.new hn)
    replace T2 := Lib.hid (T2.out.new hn)
    have HN5 := Lib.hid (HN4.out.trans hn)
    clear hv hn HN4
    go_wp2_with fail
    refine (HDV.out _ _ _ X4.out (X5.out.more (by omega))).mono ?_
    rintro e w6 ⟨v6, rfl, hv, hn⟩
    obtain ⟨A3, l3, c3, A3', l3', c3', rfl⟩ := RatB.form hv
    generalize decide (mn < 0) = b3 at *
    generalize decide (md < 0) = b3' at *
    have hnn := hn.alloc (.cells #[.slice A3 l3 c3, .bool b3, .slice A3' l3' c3', .bool b3'] NRat)
    have T3 := Lib.hid (QY.last hv)
    replace T1 := Lib.hid (T1.out.new hnn)
    replace T2 := Lib.hid (T2.out.new hnn)
    have HN6 := Lib.hid (HN5.out.trans hnn)
    clear hv hn hnn HN5 X4 X5
    obtain ⟨x0, x1, x2, x3⟩ := T1.out.bx.cells4
    obtain ⟨y0, y1, y2, y3⟩ := T2.out.bx.cells4
    go_wp2_with fail
    refine (HC.out _ _ _ T1.out.rv T2.out.rv).mono ?_
    rintro e w7 ⟨rfl, hn⟩
    replace T1 := Lib.hid (T1.out.new hn)
    replace T2 := Lib.hid (T2.out.new hn)
    replace T3 := Lib.hid (T3.out.new hn)
    have HN7 := Lib.hid (HN6.out.trans hn)
    clear hn HN6 x0 x1 x2 x3 y0 y1 y2 y3 HA HO HDV HC
    go_wp2_with fail
    generalize w2.heap.size = p1 at *
    generalize w3.heap.size = p2 at *
    generalize w6.heap.size = p3 at *
    rcases hcv with rfl | rfl | rfl
    · have hq1 : (a.toList == b.toList) = false := hbq.symm
      refine wp_region_rel (by kernel_rfl) (VL [(59, fun ww vv => vv = .int .i64 0), (60, fun ww vv => vv = .bool true), (61, fun ww vv => vv = .bool true), (62, fun ww vv => vv = .int .i64 (-1)), (63, fun ww vv => vv = .bool false), (64, fun ww vv => vv = .string a), (65, fun ww vv => vv = .string b), (66, fun ww vv => vv = .bool false), (67, fun ww vv => vv = .bool true), (68, fun ww vv => vv = .bool true), (69, fun ww vv => vv = .bool true), (70, fun ww vv => vv = .agg #[.slice A3 l3 c3, .bool b3, .slice A3' l3' c3', .bool b3']), (71, fun ww vv => vv = .agg #[.slice A1 l1 c1, .bool b1, .slice A1' l1' c1', .bool b1']), (72, fun ww vv => vv = .int .i64 1), (73, fun ww vv => vv = .int .i64 (-1)), (74, fun ww vv => vv = .int .i64 1), (75, fun ww vv => vv = .bool true), (76, fun ww vv => vv = .bool true), (77, fun ww vv => vv = .bool true), (78, fun ww vv => vv = .agg #[.slice A3 l3 c3, .bool b3, .slice A3' l3' c3', .bool b3']), (79, fun ww vv => vv = .agg #[.slice A2 l2 c2, .bool b2, .slice A2' l2' c2', .bool b2']), (80, fun ww vv => vv = .int .i64 (-1)), (81, fun ww vv => vv = .int .i64 (-1)), (82, fun ww vv => vv = .bool true), (83, fun ww vv => vv = .bool true), (84, fun ww vv => vv = .bool true), (85, fun ww vv => vv = .agg #[.slice A3 l3 c3, .bool b3, .slice A3' l3' c3', .bool b3']), (86, fun ww vv => vv = .agg #[.slice A3 l3 c3, .bool b3, .slice A3' l3' c3', .bool b3']), (87, fun ww vv => RatB ww vv (pn) (pd) (8201)), (88, fun ww vv => vv = .agg #[.slice A1 l1 c1, .bool b1, .slice A1' l1' c1', .bool b1']), (89, fun ww vv => vv = .agg #[.slice A2 l2 c2, .bool b2, .slice A2' l2' c2', .bool b2']), (90, fun ww vv => RatB ww vv (sn) (sd) (1025)), (91, fun ww vv => vv = .int .i64 0), (92, fun ww vv => vv = .bool true), (93, fun ww vv => vv = .bool true)]) (by exact VL_mono ⟨fun _ _ _ h _ => h, fun _ _ _ h _ => h, fun _ _ _ h _ => h, fun _ _ _ h _ => h, fun _ _ _ h _ => h, fun _ _ _ h _ => h, fun _ _ _ h _ => h, fun _ _ _ h _ => h, fun _ _ _ h _ => h, fun _ _ _ h _ => h, fun _ _ _ h _ => h, fun _ _ _ h _ => h, fun _ _ _ h _ => h, fun _ _ _ h _ => h, fun _ _ _ h _ => h, fun _ _ _ h _ => h, fun _ _ _ h _ => h, fun _ _ _ h _ => h, fun _ _ _ h _ => h, fun _ _ _ h _ => h, fun _ _ _ h _ => h, fun _ _ _ h _ => h, fun _ _ _ h _ => h, fun _ _ _ h _ => h, fun _ _ _ h _ => h, fun _ _ _ h _ => h, fun _ _ _ h _ => h, fun _ _ _ h _ => h, fun _ _ _ h hn => RatB.new h hn, fun _ _ _ h _ => h, fun _ _ _ h _ => h, fun _ _ _ h hn => RatB.new h hn, fun _ _ _ h _ => h, fun _ _ _ h _ => h, fun _ _ _ h _ => h, trivial⟩) _ _ [false, false, false, false, false, false, false, false, false, false, false, false, false, false, false, false, false, false, false, false, false, false, false, false, false, false, false, false, false, false, false, false, false, false, false, false, false, false, false, false, false, false, false, false, false, false, false, false, false, false, false, false, false, false, false, false, false, false, false, true, true, true, true, true, true, true, true, true, true, true, true, true, true, true, true, true, true, true, true, true, true, true, true, true, true, true, true, true, true, true, true, true, true, true] [true, true, true, true, true, true, true, true, true, true, true, true, true, true, true, true, true, true, true, true, true, true, true, true, true, true, true, true, true, true, true, true, true, true, true, false] [false, false, false, false, false, false, false, false, false, false, false, false, false, false, false, false, false, false, false, false, false, false, false, false, false, false, false, false, false, false, false, false, false, false, false, false] [[], [59], [60], [61], [62, 61], [61], [61], [64, 65, 61], [63, 66, 61], [61, 67], [68], [69], [69], [70, 71, 69], [69], [73, 69], [72, 74, 69], [69, 75], [76], [77], [77], [78, 79, 77], [77], [80, 81, 77], [77, 82], [83], [84], [84], [85, 86, 84], [84], [84], [88, 89, 84], [87, 90, 84], [91, 84], [84, 92], []] [59, 60, 61, 62, 63, 64, 65, 66, 67, 68, 69, 70, 71, 72, 73, 74, 75, 76, 77, 78, 79, 80, 81, 82, 83, 84, 85, 86, 87, 88, 89, 90, 91, 92, 93] 1 (by kernel_rfl) rfl rfl (by kernel_rfl) (by kernel_rfl) (fun _ _ _ _ _ h => h) ⟨?o0, ?o1, ?o2, ?o3, ?o4, ?o5, ?o6, ?o7, ?o8, ?o9, ?o10, ?o11, ?o12, ?o13, ?o14, ?o15, ?o16, ?o17, ?o18, ?o19, ?o20, ?o21, ?o22, ?o23, ?o24, ?o25, ?o26, ?o27, ?o28, ?o29, ?o30, ?o31, ?o32, ?o33, ?o34, trivial⟩ ?last
      case o0 =>
        intro s w' K hn hk hK
        clear hk
        simp only [fr, fill, Nat.reduceAdd, Act.put, List.setIfInBounds_toArray, List.set_cons_zero, List.set_cons_succ] at hK ⊢
        refine ⟨true, rfl, ?_⟩
        show Oper.wp _ _ _ _ _ _
        (first | go_big_op | go_simp)
        exact hK _ _ (New.refl _) rfl
      case o1 =>
        intro s w' K hn hk hK
        have h59 : (s 59) = .int .i64 0 := hk.here
        clear hk
        simp only [fr, fill, Nat.reduceAdd, Act.put, List.setIfInBounds_toArray, List.set_cons_zero, List.set_cons_succ] at hK ⊢
        generalize s 59 = x59 at *
        subst h59
        refine ⟨true, rfl, ?_⟩
        show Oper.wp _ _ _ _ _ _
        (first | go_big_op | go_simp)
        exact hK _ _ (New.refl _) rfl
      case o2 =>
        intro s w' K hn hk hK
        have h60 : (s 60) = .bool true := hk.here
        clear hk
        simp only [fr, fill, Nat.reduceAdd, Act.put, List.setIfInBounds_toArray, List.set_cons_zero, List.set_cons_succ] at hK ⊢
        generalize s 60 = x60 at *
        subst h60
        refine ⟨true, rfl, ?_⟩
        show Oper.wp _ _ _ _ _ _
        (first | go_big_op | go_simp)
        exact hK _ _ (New.refl _) rfl
      case o3 =>
        intro s w' K hn hk hK
        have h61 : (s 61) = .bool true := hk.here
        clear hk
        simp only [fr, fill, Nat.reduceAdd, Act.put, List.setIfInBounds_toArray, List.set_cons_zero, List.set_cons_succ] at hK ⊢
        generalize s 61 = x61 at *
        subst h61
        refine ⟨true, rfl, ?_⟩
        show Oper.wp _ _ _ _ _ _
        (first | go_big_op | go_simp)
        exact hK _ _ (New.refl _) rfl
      case o4 =>
        intro s w' K hn hk hK
        have h62 : (s 62) = .int .i64 (-1) := hk.here
        have h61 : (s 61) = .bool true := hk.next.here
        clear hk
        simp only [fr, fill, Nat.reduceAdd, Act.put, List.setIfInBounds_toArray, List.set_cons_zero, List.set_cons_succ] at hK ⊢
        generalize s 62 = x62 at *
        generalize s 61 = x61 at *
        subst h62
        subst h61
        refine ⟨true, rfl, ?_⟩
        show Oper.wp _ _ _ _ _ _
        (first | go_big_op | go_simp)
        exact hK _ _ (New.refl _) rfl
      case o5 =>
        intro s w' K hn hk hK
        have h61 : (s 61) = .bool true := hk.here
        clear hk
        simp only [fr, fill, Nat.reduceAdd, Act.put, List.setIfInBounds_toArray, List.set_cons_zero, List.set_cons_succ] at hK ⊢
        generalize s 61 = x61 at *
        subst h61
        refine ⟨true, rfl, ?_⟩
        show Oper.wp _ _ _ _ _ _
        (first | go_big_op | go_simp)
        exact hK _ _ (New.refl _) rfl
      case o6 =>
        intro s w' K hn hk hK
        have h61 : (s 61) = .bool true := hk.here
        clear hk
        simp only [fr, fill, Nat.reduceAdd, Act.put, List.setIfInBounds_toArray, List.set_cons_zero, List.set_cons_succ] at hK ⊢
        generalize s 61 = x61 at *
        subst h61
        refine ⟨true, rfl, ?_⟩
        show Oper.wp _ _ _ _ _ _
        (first | go_big_op | go_simp)
        exact hK _ _ (New.refl _) rfl
      case o7 =>
        intro s w' K hn hk hK
        have h64 : (s 64) = .string a := hk.here
        have h65 : (s 65) = .string b := hk.next.here
        have h61 : (s 61) = .bool true := hk.next.next.here
        clear hk
        simp only [fr, fill, Nat.reduceAdd, Act.put, List.setIfInBounds_toArray, List.set_cons_zero, List.set_cons_succ] at hK ⊢
        generalize s 64 = x64 at *
        generalize s 65 = x65 at *
        generalize s 61 = x61 at *
        subst h64
        subst h65
        subst h61
        refine ⟨true, rfl, ?_⟩
        show Oper.wp _ _ _ _ _ _
        (first | go_big_op | go_simp)
        exact hK _ _ (New.refl _) rfl
      case o8 =>
        intro s w' K hn hk hK
        have h63 : (s 63) = .bool false := hk.here
        have h66 : (s 66) = .bool false := hk.next.here
        have h61 : (s 61) = .bool true := hk.next.next.here
        clear hk
        simp only [fr, fill, Nat.reduceAdd, Act.put, List.setIfInBounds_toArray, List.set_cons_zero, List.set_cons_succ] at hK ⊢
        generalize s 63 = x63 at *
        generalize s 66 = x66 at *
        generalize s 61 = x61 at *
        subst h63
        subst h66
        subst h61
        refine ⟨true, rfl, ?_⟩
        show Oper.wp _ _ _ _ _ _
        (first | go_big_op | go_simp)
        exact hK _ _ (New.refl _) rfl
      case o9 =>
        intro s w' K hn hk hK
        have h61 : (s 61) = .bool true := hk.here
        have h67 : (s 67) = .bool true := hk.next.here
        clear hk
        simp only [fr, fill, Nat.reduceAdd, Act.put, List.setIfInBounds_toArray, List.set_cons_zero, List.set_cons_succ] at hK ⊢
        generalize s 61 = x61 at *
        generalize s 67 = x67 at *
        subst h61
        subst h67
        refine ⟨true, rfl, ?_⟩
        show Oper.wp _ _ _ _ _ _
        (first | go_big_op | go_simp)
        exact hK _ _ (New.refl _) rfl
      case o10 =>
        intro s w' K hn hk hK
        have h68 : (s 68) = .bool true := hk.here
        clear hk
        simp only [fr, fill, Nat.reduceAdd, Act.put, List.setIfInBounds_toArray, List.set_cons_zero, List.set_cons_succ] at hK ⊢
        generalize s 68 = x68 at *
        subst h68
        refine ⟨true, rfl, ?_⟩
        show Oper.wp _ _ _ _ _ _
        (first | go_big_op | go_simp)
        exact hK _ _ (New.refl _) rfl
      case o11 =>
        intro s w' K hn hk hK
        have h69 : (s 69) = .bool true := hk.here
        clear hk
        simp only [fr, fill, Nat.reduceAdd, Act.put, List.setIfInBounds_toArray, List.set_cons_zero, List.set_cons_succ] at hK ⊢
        generalize s 69 = x69 at *
        subst h69
        have hc := T3.out.bx.new hn
        obtain ⟨c0, c1, c2, c3⟩ := hc.cells4
        clear hc
        refine ⟨true, rfl, ?_⟩
        show Oper.wp _ _ _ _ _ _
        (first | go_big_op | go_simp)
        exact hK _ _ (New.refl _) rfl
      case o12 =>
        intro s w' K hn hk hK
        have h69 : (s 69) = .bool true := hk.here
        clear hk
        simp only [fr, fill, Nat.reduceAdd, Act.put, List.setIfInBounds_toArray, List.set_cons_zero, List.set_cons_succ] at hK ⊢
        generalize s 69 = x69 at *
        subst h69
        have hc := T1.out.bx.new hn
        obtain ⟨c0, c1, c2, c3⟩ := hc.cells4
        clear hc
        refine ⟨true, rfl, ?_⟩
        show Oper.wp _ _ _ _ _ _
        (first | go_big_op | go_simp)
        exact hK _ _ (New.refl _) rfl
      case o13 =>
        intro s w' K hn hk hK
        have h70 : (s 70) = .agg #[.slice A3 l3 c3, .bool b3, .slice A3' l3' c3', .bool b3'] := hk.here
        have h71 : (s 71) = .agg #[.slice A1 l1 c1, .bool b1, .slice A1' l1' c1', .bool b1'] := hk.next.here
        have h69 : (s 69) = .bool true := hk.next.next.here
        clear hk
        simp only [fr, fill, Nat.reduceAdd, Act.put, List.setIfInBounds_toArray, List.set_cons_zero, List.set_cons_succ] at hK ⊢
        generalize s 70 = x70 at *
        generalize s 71 = x71 at *
        generalize s 69 = x69 at *
        subst h70
        subst h71
        subst h69
        refine ⟨true, rfl, ?_⟩
        show Oper.wp _ _ _ _ _ _
        (first | go_big_op | go_simp)
        refine (HC1.out _ _ _ (T3.out.rv.new hn) (T1.out.rv.new hn)).mono ?_
        rintro e' w'' ⟨rfl, hn'⟩
        exact hK _ _ hn' rfl
      case o14 =>
        intro s w' K hn hk hK
        have h69 : (s 69) = .bool true := hk.here
        clear hk
        simp only [fr, fill, Nat.reduceAdd, Act.put, List.setIfInBounds_toArray, List.set_cons_zero, List.set_cons_succ] at hK ⊢
        generalize s 69 = x69 at *
        subst h69
        refine ⟨true, rfl, ?_⟩
        show Oper.wp _ _ _ _ _ _
        (first | go_big_op | go_simp)
        exact hK _ _ (New.refl _) rfl
      case o15 =>
        intro s w' K hn hk hK
        have h73 : (s 73) = .int .i64 (-1) := hk.here
        have h69 : (s 69) = .bool true := hk.next.here
        clear hk
        simp only [fr, fill, Nat.reduceAdd, Act.put, List.setIfInBounds_toArray, List.set_cons_zero, List.set_cons_succ] at hK ⊢
        generalize s 73 = x73 at *
        generalize s 69 = x69 at *
        subst h73
        subst h69
        refine ⟨true, rfl, ?_⟩
        show Oper.wp _ _ _ _ _ _
        (first | go_big_op | go_simp)
        exact hK _ _ (New.refl _) rfl
      case o16 =>
        intro s w' K hn hk hK
        have h72 : (s 72) = .int .i64 1 := hk.here
        have h74 : (s 74) = .int .i64 1 := hk.next.here
        have h69 : (s 69) = .bool true := hk.next.next.here
        clear hk
        simp only [fr, fill, Nat.reduceAdd, Act.put, List.setIfInBounds_toArray, List.set_cons_zero, List.set_cons_succ] at hK ⊢
        generalize s 72 = x72 at *
        generalize s 74 = x74 at *
        generalize s 69 = x69 at *
        subst h72
        subst h74
        subst h69
        refine ⟨true, rfl, ?_⟩
        show Oper.wp _ _ _ _ _ _
        (first | go_big_op | go_simp)
        exact hK _ _ (New.refl _) rfl
      case o17 =>
        intro s w' K hn hk hK
        have h69 : (s 69) = .bool true := hk.here
        have h75 : (s 75) = .bool true := hk.next.here
        clear hk
        simp only [fr, fill, Nat.reduceAdd, Act.put, List.setIfInBounds_toArray, List.set_cons_zero, List.set_cons_succ] at hK ⊢
        generalize s 69 = x69 at *
        generalize s 75 = x75 at *
        subst h69
        subst h75
        refine ⟨true, rfl, ?_⟩
        show Oper.wp _ _ _ _ _ _
        (first | go_big_op | go_simp)
        exact hK _ _ (New.refl _) rfl
      case o18 =>
        intro s w' K hn hk hK
        have h76 : (s 76) = .bool true := hk.here
        clear hk
        simp only [fr, fill, Nat.reduceAdd, Act.put, List.setIfInBounds_toArray, List.set_cons_zero, List.set_cons_succ] at hK ⊢
        generalize s 76 = x76 at *
        subst h76
        refine ⟨true, rfl, ?_⟩
        show Oper.wp _ _ _ _ _ _
        (first | go_big_op | go_simp)
        exact hK _ _ (New.refl _) rfl
      case o19 =>
        intro s w' K hn hk hK
        have h77 : (s 77) = .bool true := hk.here
        clear hk
        simp only [fr, fill, Nat.reduceAdd, Act.put, List.setIfInBounds_toArray, List.set_cons_zero, List.set_cons_succ] at hK ⊢
        generalize s 77 = x77 at *
        subst h77
        have hc := T3.out.bx.new hn
        obtain ⟨c0, c1, c2, c3⟩ := hc.cells4
        clear hc
        refine ⟨true, rfl, ?_⟩
        show Oper.wp _ _ _ _ _ _
        (first | go_big_op | go_simp)
        exact hK _ _ (New.refl _) rfl
      case o20 =>
        intro s w' K hn hk hK
        have h77 : (s 77) = .bool true := hk.here
        clear hk
        simp only [fr, fill, Nat.reduceAdd, Act.put, List.setIfInBounds_toArray, List.set_cons_zero, List.set_cons_succ] at hK ⊢
        generalize s 77 = x77 at *
        subst h77
        have hc := T2.out.bx.new hn
        obtain ⟨c0, c1, c2, c3⟩ := hc.cells4
        clear hc
        refine ⟨true, rfl, ?_⟩
        show Oper.wp _ _ _ _ _ _
        (first | go_big_op | go_simp)
        exact hK _ _ (New.refl _) rfl
      case o21 =>
        intro s w' K hn hk hK
        have h78 : (s 78) = .agg #[.slice A3 l3 c3, .bool b3, .slice A3' l3' c3', .bool b3'] := hk.here
        have h79 : (s 79) = .agg #[.slice A2 l2 c2, .bool b2, .slice A2' l2' c2', .bool b2'] := hk.next.here
        have h77 : (s 77) = .bool true := hk.next.next.here
        clear hk
        simp only [fr, fill, Nat.reduceAdd, Act.put, List.setIfInBounds_toArray, List.set_cons_zero, List.set_cons_succ] at hK ⊢
        generalize s 78 = x78 at *
        generalize s 79 = x79 at *
        generalize s 77 = x77 at *
        subst h78
        subst h79
        subst h77
        refine ⟨true, rfl, ?_⟩
        show Oper.wp _ _ _ _ _ _
        (first | go_big_op | go_simp)
        refine (HC2.out _ _ _ (T3.out.rv.new hn) (T2.out.rv.new hn)).mono ?_
        rintro e' w'' ⟨rfl, hn'⟩
        exact hK _ _ hn' rfl
      case o22 =>
        intro s w' K hn hk hK
        have h77 : (s 77) = .bool true := hk.here
        clear hk
        simp only [fr, fill, Nat.reduceAdd, Act.put, List.setIfInBounds_toArray, List.set_cons_zero, List.set_cons_succ] at hK ⊢
        generalize s 77 = x77 at *
        subst h77
        refine ⟨true, rfl, ?_⟩
        show Oper.wp _ _ _ _ _ _
        (first | go_big_op | go_simp)
        exact hK _ _ (New.refl _) rfl
      case o23 =>
        intro s w' K hn hk hK
        have h80 : (s 80) = .int .i64 (-1) := hk.here
        have h81 : (s 81) = .int .i64 (-1) := hk.next.here
        have h77 : (s 77) = .bool true := hk.next.next.here
        clear hk
        simp only [fr, fill, Nat.reduceAdd, Act.put, List.setIfInBounds_toArray, List.set_cons_zero, List.set_cons_succ] at hK ⊢
        generalize s 80 = x80 at *
        generalize s 81 = x81 at *
        generalize s 77 = x77 at *
        subst h80
        subst h81
        subst h77
        refine ⟨true, rfl, ?_⟩
        show Oper.wp _ _ _ _ _ _
        (first | go_big_op | go_simp)
        exact hK _ _ (New.refl _) rfl
      case o24 =>
        intro s w' K hn hk hK
        have h77 : (s 77) = .bool true := hk.here
        have h82 : (s 82) = .bool true := hk.next.here
        clear hk
        simp only [fr, fill, Nat.reduceAdd, Act.put, List.setIfInBounds_toArray, List.set_cons_zero, List.set_cons_succ] at hK ⊢
        generalize s 77 = x77 at *
        generalize s 82 = x82 at *
        subst h77
        subst h82
        refine ⟨true, rfl, ?_⟩
        show Oper.wp _ _ _ _ _ _
        (first | go_big_op | go_simp)
        exact hK _ _ (New.refl _) rfl
      case o25 =>
        intro s w' K hn hk hK
        have h83 : (s 83) = .bool true := hk.here
        clear hk
        simp only [fr, fill, Nat.reduceAdd, Act.put, List.setIfInBounds_toArray, List.set_cons_zero, List.set_cons_succ] at hK ⊢
        generalize s 83 = x83 at *
        subst h83
        refine ⟨true, rfl, ?_⟩
        show Oper.wp _ _ _ _ _ _
        (first | go_big_op | go_simp)
        exact hK _ _ (New.refl _) rfl
      case o26 =>
        intro s w' K hn hk hK
        have h84 : (s 84) = .bool true := hk.here
        clear hk
        simp only [fr, fill, Nat.reduceAdd, Act.put, List.setIfInBounds_toArray, List.set_cons_zero, List.set_cons_succ] at hK ⊢
        generalize s 84 = x84 at *
        subst h84
        have hc := T3.out.bx.new hn
        obtain ⟨c0, c1, c2, c3⟩ := hc.cells4
        clear hc
        refine ⟨true, rfl, ?_⟩
        show Oper.wp _ _ _ _ _ _
        (first | go_big_op | go_simp)
        exact hK _ _ (New.refl _) rfl
      case o27 =>
        intro s w' K hn hk hK
        have h84 : (s 84) = .bool true := hk.here
        clear hk
        simp only [fr, fill, Nat.reduceAdd, Act.put, List.setIfInBounds_toArray, List.set_cons_zero, List.set_cons_succ] at hK ⊢
        generalize s 84 = x84 at *
        subst h84
        have hc := T3.out.bx.new hn
        obtain ⟨c0, c1, c2, c3⟩ := hc.cells4
        clear hc
        refine ⟨true, rfl, ?_⟩
        show Oper.wp _ _ _ _ _ _
        (first | go_big_op | go_simp)
        exact hK _ _ (New.refl _) rfl
      case o28 =>
        intro s w' K hn hk hK
        have h85 : (s 85) = .agg #[.slice A3 l3 c3, .bool b3, .slice A3' l3' c3', .bool b3'] := hk.here
        have h86 : (s 86) = .agg #[.slice A3 l3 c3, .bool b3, .slice A3' l3' c3', .bool b3'] := hk.next.here
        have h84 : (s 84) = .bool true := hk.next.next.here
        clear hk
        simp only [fr, fill, Nat.reduceAdd, Act.put, List.setIfInBounds_toArray, List.set_cons_zero, List.set_cons_succ] at hK ⊢
        generalize s 85 = x85 at *
        generalize s 86 = x86 at *
        generalize s 84 = x84 at *
        subst h85
        subst h86
        subst h84
        refine ⟨true, rfl, ?_⟩
        show Oper.wp _ _ _ _ _ _
        (first | go_big_op | go_simp)
        refine (HMM.out _ _ _ (T3.out.rv.new hn) (T3.out.rv.new hn)).mono ?_
        rintro e' w'' ⟨v', rfl, hv', hn'⟩
        exact hK _ _ hn' hv'
      case o29 =>
        intro s w' K hn hk hK
        have h84 : (s 84) = .bool true := hk.here
        clear hk
        simp only [fr, fill, Nat.reduceAdd, Act.put, List.setIfInBounds_toArray, List.set_cons_zero, List.set_cons_succ] at hK ⊢
        generalize s 84 = x84 at *
        subst h84
        have hc := T1.out.bx.new hn
        obtain ⟨c0, c1, c2, c3⟩ := hc.cells4
        clear hc
        refine ⟨true, rfl, ?_⟩
        show Oper.wp _ _ _ _ _ _
        (first | go_big_op | go_simp)
        exact hK _ _ (New.refl _) rfl
      case o30 =>
        intro s w' K hn hk hK
        have h84 : (s 84) = .bool true := hk.here
        clear hk
        simp only [fr, fill, Nat.reduceAdd, Act.put, List.setIfInBounds_toArray, List.set_cons_zero, List.set_cons_succ] at hK ⊢
        generalize s 84 = x84 at *
        subst h84
        have hc := T2.out.bx.new hn
        obtain ⟨c0, c1, c2, c3⟩ := hc.cells4
        clear hc
        refine ⟨true, rfl, ?_⟩
        show Oper.wp _ _ _ _ _ _
        (first | go_big_op | go_simp)
        exact hK _ _ (New.refl _) rfl
      case o31 =>
        intro s w' K hn hk hK
        have h88 : (s 88) = .agg #[.slice A1 l1 c1, .bool b1, .slice A1' l1' c1', .bool b1'] := hk.here
        have h89 : (s 89) = .agg #[.slice A2 l2 c2, .bool b2, .slice A2' l2' c2', .bool b2'] := hk.next.here
        have h84 : (s 84) = .bool true := hk.next.next.here
        clear hk
        simp only [fr, fill, Nat.reduceAdd, Act.put, List.setIfInBounds_toArray, List.set_cons_zero, List.set_cons_succ] at hK ⊢
        generalize s 88 = x88 at *
        generalize s 89 = x89 at *
        generalize s 84 = x84 at *
        subst h88
        subst h89
        subst h84
        refine ⟨true, rfl, ?_⟩
        show Oper.wp _ _ _ _ _ _
        (first | go_big_op | go_simp)
        refine (HA2.out _ _ _ (T1.out.rv.new hn) (T2.out.rv.new hn)).mono ?_
        rintro e' w'' ⟨v', rfl, hv', hn'⟩
        exact hK _ _ hn' hv'
      case o32 =>
        intro s w' K hn hk hK
        have h87 : RatB w' (s 87) (pn) (pd) (8201) := hk.here
        have h90 : RatB w' (s 90) (sn) (sd) (1025) := hk.next.here
        have h84 : (s 84) = .bool true := hk.next.next.here
        clear hk
        simp only [fr, fill, Nat.reduceAdd, Act.put, List.setIfInBounds_toArray, List.set_cons_zero, List.set_cons_succ] at hK ⊢
        generalize s 87 = x87 at *
        generalize s 90 = x90 at *
        generalize s 84 = x84 at *
        subst h84
        refine ⟨true, rfl, ?_⟩
        show Oper.wp _ _ _ _ _ _
        (first | go_big_op | go_simp)
        refine (HC3.out _ _ _ h87 h90).mono ?_
        rintro e' w'' ⟨rfl, hn'⟩
        exact hK _ _ hn' rfl
      case o33 =>
        intro s w' K hn hk hK
        have h91 : (s 91) = .int .i64 0 := hk.here
        have h84 : (s 84) = .bool true := hk.next.here
        clear hk
        simp only [fr, fill, Nat.reduceAdd, Act.put, List.setIfInBounds_toArray, List.set_cons_zero, List.set_cons_succ] at hK ⊢
        generalize s 91 = x91 at *
        generalize s 84 = x84 at *
        subst h91
        subst h84
        refine ⟨true, rfl, ?_⟩
        show Oper.wp _ _ _ _ _ _
        (first | go_big_op | go_simp)
        exact hK _ _ (New.refl _) rfl
      case o34 =>
        intro s w' K hn hk hK
        have h84 : (s 84) = .bool true := hk.here
        have h92 : (s 92) = .bool true := hk.next.here
        clear hk
        simp only [fr, fill, Nat.reduceAdd, Act.put, List.setIfInBounds_toArray, List.set_cons_zero, List.set_cons_succ] at hK ⊢
        generalize s 84 = x84 at *
        generalize s 92 = x92 at *
        subst h84
        subst h92
        refine ⟨true, rfl, ?_⟩
        show Oper.wp _ _ _ _ _ _
        (first | go_big_op | go_simp)
        exact hK _ _ (New.refl _) rfl
      case last =>
        intro s V0 hn hk
        have h59 : (s 59) = .int .i64 0 := hk.here
        have h60 : (s 60) = .bool true := hk.next.here
        have h61 : (s 61) = .bool true := hk.next.next.here
        have h62 : (s 62) = .int .i64 (-1) := hk.next.next.next.here
        have h63 : (s 63) = .bool false := hk.next.next.next.next.here
        have h64 : (s 64) = .string a := hk.next.next.next.next.next.here
        have h65 : (s 65) = .string b := hk.next.next.next.next.next.next.here
        have h66 : (s 66) = .bool false := hk.next.next.next.next.next.next.next.here
        have h67 : (s 67) = .bool true := hk.next.next.next.next.next.next.next.next.here
        have h68 : (s 68) = .bool true := hk.next.next.next.next.next.next.next.next.next.here
        have h69 : (s 69) = .bool true := hk.next.next.next.next.next.next.next.next.next.next.here
        have h70 : (s 70) = .agg #[.slice A3 l3 c3, .bool b3, .slice A3' l3' c3', .bool b3'] := hk.next.next.next.next.next.next.next.next.next.next.next.here
        have h71 : (s 71) = .agg #[.slice A1 l1 c1, .bool b1, .slice A1' l1' c1', .bool b1'] := hk.next.next.next.next.next.next.next.next.next.next.next.next.here
        have h72 : (s 72) = .int .i64 1 := hk.next.next.next.next.next.next.next.next.next.next.next.next.next.here
        have h73 : (s 73) = .int .i64 (-1) := hk.next.next.next.next.next.next.next.next.next.next.next.next.next.next.here
        have h74 : (s 74) = .int .i64 1 := hk.next.next.next.next.next.next.next.next.next.next.next.next.next.next.next.here
        have h75 : (s 75) = .bool true := hk.next.next.next.next.next.next.next.next.next.next.next.next.next.next.next.next.here
        have h76 : (s 76) = .bool true := hk.next.next.next.next.next.next.next.next.next.next.next.next.next.next.next.next.next.here
        have h77 : (s 77) = .bool true := hk.next.next.next.next.next.next.next.next.next.next.next.next.next.next.next.next.next.next.here
        have h78 : (s 78) = .agg #[.slice A3 l3 c3, .bool b3, .slice A3' l3' c3', .bool b3'] := hk.next.next.next.next.next.next.next.next.next.next.next.next.next.next.next.next.next.next.next.here
        have h79 : (s 79) = .agg #[.slice A2 l2 c2, .bool b2, .slice A2' l2' c2', .bool b2'] := hk.next.next.next.next.next.next.next.next.next.next.next.next.next.next.next.next.next.next.next.next.here
        have h80 : (s 80) = .int .i64 (-1) := hk.next.next.next.next.next.next.next.next.next.next.next.next.next.next.next.next.next.next.next.next.next.here
        have h81 : (s 81) = .int .i64 (-1) := hk.next.next.next.next.next.next.next.next.next.next.next.next.next.next.next.next.next.next.next.next.next.next.here
        have h82 : (s 82) = .bool true := hk.next.next.next.next.next.next.next.next.next.next.next.next.next.next.next.next.next.next.next.next.next.next.next.here
        have h83 : (s 83) = .bool true := hk.next.next.next.next.next.next.next.next.next.next.next.next.next.next.next.next.next.next.next.next.next.next.next.next.here
        have h84 : (s 84) = .bool true := hk.next.next.next.next.next.next.next.next.next.next.next.next.next.next.next.next.next.next.next.next.next.next.next.next.next.here
        have h85 : (s 85) = .agg #[.slice A3 l3 c3, .bool b3, .slice A3' l3' c3', .bool b3'] := hk.next.next.next.next.next.next.next.next.next.next.next.next.next.next.next.next.next.next.next.next.next.next.next.next.next.next.here
        have h86 : (s 86) = .agg #[.slice A3 l3 c3, .bool b3, .slice A3' l3' c3', .bool b3'] := hk.next.next.next.next.next.next.next.next.next.next.next.next.next.next.next.next.next.next.next.next.next.next.next.next.next.next.next.here
        have h87 : RatB V0 (s 87) (pn) (pd) (8201) := hk.next.next.next.next.next.next.next.next.next.next.next.next.next.next.next.next.next.next.next.next.next.next.next.next.next.next.next.next.here
        have h88 : (s 88) = .agg #[.slice A1 l1 c1, .bool b1, .slice A1' l1' c1', .bool b1'] := hk.next.next.next.next.next.next.next.next.next.next.next.next.next.next.next.next.next.next.next.next.next.next.next.next.next.next.next.next.next.here
        have h89 : (s 89) = .agg #[.slice A2 l2 c2, .bool b2, .slice A2' l2' c2', .bool b2'] := hk.next.next.next.next.next.next.next.next.next.next.next.next.next.next.next.next.next.next.next.next.next.next.next.next.next.next.next.next.next.next.here
        have h90 : RatB V0 (s 90) (sn) (sd) (1025) := hk.next.next.next.next.next.next.next.next.next.next.next.next.next.next.next.next.next.next.next.next.next.next.next.next.next.next.next.next.next.next.next.here
        have h91 : (s 91) = .int .i64 0 := hk.next.next.next.next.next.next.next.next.next.next.next.next.next.next.next.next.next.next.next.next.next.next.next.next.next.next.next.next.next.next.next.next.here
        have h92 : (s 92) = .bool true := hk.next.next.next.next.next.next.next.next.next.next.next.next.next.next.next.next.next.next.next.next.next.next.next.next.next.next.next.next.next.next.next.next.next.here
        have h93 : (s 93) = .bool true := hk.next.next.next.next.next.next.next.next.next.next.next.next.next.next.next.next.next.next.next.next.next.next.next.next.next.next.next.next.next.next.next.next.next.next.here
        clear hk
        simp only [fr, fill, Nat.reduceAdd, Act.put, List.setIfInBounds_toArray, List.set_cons_zero, List.set_cons_succ]
        generalize s 59 = x59 at *
        generalize s 60 = x60 at *
        generalize s 61 = x61 at *
        generalize s 62 = x62 at *
        generalize s 63 = x63 at *
        generalize s 64 = x64 at *
        generalize s 65 = x65 at *
        generalize s 66 = x66 at *
        generalize s 67 = x67 at *
        generalize s 68 = x68 at *
        generalize s 69 = x69 at *
        generalize s 70 = x70 at *
        generalize s 71 = x71 at *
        generalize s 72 = x72 at *
        generalize s 73 = x73 at *
        generalize s 74 = x74 at *
        generalize s 75 = x75 at *
        generalize s 76 = x76 at *
        generalize s 77 = x77 at *
        generalize s 78 = x78 at *
        generalize s 79 = x79 at *
        generalize s 80 = x80 at *
        generalize s 81 = x81 at *
        generalize s 82 = x82 at *
        generalize s 83 = x83 at *
        generalize s 84 = x84 at *
        generalize s 85 = x85 at *
        generalize s 86 = x86 at *
        generalize s 87 = x87 at *
        generalize s 88 = x88 at *
        generalize s 89 = x89 at *
        generalize s 90 = x90 at *
        generalize s 91 = x91 at *
        generalize s 92 = x92 at *
        generalize s 93 = x93 at *
        subst h59
        subst h60
        subst h61
        subst h62
        subst h63
        subst h64
        subst h65
        subst h66
        subst h67
        subst h68
        subst h69
        subst h70
        subst h71
        subst h72
        subst h73
        subst h74
        subst h75
        subst h76
        subst h77
        subst h78
        subst h79
        subst h80
        subst h81
        subst h82
        subst h83
        subst h84
        subst h85
        subst h86
        subst h88
        subst h89
        subst h91
        subst h92
        subst h93
        refine wpAny_chain [35] _ _ _ (by kernel_rfl) ?_
        change wpList _ _ _ [_] _ _
        have HNF := Lib.hid (HN7.out.trans hn)
        clear hn h87 h90
        refine wpList_plain rfl fun K35 hK35 => ?_
        go_simp
        refine hK35 _ _ ?_
        clear hK35
        change Exit.then _ _ .normal _ _
        simp only [Exit.then]
        go_wp2_with fail
        go_ret
        exact ⟨rfl, HNF.out⟩
    · have hq1 : (a.toList == b.toList) = true := hbq.symm
      refine wp_region_rel (by kernel_rfl) (VL [(59, fun ww vv => vv = .int .i64 0), (60, fun ww vv => vv = .bool true), (61, fun ww vv => vv = .bool true), (62, fun ww vv => vv = .int .i64 0), (63, fun ww vv => vv = .bool true), (64, fun ww vv => vv = .string a), (65, fun ww vv => vv = .string b), (66, fun ww vv => vv = .bool true), (67, fun ww vv => vv = .bool true), (68, fun ww vv => vv = .bool true), (69, fun ww vv => vv = .bool true), (70, fun ww vv => vv = .agg #[.slice A3 l3 c3, .bool b3, .slice A3' l3' c3', .bool b3']), (71, fun ww vv => vv = .agg #[.slice A1 l1 c1, .bool b1, .slice A1' l1' c1', .bool b1']), (72, fun ww vv => vv = .int .i64 0), (73, fun ww vv => vv = .int .i64 0), (74, fun ww vv => vv = .int .i64 0), (75, fun ww vv => vv = .bool true), (76, fun ww vv => vv = .bool true), (77, fun ww vv => vv = .bool true), (78, fun ww vv => vv = .agg #[.slice A3 l3 c3, .bool b3, .slice A3' l3' c3', .bool b3']), (79, fun ww vv => vv = .agg #[.slice A2 l2 c2, .bool b2, .slice A2' l2' c2', .bool b2']), (80, fun ww vv => vv = .int .i64 0), (81, fun ww vv => vv = .int .i64 0), (82, fun ww vv => vv = .bool true), (83, fun ww vv => vv = .bool true), (84, fun ww vv => vv = .bool true), (85, fun ww vv => vv = .agg #[.slice A3 l3 c3, .bool b3, .slice A3' l3' c3', .bool b3']), (86, fun ww vv => vv = .agg #[.slice A3 l3 c3, .bool b3, .slice A3' l3' c3', .bool b3']), (87, fun ww vv => RatB ww vv (pn) (pd) (8201)), (88, fun ww vv => vv = .agg #[.slice A1 l1 c1, .bool b1, .slice A1' l1' c1', .bool b1']), (89, fun ww vv => vv = .agg #[.slice A2 l2 c2, .bool b2, .slice A2' l2' c2', .bool b2']), (90, fun ww vv => RatB ww vv (sn) (sd) (1025)), (91, fun ww vv => vv = .int .i64 0), (92, fun ww vv => vv = .bool true), (93, fun ww vv => vv = .bool true)]) (by exact VL_mono ⟨fun _ _ _ h _ => h, fun _ _ _ h _ => h, fun _ _ _ h _ => h, fun _ _ _ h _ => h, fun _ _ _ h _ => h, fun _ _ _ h _ => h, fun _ _ _ h _ => h, fun _ _ _ h _ => h, fun _ _ _ h _ => h, fun _ _ _ h _ => h, fun _ _ _ h _ => h, fun _ _ _ h _ => h, fun _ _ _ h _ => h, fun _ _ _ h _ => h, fun _ _ _ h _ => h, fun _ _ _ h _ => h, fun _ _ _ h _ => h, fun _ _ _ h _ => h, fun _ _ _ h _ => h, fun _ _ _ h _ => h, fun _ _ _ h _ => h, fun _ _ _ h _ => h, fun _ _ _ h _ => h, fun _ _ _ h _ => h, fun _ _ _ h _ => h, fun _ _ _ h _ => h, fun _ _ _ h _ => h, fun _ _ _ h _ => h, fun _ _ _ h hn => RatB.new h hn, fun _ _ _ h _ => h, fun _ _ _ h _ => h, fun _ _ _ h hn => RatB.new h hn, fun _ _ _ h _ => h, fun _ _ _ h _ => h, fun _ _ _ h _ => h, trivial⟩) _ _ [false, false, false, false, false, false, false, false, false, false, false, false, false, false, false, false, false, false, false, false, false, false, false, false, false, false, false, false, false, false, false, false, false, false, false, false, false, false, false, false, false, false, false, false, false, false, false, false, false, false, false, false, false, false, false, false, false, false, false, true, true, true, true, true, true, true, true, true, true, true, true, true, true, true, true, true, true, true, true, true, true, true, true, true, true, true, true, true, true, true, true, true, true, true] [true, true, true, true, true, true, true, true, true, true, true, true, true, true, true, true, true, true, true, true, true, true, true, true, true, true, true, true, true, true, true, true, true, true, true, false] [false, false, false, false, false, false, false, false, false, false, false, false, false, false, false, false, false, false, false, false, false, false, false, false, false, false, false, false, false, false, false, false, false, false, false, false] [[], [59], [60], [61], [62, 61], [61], [61], [64, 65, 61], [63, 66, 61], [61, 67], [68], [69], [69], [70, 71, 69], [69], [73, 69], [72, 74, 69], [69, 75], [76], [77], [77], [78, 79, 77], [77], [80, 81, 77], [77, 82], [83], [84], [84], [85, 86, 84], [84], [84], [88, 89, 84], [87, 90, 84], [91, 84], [84, 92], []] [59, 60, 61, 62, 63, 64, 65, 66, 67, 68, 69, 70, 71, 72, 73, 74, 75, 76, 77, 78, 79, 80, 81, 82, 83, 84, 85, 86, 87, 88, 89, 90, 91, 92, 93] 1 (by kernel_rfl) rfl rfl (by kernel_rfl) (by kernel_rfl) (fun _ _ _ _ _ h => h) ⟨?o0, ?o1, ?o2, ?o3, ?o4, ?o5, ?o6, ?o7, ?o8, ?o9, ?o10, ?o11, ?o12, ?o13, ?o14, ?o15, ?o16, ?o17, ?o18, ?o19, ?o20, ?o21, ?o22, ?o23, ?o24, ?o25, ?o26, ?o27, ?o28, ?o29, ?o30, ?o31, ?o32, ?o33, ?o34, trivial⟩ ?last
      case o0 =>
        intro s w' K hn hk hK
        clear hk
        simp only [fr, fill, Nat.reduceAdd, Act.put, List.setIfInBounds_toArray, List.set_cons_zero, List.set_cons_succ] at hK ⊢
        refine ⟨true, rfl, ?_⟩
        show Oper.wp _ _ _ _ _ _
        (first | go_big_op | go_simp)
        exact hK _ _ (New.refl _) rfl
      case o1 =>
        intro s w' K hn hk hK
        have h59 : (s 59) = .int .i64 0 := hk.here
        clear hk
        simp only [fr, fill, Nat.reduceAdd, Act.put, List.setIfInBounds_toArray, List.set_cons_zero, List.set_cons_succ] at hK ⊢
        generalize s 59 = x59 at *
        subst h59
        refine ⟨true, rfl, ?_⟩
        show Oper.wp _ _ _ _ _ _
        (first | go_big_op | go_simp)
        exact hK _ _ (New.refl _) rfl
      case o2 =>
        intro s w' K hn hk hK
        have h60 : (s 60) = .bool true := hk.here
        clear hk
        simp only [fr, fill, Nat.reduceAdd, Act.put, List.setIfInBounds_toArray, List.set_cons_zero, List.set_cons_succ] at hK ⊢
        generalize s 60 = x60 at *
        subst h60
        refine ⟨true, rfl, ?_⟩
        show Oper.wp _ _ _ _ _ _
        (first | go_big_op | go_simp)
        exact hK _ _ (New.refl _) rfl
      case o3 =>
        intro s w' K hn hk hK
        have h61 : (s 61) = .bool true := hk.here
        clear hk
        simp only [fr, fill, Nat.reduceAdd, Act.put, List.setIfInBounds_toArray, List.set_cons_zero, List.set_cons_succ] at hK ⊢
        generalize s 61 = x61 at *
        subst h61
        refine ⟨true, rfl, ?_⟩
        show Oper.wp _ _ _ _ _ _
        (first | go_big_op | go_simp)
        exact hK _ _ (New.refl _) rfl
      case o4 =>
        intro s w' K hn hk hK
        have h62 : (s 62) = .int .i64 0 := hk.here
        have h61 : (s 61) = .bool true := hk.next.here
        clear hk
        simp only [fr, fill, Nat.reduceAdd, Act.put, List.setIfInBounds_toArray, List.set_cons_zero, List.set_cons_succ] at hK ⊢
        generalize s 62 = x62 at *
        generalize s 61 = x61 at *
        subst h62
        subst h61
        refine ⟨true, rfl, ?_⟩
        show Oper.wp _ _ _ _ _ _
        (first | go_big_op | go_simp)
        exact hK _ _ (New.refl _) rfl
      case o5 =>
        intro s w' K hn hk hK
        have h61 : (s 61) = .bool true := hk.here
        clear hk
        simp only [fr, fill, Nat.reduceAdd, Act.put, List.setIfInBounds_toArray, List.set_cons_zero, List.set_cons_succ] at hK ⊢
        generalize s 61 = x61 at *
        subst h61
        refine ⟨true, rfl, ?_⟩
        show Oper.wp _ _ _ _ _ _
        (first | go_big_op | go_simp)
        exact hK _ _ (New.refl _) rfl
      case o6 =>
        intro s w' K hn hk hK
        have h61 : (s 61) = .bool true := hk.here
        clear hk
        simp only [fr, fill, Nat.reduceAdd, Act.put, List.setIfInBounds_toArray, List.set_cons_zero, List.set_cons_succ] at hK ⊢
        generalize s 61 = x61 at *
        subst h61
        refine ⟨true, rfl, ?_⟩
        show Oper.wp _ _ _ _ _ _
        (first | go_big_op | go_simp)
        exact hK _ _ (New.refl _) rfl
      case o7 =>
        intro s w' K hn hk hK
        have h64 : (s 64) = .string a := hk.here
        have h65 : (s 65) = .string b := hk.next.here
        have h61 : (s 61) = .bool true := hk.next.next.here
        clear hk
        simp only [fr, fill, Nat.reduceAdd, Act.put, List.setIfInBounds_toArray, List.set_cons_zero, List.set_cons_succ] at hK ⊢
        generalize s 64 = x64 at *
        generalize s 65 = x65 at *
        generalize s 61 = x61 at *
        subst h64
        subst h65
        subst h61
        refine ⟨true, rfl, ?_⟩
        show Oper.wp _ _ _ _ _ _
        (first | go_big_op | go_simp)
        exact hK _ _ (New.refl _) rfl
      case o8 =>
        intro s w' K hn hk hK
        have h63 : (s 63) = .bool true := hk.here
        have h66 : (s 66) = .bool true := hk.next.here
        have h61 : (s 61) = .bool true := hk.next.next.here
        clear hk
        simp only [fr, fill, Nat.reduceAdd, Act.put, List.setIfInBounds_toArray, List.set_cons_zero, List.set_cons_succ] at hK ⊢
        generalize s 63 = x63 at *
        generalize s 66 = x66 at *
        generalize s 61 = x61 at *
        subst h63
        subst h66
        subst h61
        refine ⟨true, rfl, ?_⟩
        show Oper.wp _ _ _ _ _ _
        (first | go_big_op | go_simp)
        exact hK _ _ (New.refl _) rfl
      case o9 =>
        intro s w' K hn hk hK
        have h61 : (s 61) = .bool true := hk.here
        have h67 : (s 67) = .bool true := hk.next.here
        clear hk
        simp only [fr, fill, Nat.reduceAdd, Act.put, List.setIfInBounds_toArray, List.set_cons_zero, List.set_cons_succ] at hK ⊢
        generalize s 61 = x61 at *
        generalize s 67 = x67 at *
        subst h61
        subst h67
        refine ⟨true, rfl, ?_⟩
        show Oper.wp _ _ _ _ _ _
        (first | go_big_op | go_simp)
        exact hK _ _ (New.refl _) rfl
      case o10 =>
        intro s w' K hn hk hK
        have h68 : (s 68) = .bool true := hk.here
        clear hk
        simp only [fr, fill, Nat.reduceAdd, Act.put, List.setIfInBounds_toArray, List.set_cons_zero, List.set_cons_succ] at hK ⊢
        generalize s 68 = x68 at *
        subst h68
        refine ⟨true, rfl, ?_⟩
        show Oper.wp _ _ _ _ _ _
        (first | go_big_op | go_simp)
        exact hK _ _ (New.refl _) rfl
      case o11 =>
        intro s w' K hn hk hK
        have h69 : (s 69) = .bool true := hk.here
        clear hk
        simp only [fr, fill, Nat.reduceAdd, Act.put, List.setIfInBounds_toArray, List.set_cons_zero, List.set_cons_succ] at hK ⊢
        generalize s 69 = x69 at *
        subst h69
        have hc := T3.out.bx.new hn
        obtain ⟨c0, c1, c2, c3⟩ := hc.cells4
        clear hc
        refine ⟨true, rfl, ?_⟩
        show Oper.wp _ _ _ _ _ _
        (first | go_big_op | go_simp)
        exact hK _ _ (New.refl _) rfl
      case o12 =>
        intro s w' K hn hk hK
        have h69 : (s 69) = .bool true := hk.here
        clear hk
        simp only [fr, fill, Nat.reduceAdd, Act.put, List.setIfInBounds_toArray, List.set_cons_zero, List.set_cons_succ] at hK ⊢
        generalize s 69 = x69 at *
        subst h69
        have hc := T1.out.bx.new hn
        obtain ⟨c0, c1, c2, c3⟩ := hc.cells4
        clear hc
        refine ⟨true, rfl, ?_⟩
        show Oper.wp _ _ _ _ _ _
        (first | go_big_op | go_simp)
        exact hK _ _ (New.refl _) rfl
      case o13 =>
        intro s w' K hn hk hK
        have h70 : (s 70) = .agg #[.slice A3 l3 c3, .bool b3, .slice A3' l3' c3', .bool b3'] := hk.here
        have h71 : (s 71) = .agg #[.slice A1 l1 c1, .bool b1, .slice A1' l1' c1', .bool b1'] := hk.next.here
        have h69 : (s 69) = .bool true := hk.next.next.here
        clear hk
        simp only [fr, fill, Nat.reduceAdd, Act.put, List.setIfInBounds_toArray, List.set_cons_zero, List.set_cons_succ] at hK ⊢
        generalize s 70 = x70 at *
        generalize s 71 = x71 at *
        generalize s 69 = x69 at *
        subst h70
        subst h71
        subst h69
        refine ⟨true, rfl, ?_⟩
        show Oper.wp _ _ _ _ _ _
        (first | go_big_op | go_simp)
        refine (HC1.out _ _ _ (T3.out.rv.new hn) (T1.out.rv.new hn)).mono ?_
        rintro e' w'' ⟨rfl, hn'⟩
        exact hK _ _ hn' rfl
      case o14 =>
        intro s w' K hn hk hK
        have h69 : (s 69) = .bool true := hk.here
        clear hk
        simp only [fr, fill, Nat.reduceAdd, Act.put, List.setIfInBounds_toArray, List.set_cons_zero, List.set_cons_succ] at hK ⊢
        generalize s 69 = x69 at *
        subst h69
        refine ⟨true, rfl, ?_⟩
        show Oper.wp _ _ _ _ _ _
        (first | go_big_op | go_simp)
        exact hK _ _ (New.refl _) rfl
      case o15 =>
        intro s w' K hn hk hK
        have h73 : (s 73) = .int .i64 0 := hk.here
        have h69 : (s 69) = .bool true := hk.next.here
        clear hk
        simp only [fr, fill, Nat.reduceAdd, Act.put, List.setIfInBounds_toArray, List.set_cons_zero, List.set_cons_succ] at hK ⊢
        generalize s 73 = x73 at *
        generalize s 69 = x69 at *
        subst h73
        subst h69
        refine ⟨true, rfl, ?_⟩
        show Oper.wp _ _ _ _ _ _
        (first | go_big_op | go_simp)
        exact hK _ _ (New.refl _) rfl
      case o16 =>
        intro s w' K hn hk hK
        have h72 : (s 72) = .int .i64 0 := hk.here
        have h74 : (s 74) = .int .i64 0 := hk.next.here
        have h69 : (s 69) = .bool true := hk.next.next.here
        clear hk
        simp only [fr, fill, Nat.reduceAdd, Act.put, List.setIfInBounds_toArray, List.set_cons_zero, List.set_cons_succ] at hK ⊢
        generalize s 72 = x72 at *
        generalize s 74 = x74 at *
        generalize s 69 = x69 at *
        subst h72
        subst h74
        subst h69
        refine ⟨true, rfl, ?_⟩
        show Oper.wp _ _ _ _ _ _
        (first | go_big_op | go_simp)
        exact hK _ _ (New.refl _) rfl
      case o17 =>
        intro s w' K hn hk hK
        have h69 : (s 69) = .bool true := hk.here
        have h75 : (s 75) = .bool true := hk.next.here
        clear hk
        simp only [fr, fill, Nat.reduceAdd, Act.put, List.setIfInBounds_toArray, List.set_cons_zero, List.set_cons_succ] at hK ⊢
        generalize s 69 = x69 at *
        generalize s 75 = x75 at *
        subst h69
        subst h75
        refine ⟨true, rfl, ?_⟩
        show Oper.wp _ _ _ _ _ _
        (first | go_big_op | go_simp)
        exact hK _ _ (New.refl _) rfl
      case o18 =>
        intro s w' K hn hk hK
        have h76 : (s 76) = .bool true := hk.here
        clear hk
        simp only [fr, fill, Nat.reduceAdd, Act.put, List.setIfInBounds_toArray, List.set_cons_zero, List.set_cons_succ] at hK ⊢
        generalize s 76 = x76 at *
        subst h76
        refine ⟨true, rfl, ?_⟩
        show Oper.wp _ _ _ _ _ _
        (first | go_big_op | go_simp)
        exact hK _ _ (New.refl _) rfl
      case o19 =>
        intro s w' K hn hk hK
        have h77 : (s 77) = .bool true := hk.here
        clear hk
        simp only [fr, fill, Nat.reduceAdd, Act.put, List.setIfInBounds_toArray, List.set_cons_zero, List.set_cons_succ] at hK ⊢
        generalize s 77 = x77 at *
        subst h77
        have hc := T3.out.bx.new hn
        obtain ⟨c0, c1, c2, c3⟩ := hc.cells4
        clear hc
        refine ⟨true, rfl, ?_⟩
        show Oper.wp _ _ _ _ _ _
        (first | go_big_op | go_simp)
        exact hK _ _ (New.refl _) rfl
      case o20 =>
        intro s w' K hn hk hK
        have h77 : (s 77) = .bool true := hk.here
        clear hk
        simp only [fr, fill, Nat.reduceAdd, Act.put, List.setIfInBounds_toArray, List.set_cons_zero, List.set_cons_succ] at hK ⊢
        generalize s 77 = x77 at *
        subst h77
        have hc := T2.out.bx.new hn
        obtain ⟨c0, c1, c2, c3⟩ := hc.cells4
        clear hc
        refine ⟨true, rfl, ?_⟩
        show Oper.wp _ _ _ _ _ _
        (first | go_big_op | go_simp)
        exact hK _ _ (New.refl _) rfl
      case o21 =>
        intro s w' K hn hk hK
        have h78 : (s 78) = .agg #[.slice A3 l3 c3, .bool b3, .slice A3' l3' c3', .bool b3'] := hk.here
        have h79 : (s 79) = .agg #[.slice A2 l2 c2, .bool b2, .slice A2' l2' c2', .bool b2'] := hk.next.here
        have h77 : (s 77) = .bool true := hk.next.next.here
        clear hk
        simp only [fr, fill, Nat.reduceAdd, Act.put, List.setIfInBounds_toArray, List.set_cons_zero, List.set_cons_succ] at hK ⊢
        generalize s 78 = x78 at *
        generalize s 79 = x79 at *
        generalize s 77 = x77 at *
        subst h78
        subst h79
        subst h77
        refine ⟨true, rfl, ?_⟩
        show Oper.wp _ _ _ _ _ _
        (first | go_big_op | go_simp)
        refine (HC2.out _ _ _ (T3.out.rv.new hn) (T2.out.rv.new hn)).mono ?_
        rintro e' w'' ⟨rfl, hn'⟩
        exact hK _ _ hn' rfl
      case o22 =>
        intro s w' K hn hk hK
        have h77 : (s 77) = .bool true := hk.here
        clear hk
        simp only [fr, fill, Nat.reduceAdd, Act.put, List.setIfInBounds_toArray, List.set_cons_zero, List.set_cons_succ] at hK ⊢
        generalize s 77 = x77 at *
        subst h77
        refine ⟨true, rfl, ?_⟩
        show Oper.wp _ _ _ _ _ _
        (first | go_big_op | go_simp)
        exact hK _ _ (New.refl _) rfl
      case o23 =>
        intro s w' K hn hk hK
        have h80 : (s 80) = .int .i64 0 := hk.here
        have h81 : (s 81) = .int .i64 0 := hk.next.here
        have h77 : (s 77) = .bool true := hk.next.next.here
        clear hk
        simp only [fr, fill, Nat.reduceAdd, Act.put, List.setIfInBounds_toArray, List.set_cons_zero, List.set_cons_succ] at hK ⊢
        generalize s 80 = x80 at *
        generalize s 81 = x81 at *
        generalize s 77 = x77 at *
        subst h80
        subst h81
        subst h77
        refine ⟨true, rfl, ?_⟩
        show Oper.wp _ _ _ _ _ _
        (first | go_big_op | go_simp)
        exact hK _ _ (New.refl _) rfl
      case o24 =>
        intro s w' K hn hk hK
        have h77 : (s 77) = .bool true := hk.here
        have h82 : (s 82) = .bool true := hk.next.here
        clear hk
        simp only [fr, fill, Nat.reduceAdd, Act.put, List.setIfInBounds_toArray, List.set_cons_zero, List.set_cons_succ] at hK ⊢
        generalize s 77 = x77 at *
        generalize s 82 = x82 at *
        subst h77
        subst h82
        refine ⟨true, rfl, ?_⟩
        show Oper.wp _ _ _ _ _ _
        (first | go_big_op | go_simp)
        exact hK _ _ (New.refl _) rfl
      case o25 =>
        intro s w' K hn hk hK
        have h83 : (s 83) = .bool true := hk.here
        clear hk
        simp only [fr, fill, Nat.reduceAdd, Act.put, List.setIfInBounds_toArray, List.set_cons_zero, List.set_cons_succ] at hK ⊢
        generalize s 83 = x83 at *
        subst h83
        refine ⟨true, rfl, ?_⟩
        show Oper.wp _ _ _ _ _ _
        (first | go_big_op | go_simp)
        exact hK _ _ (New.refl _) rfl
      case o26 =>
        intro s w' K hn hk hK
        have h84 : (s 84) = .bool true := hk.here
        clear hk
        simp only [fr, fill, Nat.reduceAdd, Act.put, List.setIfInBounds_toArray, List.set_cons_zero, List.set_cons_succ] at hK ⊢
        generalize s 84 = x84 at *
        subst h84
        have hc := T3.out.bx.new hn
        obtain ⟨c0, c1, c2, c3⟩ := hc.cells4
        clear hc
        refine ⟨true, rfl, ?_⟩
        show Oper.wp _ _ _ _ _ _
        (first | go_big_op | go_simp)
        exact hK _ _ (New.refl _) rfl
      case o27 =>
        intro s w' K hn hk hK
        have h84 : (s 84) = .bool true := hk.here
        clear hk
        simp only [fr, fill, Nat.reduceAdd, Act.put, List.setIfInBounds_toArray, List.set_cons_zero, List.set_cons_succ] at hK ⊢
        generalize s 84 = x84 at *
        subst h84
        have hc := T3.out.bx.new hn
        obtain ⟨c0, c1, c2, c3⟩ := hc.cells4
        clear hc
        refine ⟨true, rfl, ?_⟩
        show Oper.wp _ _ _ _ _ _
        (first | go_big_op | go_simp)
        exact hK _ _ (New.refl _) rfl
      case o28 =>
        intro s w' K hn hk hK
        have h85 : (s 85) = .agg #[.slice A3 l3 c3, .bool b3, .slice A3' l3' c3', .bool b3'] := hk.here
        have h86 : (s 86) = .agg #[.slice A3 l3 c3, .bool b3, .slice A3' l3' c3', .bool b3'] := hk.next.here
        have h84 : (s 84) = .bool true := hk.next.next.here
        clear hk
        simp only [fr, fill, Nat.reduceAdd, Act.put, List.setIfInBounds_toArray, List.set_cons_zero, List.set_cons_succ] at hK ⊢
        generalize s 85 = x85 at *
        generalize s 86 = x86 at *
        generalize s 84 = x84 at *
        subst h85
        subst h86
        subst h84
        refine ⟨true, rfl, ?_⟩
        show Oper.wp _ _ _ _ _ _
        (first | go_big_op | go_simp)
        refine (HMM.out _ _ _ (T3.out.rv.new hn) (T3.out.rv.new hn)).mono ?_
        rintro e' w'' ⟨v', rfl, hv', hn'⟩
        exact hK _ _ hn' hv'
      case o29 =>
        intro s w' K hn hk hK
        have h84 : (s 84) = .bool true := hk.here
        clear hk
        simp only [fr, fill, Nat.reduceAdd, Act.put, List.setIfInBounds_toArray, List.set_cons_zero, List.set_cons_succ] at hK ⊢
        generalize s 84 = x84 at *
        subst h84
        have hc := T1.out.bx.new hn
        obtain ⟨c0, c1, c2, c3⟩ := hc.cells4
        clear hc
        refine ⟨true, rfl, ?_⟩
        show Oper.wp _ _ _ _ _ _
        (first | go_big_op | go_simp)
        exact hK _ _ (New.refl _) rfl
      case o30 =>
        intro s w' K hn hk hK
        have h84 : (s 84) = .bool true := hk.here
        clear hk
        simp only [fr, fill, Nat.reduceAdd, Act.put, List.setIfInBounds_toArray, List.set_cons_zero, List.set_cons_succ] at hK ⊢
        generalize s 84 = x84 at *
        subst h84
        have hc := T2.out.bx.new hn
        obtain ⟨c0, c1, c2, c3⟩ := hc.cells4
        clear hc
        refine ⟨true, rfl, ?_⟩
        show Oper.wp _ _ _ _ _ _
        (first | go_big_op | go_simp)
        exact hK _ _ (New.refl _) rfl
      case o31 =>
        intro s w' K hn hk hK
        have h88 : (s 88) = .agg #[.slice A1 l1 c1, .bool b1, .slice A1' l1' c1', .bool b1'] := hk.here
        have h89 : (s 89) = .agg #[.slice A2 l2 c2, .bool b2, .slice A2' l2' c2', .bool b2'] := hk.next.here
        have h84 : (s 84) = .bool true := hk.next.next.here
        clear hk
        simp only [fr, fill, Nat.reduceAdd, Act.put, List.setIfInBounds_toArray, List.set_cons_zero, List.set_cons_succ] at hK ⊢
        generalize s 88 = x88 at *
        generalize s 89 = x89 at *
        generalize s 84 = x84 at *
        subst h88
        subst h89
        subst h84
        refine ⟨true, rfl, ?_⟩
        show Oper.wp _ _ _ _ _ _
        (first | go_big_op | go_simp)
        refine (HA2.out _ _ _ (T1.out.rv.new hn) (T2.out.rv.new hn)).mono ?_
        rintro e' w'' ⟨v', rfl, hv', hn'⟩
        exact hK _ _ hn' hv'
      case o32 =>
        intro s w' K hn hk hK
        have h87 : RatB w' (s 87) (pn) (pd) (8201) := hk.here
        have h90 : RatB w' (s 90) (sn) (sd) (1025) := hk.next.here
        have h84 : (s 84) = .bool true := hk.next.next.here
        clear hk
        simp only [fr, fill, Nat.reduceAdd, Act.put, List.setIfInBounds_toArray, List.set_cons_zero, List.set_cons_succ] at hK ⊢
        generalize s 87 = x87 at *
        generalize s 90 = x90 at *
        generalize s 84 = x84 at *
        subst h84
        refine ⟨true, rfl, ?_⟩
        show Oper.wp _ _ _ _ _ _
        (first | go_big_op | go_simp)
        refine (HC3.out _ _ _ h87 h90).mono ?_
        rintro e' w'' ⟨rfl, hn'⟩
        exact hK _ _ hn' rfl
      case o33 =>
        intro s w' K hn hk hK
        have h91 : (s 91) = .int .i64 0 := hk.here
        have h84 : (s 84) = .bool true := hk.next.here
        clear hk
        simp only [fr, fill, Nat.reduceAdd, Act.put, List.setIfInBounds_toArray, List.set_cons_zero, List.set_cons_succ] at hK ⊢
        generalize s 91 = x91 at *
        generalize s 84 = x84 at *
        subst h91
        subst h84
        refine ⟨true, rfl, ?_⟩
        show Oper.wp _ _ _ _ _ _
        (first | go_big_op | go_simp)
        exact hK _ _ (New.refl _) rfl
      case o34 =>
        intro s w' K hn hk hK
        have h84 : (s 84) = .bool true := hk.here
        have h92 : (s 92) = .bool true := hk.next.here
        clear hk
        simp only [fr, fill, Nat.reduceAdd, Act.put, List.setIfInBounds_toArray, List.set_cons_zero, List.set_cons_succ] at hK ⊢
        generalize s 84 = x84 at *
        generalize s 92 = x92 at *
        subst h84
        subst h92
        refine ⟨true, rfl, ?_⟩
        show Oper.wp _ _ _ _ _ _
        (first | go_big_op | go_simp)
        exact hK _ _ (New.refl _) rfl
      case last =>
        intro s V0 hn hk
        have h59 : (s 59) = .int .i64 0 := hk.here
        have h60 : (s 60) = .bool true := hk.next.here
        have h61 : (s 61) = .bool true := hk.next.next.here
        have h62 : (s 62) = .int .i64 0 := hk.next.next.next.here
        have h63 : (s 63) = .bool true := hk.next.next.next.next.here
        have h64 : (s 64) = .string a := hk.next.next.next.next.next.here
        have h65 : (s 65) = .string b := hk.next.next.next.next.next.next.here
        have h66 : (s 66) = .bool true := hk.next.next.next.next.next.next.next.here
        have h67 : (s 67) = .bool true := hk.next.next.next.next.next.next.next.next.here
        have h68 : (s 68) = .bool true := hk.next.next.next.next.next.next.next.next.next.here
        have h69 : (s 69) = .bool true := hk.next.next.next.next.next.next.next.next.next.next.here
        have h70 : (s 70) = .agg #[.slice A3 l3 c3, .bool b3, .slice A3' l3' c3', .bool b3'] := hk.next.next.next.next.next.next.next.next.next.next.next.here
        have h71 : (s 71) = .agg #[.slice A1 l1 c1, .bool b1, .slice A1' l1' c1', .bool b1'] := hk.next.next.next.next.next.next.next.next.next.next.next.next.here
        have h72 : (s 72) = .int .i64 0 := hk.next.next.next.next.next.next.next.next.next.next.next.next.next.here
        have h73 : (s 73) = .int .i64 0 := hk.next.next.next.next.next.next.next.next.next.next.next.next.next.next.here
        have h74 : (s 74) = .int .i64 0 := hk.next.next.next.next.next.next.next.next.next.next.next.next.next.next.next.here
        have h75 : (s 75) = .bool true := hk.next.next.next.next.next.next.next.next.next.next.next.next.next.next.next.next.here
        have h76 : (s 76) = .bool true := hk.next.next.next.next.next.next.next.next.next.next.next.next.next.next.next.next.next.here
        have h77 : (s 77) = .bool true := hk.next.next.next.next.next.next.next.next.next.next.next.next.next.next.next.next.next.next.here
        have h78 : (s 78) = .agg #[.slice A3 l3 c3, .bool b3, .slice A3' l3' c3', .bool b3'] := hk.next.next.next.next.next.next.next.next.next.next.next.next.next.next.next.next.next.next.next.here
        have h79 : (s 79) = .agg #[.slice A2 l2 c2, .bool b2, .slice A2' l2' c2', .bool b2'] := hk.next.next.next.next.next.next.next.next.next.next.next.next.next.next.next.next.next.next.next.next.here
        have h80 : (s 80) = .int .i64 0 := hk.next.next.next.next.next.next.next.next.next.next.next.next.next.next.next.next.next.next.next.next.next.here
        have h81 : (s 81) = .int .i64 0 := hk.next.next.next.next.next.next.next.next.next.next.next.next.next.next.next.next.next.next.next.next.next.next.here
        have h82 : (s 82) = .bool true := hk.next.next.next.next.next.next.next.next.next.next.next.next.next.next.next.next.next.next.next.next.next.next.next.here
        have h83 : (s 83) = .bool true := hk.next.next.next.next.next.next.next.next.next.next.next.next.next.next.next.next.next.next.next.next.next.next.next.next.here
        have h84 : (s 84) = .bool true := hk.next.next.next.next.next.next.next.next.next.next.next.next.next.next.next.next.next.next.next.next.next.next.next.next.next.here
        have h85 : (s 85) = .agg #[.slice A3 l3 c3, .bool b3, .slice A3' l3' c3', .bool b3'] := hk.next.next.next.next.next.next.next.next.next.next.next.next.next.next.next.next.next.next.next.next.next.next.next.next.next.next.here
        have h86 : (s 86) = .agg #[.slice A3 l3 c3, .bool b3, .slice A3' l3' c3', .bool b3'] := hk.next.next.next.next.next.next.next.next.next.next.next.next.next.next.next.next.next.next.next.next.next.next.next.next.next.next.next.here
        have h87 : RatB V0 (s 87) (pn) (pd) (8201) := hk.next.next.next.next.next.next.next.next.next.next.next.next.next.next.next.next.next.next.next.next.next.next.next.next.next.next.next.next.here
        have h88 : (s 88) = .agg #[.slice A1 l1 c1, .bool b1, .slice A1' l1' c1', .bool b1'] := hk.next.next.next.next.next.next.next.next.next.next.next.next.next.next.next.next.next.next.next.next.next.next.next.next.next.next.next.next.next.here
        have h89 : (s 89) = .agg #[.slice A2 l2 c2, .bool b2, .slice A2' l2' c2', .bool b2'] := hk.next.next.next.next.next.next.next.next.next.next.next.next.next.next.next.next.next.next.next.next.next.next.next.next.next.next.next.next.next.next.here
        have h90 : RatB V0 (s 90) (sn) (sd) (1025) := hk.next.next.next.next.next.next.next.next.next.next.next.next.next.next.next.next.next.next.next.next.next.next.next.next.next.next.next.next.next.next.next.here
        have h91 : (s 91) = .int .i64 0 := hk.next.next.next.next.next.next.next.next.next.next.next.next.next.next.next.next.next.next.next.next.next.next.next.next.next.next.next.next.next.next.next.next.here
        have h92 : (s 92) = .bool true := hk.next.next.next.next.next.next.next.next.next.next.next.next.next.next.next.next.next.next.next.next.next.next.next.next.next.next.next.next.next.next.next.next.next.here
        have h93 : (s 93) = .bool true := hk.next.next.next.next.next.next.next.next.next.next.next.next.next.next.next.next.next.next.next.next.next.next.next.next.next.next.next.next.next.next.next.next.next.next.here
        clear hk
        simp only [fr, fill, Nat.reduceAdd, Act.put, List.setIfInBounds_toArray, List.set_cons_zero, List.set_cons_succ]
        generalize s 59 = x59 at *
        generalize s 60 = x60 at *
        generalize s 61 = x61 at *
        generalize s 62 = x62 at *
        generalize s 63 = x63 at *
        generalize s 64 = x64 at *
        generalize s 65 = x65 at *
        generalize s 66 = x66 at *
        generalize s 67 = x67 at *
        generalize s 68 = x68 at *
        generalize s 69 = x69 at *
        generalize s 70 = x70 at *
        generalize s 71 = x71 at *
        generalize s 72 = x72 at *
        generalize s 73 = x73 at *
        generalize s 74 = x74 at *
        generalize s 75 = x75 at *
        generalize s 76 = x76 at *
        generalize s 77 = x77 at *
        generalize s 78 = x78 at *
        generalize s 79 = x79 at *
        generalize s 80 = x80 at *
        generalize s 81 = x81 at *
        generalize s 82 = x82 at *
        generalize s 83 = x83 at *
        generalize s 84 = x84 at *
        generalize s 85 = x85 at *
        generalize s 86 = x86 at *
        generalize s 87 = x87 at *
        generalize s 88 = x88 at *
        generalize s 89 = x89 at *
        generalize s 90 = x90 at *
        generalize s 91 = x91 at *
        generalize s 92 = x92 at *
        generalize s 93 = x93 at *
        subst h59
        subst h60
        subst h61
        subst h62
        subst h63
        subst h64
        subst h65
        subst h66
        subst h67
        subst h68
        subst h69
        subst h70
        subst h71
        subst h72
        subst h73
        subst h74
        subst h75
        subst h76
        subst h77
        subst h78
        subst h79
        subst h80
        subst h81
        subst h82
        subst h83
        subst h84
        subst h85
        subst h86
        subst h88
        subst h89
        subst h91
        subst h92
        subst h93
        refine wpAny_chain [35] _ _ _ (by kernel_rfl) ?_
        change wpList _ _ _ [_] _ _
        have HNF := Lib.hid (HN7.out.trans hn)
        clear hn h87 h90
        refine wpList_plain rfl fun K35 hK35 => ?_
        go_simp
        refine hK35 _ _ ?_
        clear hK35
        change Exit.then _ _ .normal _ _
        simp only [Exit.then]
        go_wp2_with fail
        go_ret
        exact ⟨rfl, HNF.out⟩
    · have hq1 : (a.toList == b.toList) = false := hbq.symm
      refine wp_region_rel (by kernel_rfl) (VL [(59, fun ww vv => vv = .int .i64 0), (60, fun ww vv => vv = .bool true), (61, fun ww vv => vv = .bool true), (62, fun ww vv => vv = .int .i64 1), (63, fun ww vv => vv = .bool false), (64, fun ww vv => vv = .string a), (65, fun ww vv => vv = .string b), (66, fun ww vv => vv = .bool false), (67, fun ww vv => vv = .bool true), (68, fun ww vv => vv = .bool true), (69, fun ww vv => vv = .bool true), (70, fun ww vv => vv = .agg #[.slice A3 l3 c3, .bool b3, .slice A3' l3' c3', .bool b3']), (71, fun ww vv => vv = .agg #[.slice A1 l1 c1, .bool b1, .slice A1' l1' c1', .bool b1']), (72, fun ww vv => vv = .int .i64 (-1)), (73, fun ww vv => vv = .int .i64 1), (74, fun ww vv => vv = .int .i64 (-1)), (75, fun ww vv => vv = .bool true), (76, fun ww vv => vv = .bool true), (77, fun ww vv => vv = .bool true), (78, fun ww vv => vv = .agg #[.slice A3 l3 c3, .bool b3, .slice A3' l3' c3', .bool b3']), (79, fun ww vv => vv = .agg #[.slice A2 l2 c2, .bool b2, .slice A2' l2' c2', .bool b2']), (80, fun ww vv => vv = .int .i64 1), (81, fun ww vv => vv = .int .i64 1), (82, fun ww vv => vv = .bool true), (83, fun ww vv => vv = .bool true), (84, fun ww vv => vv = .bool true), (85, fun ww vv => vv = .agg #[.slice A3 l3 c3, .bool b3, .slice A3' l3' c3', .bool b3']), (86, fun ww vv => vv = .agg #[.slice A3 l3 c3, .bool b3, .slice A3' l3' c3', .bool b3']), (87, fun ww vv => RatB ww vv (pn) (pd) (8201)), (88, fun ww vv => vv = .agg #[.slice A1 l1 c1, .bool b1, .slice A1' l1' c1', .bool b1']), (89, fun ww vv => vv = .agg #[.slice A2 l2 c2, .bool b2, .slice A2' l2' c2', .bool b2']), (90, fun ww vv => RatB ww vv (sn) (sd) (1025)), (91, fun ww vv => vv = .int .i64 0), (92, fun ww vv => vv = .bool true), (93, fun ww vv => vv = .bool true)]) (by exact VL_mono ⟨fun _ _ _ h _ => h, fun _ _ _ h _ => h, fun _ _ _ h _ => h, fun _ _ _ h _ => h, fun _ _ _ h _ => h, fun _ _ _ h _ => h, fun _ _ _ h _ => h, fun _ _ _ h _ => h, fun _ _ _ h _ => h, fun _ _ _ h _ => h, fun _ _ _ h _ => h, fun _ _ _ h _ => h, fun _ _ _ h _ => h, fun _ _ _ h _ => h, fun _ _ _ h _ => h, fun _ _ _ h _ => h, fun _ _ _ h _ => h, fun _ _ _ h _ => h, fun _ _ _ h _ => h, fun _ _ _ h _ => h, fun _ _ _ h _ => h, fun _ _ _ h _ => h, fun _ _ _ h _ => h, fun _ _ _ h _ => h, fun _ _ _ h _ => h, fun _ _ _ h _ => h, fun _ _ _ h _ => h, fun _ _ _ h _ => h, fun _ _ _ h hn => RatB.new h hn, fun _ _ _ h _ => h, fun _ _ _ h _ => h, fun _ _ _ h hn => RatB.new h hn, fun _ _ _ h _ => h, fun _ _ _ h _ => h, fun _ _ _ h _ => h, trivial⟩) _ _ [false, false, false, false, false, false, false, false, false, false, false, false, false, false, false, false, false, false, false, false, false, false, false, false, false, false, false, false, false, false, false, false, false, false, false, false, false, false, false, false, false, false, false, false, false, false, false, false, false, false, false, false, false, false, false, false, false, false, false, true, true, true, true, true, true, true, true, true, true, true, true, true, true, true, true, true, true, true, true, true, true, true, true, true, true, true, true, true, true, true, true, true, true, true] [true, true, true, true, true, true, true, true, true, true, true, true, true, true, true, true, true, true, true, true, true, true, true, true, true, true, true, true, true, true, true, true, true, true, true, false] [false, false, false, false, false, false, false, false, false, false, false, false, false, false, false, false, false, false, false, false, false, false, false, false, false, false, false, false, false, false, false, false, false, false, false, false] [[], [59], [60], [61], [62, 61], [61], [61], [64, 65, 61], [63, 66, 61], [61, 67], [68], [69], [69], [70, 71, 69], [69], [73, 69], [72, 74, 69], [69, 75], [76], [77], [77], [78, 79, 77], [77], [80, 81, 77], [77, 82], [83], [84], [84], [85, 86, 84], [84], [84], [88, 89, 84], [87, 90, 84], [91, 84], [84, 92], []] [59, 60, 61, 62, 63, 64, 65, 66, 67, 68, 69, 70, 71, 72, 73, 74, 75, 76, 77, 78, 79, 80, 81, 82, 83, 84, 85, 86, 87, 88, 89, 90, 91, 92, 93] 1 (by kernel_rfl) rfl rfl (by kernel_rfl) (by kernel_rfl) (fun _ _ _ _ _ h => h) ⟨?o0, ?o1, ?o2, ?o3, ?o4, ?o5, ?o6, ?o7, ?o8, ?o9, ?o10, ?o11, ?o12, ?o13, ?o14, ?o15, ?o16, ?o17, ?o18, ?o19, ?o20, ?o21, ?o22, ?o23, ?o24, ?o25, ?o26, ?o27, ?o28, ?o29, ?o30, ?o31, ?o32, ?o33, ?o34, trivial⟩ ?last
      case o0 =>
        intro s w' K hn hk hK
        clear hk
        simp only [fr, fill, Nat.reduceAdd, Act.put, List.setIfInBounds_toArray, List.set_cons_zero, List.set_cons_succ] at hK ⊢
        refine ⟨true, rfl, ?_⟩
        show Oper.wp _ _ _ _ _ _
        (first | go_big_op | go_simp)
        exact hK _ _ (New.refl _) rfl
      case o1 =>
        intro s w' K hn hk hK
        have h59 : (s 59) = .int .i64 0 := hk.here
        clear hk
        simp only [fr, fill, Nat.reduceAdd, Act.put, List.setIfInBounds_toArray, List.set_cons_zero, List.set_cons_succ] at hK ⊢
        generalize s 59 = x59 at *
        subst h59
        refine ⟨true, rfl, ?_⟩
        show Oper.wp _ _ _ _ _ _
        (first | go_big_op | go_simp)
        exact hK _ _ (New.refl _) rfl
      case o2 =>
        intro s w' K hn hk hK
        have h60 : (s 60) = .bool true := hk.here
        clear hk
        simp only [fr, fill, Nat.reduceAdd, Act.put, List.setIfInBounds_toArray, List.set_cons_zero, List.set_cons_succ] at hK ⊢
        generalize s 60 = x60 at *
        subst h60
        refine ⟨true, rfl, ?_⟩
        show Oper.wp _ _ _ _ _ _
        (first | go_big_op | go_simp)
        exact hK _ _ (New.refl _) rfl
      case o3 =>
        intro s w' K hn hk hK
        have h61 : (s 61) = .bool true := hk.here
        clear hk
        simp only [fr, fill, Nat.reduceAdd, Act.put, List.setIfInBounds_toArray, List.set_cons_zero, List.set_cons_succ] at hK ⊢
        generalize s 61 = x61 at *
        subst h61
        refine ⟨true, rfl, ?_⟩
        show Oper.wp _ _ _ _ _ _
        (first | go_big_op | go_simp)
        exact hK _ _ (New.refl _) rfl
      case o4 =>
        intro s w' K hn hk hK
        have h62 : (s 62) = .int .i64 1 := hk.here
        have h61 : (s 61) = .bool true := hk.next.here
        clear hk
        simp only [fr, fill, Nat.reduceAdd, Act.put, List.setIfInBounds_toArray, List.set_cons_zero, List.set_cons_succ] at hK ⊢
        generalize s 62 = x62 at *
        generalize s 61 = x61 at *
        subst h62
        subst h61
        refine ⟨true, rfl, ?_⟩
        show Oper.wp _ _ _ _ _ _
        (first | go_big_op | go_simp)
        exact hK _ _ (New.refl _) rfl
      case o5 =>
        intro s w' K hn hk hK
        have h61 : (s 61) = .bool true := hk.here
        clear hk
        simp only [fr, fill, Nat.reduceAdd, Act.put, List.setIfInBounds_toArray, List.set_cons_zero, List.set_cons_succ] at hK ⊢
        generalize s 61 = x61 at *
        subst h61
        refine ⟨true, rfl, ?_⟩
        show Oper.wp _ _ _ _ _ _
        (first | go_big_op | go_simp)
        exact hK _ _ (New.refl _) rfl
      case o6 =>
        intro s w' K hn hk hK
        have h61 : (s 61) = .bool true := hk.here
        clear hk
        simp only [fr, fill, Nat.reduceAdd, Act.put, List.setIfInBounds_toArray, List.set_cons_zero, List.set_cons_succ] at hK ⊢
        generalize s 61 = x61 at *
        subst h61
        refine ⟨true, rfl, ?_⟩
        show Oper.wp _ _ _ _ _ _
        (first | go_big_op | go_simp)
        exact hK _ _ (New.refl _) rfl
      case o7 =>
        intro s w' K hn hk hK
        have h64 : (s 64) = .string a := hk.here
        have h65 : (s 65) = .string b := hk.next.here
        have h61 : (s 61) = .bool true := hk.next.next.here
        clear hk
        simp only [fr, fill, Nat.reduceAdd, Act.put, List.setIfInBounds_toArray, List.set_cons_zero, List.set_cons_succ] at hK ⊢
        generalize s 64 = x64 at *
        generalize s 65 = x65 at *
        generalize s 61 = x61 at *
        subst h64
        subst h65
        subst h61
        refine ⟨true, rfl, ?_⟩
        show Oper.wp _ _ _ _ _ _
        (first | go_big_op | go_simp)
        exact hK _ _ (New.refl _) rfl
      case o8 =>
        intro s w' K hn hk hK
        have h63 : (s 63) = .bool false := hk.here
        have h66 : (s 66) = .bool false := hk.next.here
        have h61 : (s 61) = .bool true := hk.next.next.here
        clear hk
        simp only [fr, fill, Nat.reduceAdd, Act.put, List.setIfInBounds_toArray, List.set_cons_zero, List.set_cons_succ] at hK ⊢
        generalize s 63 = x63 at *
        generalize s 66 = x66 at *
        generalize s 61 = x61 at *
        subst h63
        subst h66
        subst h61
        refine ⟨true, rfl, ?_⟩
        show Oper.wp _ _ _ _ _ _
        (first | go_big_op | go_simp)
        exact hK _ _ (New.refl _) rfl
      case o9 =>
        intro s w' K hn hk hK
        have h61 : (s 61) = .bool true := hk.here
        have h67 : (s 67) = .bool true := hk.next.here
        clear hk
        simp only [fr, fill, Nat.reduceAdd, Act.put, List.setIfInBounds_toArray, List.set_cons_zero, List.set_cons_succ] at hK ⊢
        generalize s 61 = x61 at *
        generalize s 67 = x67 at *
        subst h61
        subst h67
        refine ⟨true, rfl, ?_⟩
        show Oper.wp _ _ _ _ _ _
        (first | go_big_op | go_simp)
        exact hK _ _ (New.refl _) rfl
      case o10 =>
        intro s w' K hn hk hK
        have h68 : (s 68) = .bool true := hk.here
        clear hk
        simp only [fr, fill, Nat.reduceAdd, Act.put, List.setIfInBounds_toArray, List.set_cons_zero, List.set_cons_succ] at hK ⊢
        generalize s 68 = x68 at *
        subst h68
        refine ⟨true, rfl, ?_⟩
        show Oper.wp _ _ _ _ _ _
        (first | go_big_op | go_simp)
        exact hK _ _ (New.refl _) rfl
      case o11 =>
        intro s w' K hn hk hK
        have h69 : (s 69) = .bool true := hk.here
        clear hk
        simp only [fr, fill, Nat.reduceAdd, Act.put, List.setIfInBounds_toArray, List.set_cons_zero, List.set_cons_succ] at hK ⊢
        generalize s 69 = x69 at *
        subst h69
        have hc := T3.out.bx.new hn
        obtain ⟨c0, c1, c2, c3⟩ := hc.cells4
        clear hc
        refine ⟨true, rfl, ?_⟩
        show Oper.wp _ _ _ _ _ _
        (first | go_big_op | go_simp)
        exact hK _ _ (New.refl _) rfl
      case o12 =>
        intro s w' K hn hk hK
        have h69 : (s 69) = .bool true := hk.here
        clear hk
        simp only [fr, fill, Nat.reduceAdd, Act.put, List.setIfInBounds_toArray, List.set_cons_zero, List.set_cons_succ] at hK ⊢
        generalize s 69 = x69 at *
        subst h69
        have hc := T1.out.bx.new hn
        obtain ⟨c0, c1, c2, c3⟩ := hc.cells4
        clear hc
        refine ⟨true, rfl, ?_⟩
        show Oper.wp _ _ _ _ _ _
        (first | go_big_op | go_simp)
        exact hK _ _ (New.refl _) rfl
      case o13 =>
        intro s w' K hn hk hK
        have h70 : (s 70) = .agg #[.slice A3 l3 c3, .bool b3, .slice A3' l3' c3', .bool b3'] := hk.here
        have h71 : (s 71) = .agg #[.slice A1 l1 c1, .bool b1, .slice A1' l1' c1', .bool b1'] := hk.next.here
        have h69 : (s 69) = .bool true := hk.next.next.here
        clear hk
        simp only [fr, fill, Nat.reduceAdd, Act.put, List.setIfInBounds_toArray, List.set_cons_zero, List.set_cons_succ] at hK ⊢
        generalize s 70 = x70 at *
        generalize s 71 = x71 at *
        generalize s 69 = x69 at *
        subst h70
        subst h71
        subst h69
        refine ⟨true, rfl, ?_⟩
        show Oper.wp _ _ _ _ _ _
        (first | go_big_op | go_simp)
        refine (HC1.out _ _ _ (T3.out.rv.new hn) (T1.out.rv.new hn)).mono ?_
        rintro e' w'' ⟨rfl, hn'⟩
        exact hK _ _ hn' rfl
      case o14 =>
        intro s w' K hn hk hK
        have h69 : (s 69) = .bool true := hk.here
        clear hk
        simp only [fr, fill, Nat.reduceAdd, Act.put, List.setIfInBounds_toArray, List.set_cons_zero, List.set_cons_succ] at hK ⊢
        generalize s 69 = x69 at *
        subst h69
        refine ⟨true, rfl, ?_⟩
        show Oper.wp _ _ _ _ _ _
        (first | go_big_op | go_simp)
        exact hK _ _ (New.refl _) rfl
      case o15 =>
        intro s w' K hn hk hK
        have h73 : (s 73) = .int .i64 1 := hk.here
        have h69 : (s 69) = .bool true := hk.next.here
        clear hk
        simp only [fr, fill, Nat.reduceAdd, Act.put, List.setIfInBounds_toArray, List.set_cons_zero, List.set_cons_succ] at hK ⊢
        generalize s 73 = x73 at *
        generalize s 69 = x69 at *
        subst h73
        subst h69
        refine ⟨true, rfl, ?_⟩
        show Oper.wp _ _ _ _ _ _
        (first | go_big_op | go_simp)
        exact hK _ _ (New.refl _) rfl
      case o16 =>
        intro s w' K hn hk hK
        have h72 : (s 72) = .int .i64 (-1) := hk.here
        have h74 : (s 74) = .int .i64 (-1) := hk.next.here
        have h69 : (s 69) = .bool true := hk.next.next.here
        clear hk
        simp only [fr, fill, Nat.reduceAdd, Act.put, List.setIfInBounds_toArray, List.set_cons_zero, List.set_cons_succ] at hK ⊢
        generalize s 72 = x72 at *
        generalize s 74 = x74 at *
        generalize s 69 = x69 at *
        subst h72
        subst h74
        subst h69
        refine ⟨true, rfl, ?_⟩
        show Oper.wp _ _ _ _ _ _
        (first | go_big_op | go_simp)
        exact hK _ _ (New.refl _) rfl
      case o17 =>
        intro s w' K hn hk hK
        have h69 : (s 69) = .bool true := hk.here
        have h75 : (s 75) = .bool true := hk.next.here
        clear hk
        simp only [fr, fill, Nat.reduceAdd, Act.put, List.setIfInBounds_toArray, List.set_cons_zero, List.set_cons_succ] at hK ⊢
        generalize s 69 = x69 at *
        generalize s 75 = x75 at *
        subst h69
        subst h75
        refine ⟨true, rfl, ?_⟩
        show Oper.wp _ _ _ _ _ _
        (first | go_big_op | go_simp)
        exact hK _ _ (New.refl _) rfl
      case o18 =>
        intro s w' K hn hk hK
        have h76 : (s 76) = .bool true := hk.here
        clear hk
        simp only [fr, fill, Nat.reduceAdd, Act.put, List.setIfInBounds_toArray, List.set_cons_zero, List.set_cons_succ] at hK ⊢
        generalize s 76 = x76 at *
        subst h76
        refine ⟨true, rfl, ?_⟩
        show Oper.wp _ _ _ _ _ _
        (first | go_big_op | go_simp)
        exact hK _ _ (New.refl _) rfl
      case o19 =>
        intro s w' K hn hk hK
        have h77 : (s 77) = .bool true := hk.here
        clear hk
        simp only [fr, fill, Nat.reduceAdd, Act.put, List.setIfInBounds_toArray, List.set_cons_zero, List.set_cons_succ] at hK ⊢
        generalize s 77 = x77 at *
        subst h77
        have hc := T3.out.bx.new hn
        obtain ⟨c0, c1, c2, c3⟩ := hc.cells4
        clear hc
        refine ⟨true, rfl, ?_⟩
        show Oper.wp _ _ _ _ _ _
        (first | go_big_op | go_simp)
        exact hK _ _ (New.refl _) rfl
      case o20 =>
        intro s w' K hn hk hK
        have h77 : (s 77) = .bool true := hk.here
        clear hk
        simp only [fr, fill, Nat.reduceAdd, Act.put, List.setIfInBounds_toArray, List.set_cons_zero, List.set_cons_succ] at hK ⊢
        generalize s 77 = x77 at *
        subst h77
        have hc := T2.out.bx.new hn
        obtain ⟨c0, c1, c2, c3⟩ := hc.cells4
        clear hc
        refine ⟨true, rfl, ?_⟩
        show Oper.wp _ _ _ _ _ _
        (first | go_big_op | go_simp)
        exact hK _ _ (New.refl _) rfl
      case o21 =>
        intro s w' K hn hk hK
        have h78 : (s 78) = .agg #[.slice A3 l3 c3, .bool b3, .slice A3' l3' c3', .bool b3'] := hk.here
        have h79 : (s 79) = .agg #[.slice A2 l2 c2, .bool b2, .slice A2' l2' c2', .bool b2'] := hk.next.here
        have h77 : (s 77) = .bool true := hk.next.next.here
        clear hk
        simp only [fr, fill, Nat.reduceAdd, Act.put, List.setIfInBounds_toArray, List.set_cons_zero, List.set_cons_succ] at hK ⊢
        generalize s 78 = x78 at *
        generalize s 79 = x79 at *
        generalize s 77 = x77 at *
        subst h78
        subst h79
        subst h77
        refine ⟨true, rfl, ?_⟩
        show Oper.wp _ _ _ _ _ _
        (first | go_big_op | go_simp)
        refine (HC2.out _ _ _ (T3.out.rv.new hn) (T2.out.rv.new hn)).mono ?_
        rintro e' w'' ⟨rfl, hn'⟩
        exact hK _ _ hn' rfl
      case o22 =>
        intro s w' K hn hk hK
        have h77 : (s 77) = .bool true := hk.here
        clear hk
        simp only [fr, fill, Nat.reduceAdd, Act.put, List.setIfInBounds_toArray, List.set_cons_zero, List.set_cons_succ] at hK ⊢
        generalize s 77 = x77 at *
        subst h77
        refine ⟨true, rfl, ?_⟩
        show Oper.wp _ _ _ _ _ _
        (first | go_big_op | go_simp)
        exact hK _ _ (New.refl _) rfl
      case o23 =>
        intro s w' K hn hk hK
        have h80 : (s 80) = .int .i64 1 := hk.here
        have h81 : (s 81) = .int .i64 1 := hk.next.here
        have h77 : (s 77) = .bool true := hk.next.next.here
        clear hk
        simp only [fr, fill, Nat.reduceAdd, Act.put, List.setIfInBounds_toArray, List.set_cons_zero, List.set_cons_succ] at hK ⊢
        generalize s 80 = x80 at *
        generalize s 81 = x81 at *
        generalize s 77 = x77 at *
        subst h80
        subst h81
        subst h77
        refine ⟨true, rfl, ?_⟩
        show Oper.wp _ _ _ _ _ _
        (first | go_big_op | go_simp)
        exact hK _ _ (New.refl _) rfl
      case o24 =>
        intro s w' K hn hk hK
        have h77 : (s 77) = .bool true := hk.here
        have h82 : (s 82) = .bool true := hk.next.here
        clear hk
        simp only [fr, fill, Nat.reduceAdd, Act.put, List.setIfInBounds_toArray, List.set_cons_zero, List.set_cons_succ] at hK ⊢
        generalize s 77 = x77 at *
        generalize s 82 = x82 at *
        subst h77
        subst h82
        refine ⟨true, rfl, ?_⟩
        show Oper.wp _ _ _ _ _ _
        (first | go_big_op | go_simp)
        exact hK _ _ (New.refl _) rfl
      case o25 =>
        intro s w' K hn hk hK
        have h83 : (s 83) = .bool true := hk.here
        clear hk
        simp only [fr, fill, Nat.reduceAdd, Act.put, List.setIfInBounds_toArray, List.set_cons_zero, List.set_cons_succ] at hK ⊢
        generalize s 83 = x83 at *
        subst h83
        refine ⟨true, rfl, ?_⟩
        show Oper.wp _ _ _ _ _ _
        (first | go_big_op | go_simp)
        exact hK _ _ (New.refl _) rfl
      case o26 =>
        intro s w' K hn hk hK
        have h84 : (s 84) = .bool true := hk.here
        clear hk
        simp only [fr, fill, Nat.reduceAdd, Act.put, List.setIfInBounds_toArray, List.set_cons_zero, List.set_cons_succ] at hK ⊢
        generalize s 84 = x84 at *
        subst h84
        have hc := T3.out.bx.new hn
        obtain ⟨c0, c1, c2, c3⟩ := hc.cells4
        clear hc
        refine ⟨true, rfl, ?_⟩
        show Oper.wp _ _ _ _ _ _
        (first | go_big_op | go_simp)
        exact hK _ _ (New.refl _) rfl
      case o27 =>
        intro s w' K hn hk hK
        have h84 : (s 84) = .bool true := hk.here
        clear hk
        simp only [fr, fill, Nat.reduceAdd, Act.put, List.setIfInBounds_toArray, List.set_cons_zero, List.set_cons_succ] at hK ⊢
        generalize s 84 = x84 at *
        subst h84
        have hc := T3.out.bx.new hn
        obtain ⟨c0, c1, c2, c3⟩ := hc.cells4
        clear hc
        refine ⟨true, rfl, ?_⟩
        show Oper.wp _ _ _ _ _ _
        (first | go_big_op | go_simp)
        exact hK _ _ (New.refl _) rfl
      case o28 =>
        intro s w' K hn hk hK
        have h85 : (s 85) = .agg #[.slice A3 l3 c3, .bool b3, .slice A3' l3' c3', .bool b3'] := hk.here
        have h86 : (s 86) = .agg #[.slice A3 l3 c3, .bool b3, .slice A3' l3' c3', .bool b3'] := hk.next.here
        have h84 : (s 84) = .bool true := hk.next.next.here
        clear hk
        simp only [fr, fill, Nat.reduceAdd, Act.put, List.setIfInBounds_toArray, List.set_cons_zero, List.set_cons_succ] at hK ⊢
        generalize s 85 = x85 at *
        generalize s 86 = x86 at *
        generalize s 84 = x84 at *
        subst h85
        subst h86
        subst h84
        refine ⟨true, rfl, ?_⟩
        show Oper.wp _ _ _ _ _ _
        (first | go_big_op | go_simp)
        refine (HMM.out _ _ _ (T3.out.rv.new hn) (T3.out.rv.new hn)).mono ?_
        rintro e' w'' ⟨v', rfl, hv', hn'⟩
        exact hK _ _ hn' hv'
      case o29 =>
        intro s w' K hn hk hK
        have h84 : (s 84) = .bool true := hk.here
        clear hk
        simp only [fr, fill, Nat.reduceAdd, Act.put, List.setIfInBounds_toArray, List.set_cons_zero, List.set_cons_succ] at hK ⊢
        generalize s 84 = x84 at *
        subst h84
        have hc := T1.out.bx.new hn
        obtain ⟨c0, c1, c2, c3⟩ := hc.cells4
        clear hc
        refine ⟨true, rfl, ?_⟩
        show Oper.wp _ _ _ _ _ _
        (first | go_big_op | go_simp)
        exact hK _ _ (New.refl _) rfl
      case o30 =>
        intro s w' K hn hk hK
        have h84 : (s 84) = .bool true := hk.here
        clear hk
        simp only [fr, fill, Nat.reduceAdd, Act.put, List.setIfInBounds_toArray, List.set_cons_zero, List.set_cons_succ] at hK ⊢
        generalize s 84 = x84 at *
        subst h84
        have hc := T2.out.bx.new hn
        obtain ⟨c0, c1, c2, c3⟩ := hc.cells4
        clear hc
        refine ⟨true, rfl, ?_⟩
        show Oper.wp _ _ _ _ _ _
        (first | go_big_op | go_simp)
        exact hK _ _ (New.refl _) rfl
      case o31 =>
        intro s w' K hn hk hK
        have h88 : (s 88) = .agg #[.slice A1 l1 c1, .bool b1, .slice A1' l1' c1', .bool b1'] := hk.here
        have h89 : (s 89) = .agg #[.slice A2 l2 c2, .bool b2, .slice A2' l2' c2', .bool b2'] := hk.next.here
        have h84 : (s 84) = .bool true := hk.next.next.here
        clear hk
        simp only [fr, fill, Nat.reduceAdd, Act.put, List.setIfInBounds_toArray, List.set_cons_zero, List.set_cons_succ] at hK ⊢
        generalize s 88 = x88 at *
        generalize s 89 = x89 at *
        generalize s 84 = x84 at *
        subst h88
        subst h89
        subst h84
        refine ⟨true, rfl, ?_⟩
        show Oper.wp _ _ _ _ _ _
        (first | go_big_op | go_simp)
        refine (HA2.out _ _ _ (T1.out.rv.new hn) (T2.out.rv.new hn)).mono ?_
        rintro e' w'' ⟨v', rfl, hv', hn'⟩
        exact hK _ _ hn' hv'
      case o32 =>
        intro s w' K hn hk hK
        have h87 : RatB w' (s 87) (pn) (pd) (8201) := hk.here
        have h90 : RatB w' (s 90) (sn) (sd) (1025) := hk.next.here
        have h84 : (s 84) = .bool true := hk.next.next.here
        clear hk
        simp only [fr, fill, Nat.reduceAdd, Act.put, List.setIfInBounds_toArray, List.set_cons_zero, List.set_cons_succ] at hK ⊢
        generalize s 87 = x87 at *
        generalize s 90 = x90 at *
        generalize s 84 = x84 at *
        subst h84
        refine ⟨true, rfl, ?_⟩
        show Oper.wp _ _ _ _ _ _
        (first | go_big_op | go_simp)
        refine (HC3.out _ _ _ h87 h90).mono ?_
        rintro e' w'' ⟨rfl, hn'⟩
        exact hK _ _ hn' rfl
      case o33 =>
        intro s w' K hn hk hK
        have h91 : (s 91) = .int .i64 0 := hk.here
        have h84 : (s 84) = .bool true := hk.next.here
        clear hk
        simp only [fr, fill, Nat.reduceAdd, Act.put, List.setIfInBounds_toArray, List.set_cons_zero, List.set_cons_succ] at hK ⊢
        generalize s 91 = x91 at *
        generalize s 84 = x84 at *
        subst h91
        subst h84
        refine ⟨true, rfl, ?_⟩
        show Oper.wp _ _ _ _ _ _
        (first | go_big_op | go_simp)
        exact hK _ _ (New.refl _) rfl
      case o34 =>
        intro s w' K hn hk hK
        have h84 : (s 84) = .bool true := hk.here
        have h92 : (s 92) = .bool true := hk.next.here
        clear hk
        simp only [fr, fill, Nat.reduceAdd, Act.put, List.setIfInBounds_toArray, List.set_cons_zero, List.set_cons_succ] at hK ⊢
        generalize s 84 = x84 at *
        generalize s 92 = x92 at *
        subst h84
        subst h92
        refine ⟨true, rfl, ?_⟩
        show Oper.wp _ _ _ _ _ _
        (first | go_big_op | go_simp)
        exact hK _ _ (New.refl _) rfl
      case last =>
        intro s V0 hn hk
        have h59 : (s 59) = .int .i64 0 := hk.here
        have h60 : (s 60) = .bool true := hk.next.here
        have h61 : (s 61) = .bool true := hk.next.next.here
        have h62 : (s 62) = .int .i64 1 := hk.next.next.next.here
        have h63 : (s 63) = .bool false := hk.next.next.next.next.here
        have h64 : (s 64) = .string a := hk.next.next.next.next.next.here
        have h65 : (s 65) = .string b := hk.next.next.next.next.next.next.here
        have h66 : (s 66) = .bool false := hk.next.next.next.next.next.next.next.here
        have h67 : (s 67) = .bool true := hk.next.next.next.next.next.next.next.next.here
        have h68 : (s 68) = .bool true := hk.next.next.next.next.next.next.next.next.next.here
        have h69 : (s 69) = .bool true := hk.next.next.next.next.next.next.next.next.next.next.here
        have h70 : (s 70) = .agg #[.slice A3 l3 c3, .bool b3, .slice A3' l3' c3', .bool b3'] := hk.next.next.next.next.next.next.next.next.next.next.next.here
        have h71 : (s 71) = .agg #[.slice A1 l1 c1, .bool b1, .slice A1' l1' c1', .bool b1'] := hk.next.next.next.next.next.next.next.next.next.next.next.next.here
        have h72 : (s 72) = .int .i64 (-1) := hk.next.next.next.next.next.next.next.next.next.next.next.next.next.here
        have h73 : (s 73) = .int .i64 1 := hk.next.next.next.next.next.next.next.next.next.next.next.next.next.next.here
        have h74 : (s 74) = .int .i64 (-1) := hk.next.next.next.next.next.next.next.next.next.next.next.next.next.next.next.here
        have h75 : (s 75) = .bool true := hk.next.next.next.next.next.next.next.next.next.next.next.next.next.next.next.next.here
        have h76 : (s 76) = .bool true := hk.next.next.next.next.next.next.next.next.next.next.next.next.next.next.next.next.next.here
        have h77 : (s 77) = .bool true := hk.next.next.next.next.next.next.next.next.next.next.next.next.next.next.next.next.next.next.here
        have h78 : (s 78) = .agg #[.slice A3 l3 c3, .bool b3, .slice A3' l3' c3', .bool b3'] := hk.next.next.next.next.next.next.next.next.next.next.next.next.next.next.next.next.next.next.next.here
        have h79 : (s 79) = .agg #[.slice A2 l2 c2, .bool b2, .slice A2' l2' c2', .bool b2'] := hk.next.next.next.next.next.next.next.next.next.next.next.next.next.next.next.next.next.next.next.next.here
        have h80 : (s 80) = .int .i64 1 := hk.next.next.next.next.next.next.next.next.next.next.next.next.next.next.next.next.next.next.next.next.next.here
        have h81 : (s 81) = .int .i64 1 := hk.next.next.next.next.next.next.next.next.next.next.next.next.next.next.next.next.next.next.next.next.next.next.here
        have h82 : (s 82) = .bool true := hk.next.next.next.next.next.next.next.next.next.next.next.next.next.next.next.next.next.next.next.next.next.next.next.here
        have h83 : (s 83) = .bool true := hk.next.next.next.next.next.next.next.next.next.next.next.next.next.next.next.next.next.next.next.next.next.next.next.next.here
        have h84 : (s 84) = .bool true := hk.next.next.next.next.next.next.next.next.next.next.next.next.next.next.next.next.next.next.next.next.next.next.next.next.next.here
        have h85 : (s 85) = .agg #[.slice A3 l3 c3, .bool b3, .slice A3' l3' c3', .bool b3'] := hk.next.next.next.next.next.next.next.next.next.next.next.next.next.next.next.next.next.next.next.next.next.next.next.next.next.next.here
        have h86 : (s 86) = .agg #[.slice A3 l3 c3, .bool b3, .slice A3' l3' c3', .bool b3'] := hk.next.next.next.next.next.next.next.next.next.next.next.next.next.next.next.next.next.next.next.next.next.next.next.next.next.next.next.here
        have h87 : RatB V0 (s 87) (pn) (pd) (8201) := hk.next.next.next.next.next.next.next.next.next.next.next.next.next.next.next.next.next.next.next.next.next.next.next.next.next.next.next.next.here
        have h88 : (s 88) = .agg #[.slice A1 l1 c1, .bool b1, .slice A1' l1' c1', .bool b1'] := hk.next.next.next.next.next.next.next.next.next.next.next.next.next.next.next.next.next.next.next.next.next.next.next.next.next.next.next.next.next.here
        have h89 : (s 89) = .agg #[.slice A2 l2 c2, .bool b2, .slice A2' l2' c2', .bool b2'] := hk.next.next.next.next.next.next.next.next.next.next.next.next.next.next.next.next.next.next.next.next.next.next.next.next.next.next.next.next.next.next.here
        have h90 : RatB V0 (s 90) (sn) (sd) (1025) := hk.next.next.next.next.next.next.next.next.next.next.next.next.next.next.next.next.next.next.next.next.next.next.next.next.next.next.next.next.next.next.next.here
        have h91 : (s 91) = .int .i64 0 := hk.next.next.next.next.next.next.next.next.next.next.next.next.next.next.next.next.next.next.next.next.next.next.next.next.next.next.next.next.next.next.next.next.here
        have h92 : (s 92) = .bool true := hk.next.next.next.next.next.next.next.next.next.next.next.next.next.next.next.next.next.next.next.next.next.next.next.next.next.next.next.next.next.next.next.next.next.here
        have h93 : (s 93) = .bool true := hk.next.next.next.next.next.next.next.next.next.next.next.next.next.next.next.next.next.next.next.next.next.next.next.next.next.next.next.next.next.next.next.next.next.next.here
        clear hk
        simp only [fr, fill, Nat.reduceAdd, Act.put, List.setIfInBounds_toArray, List.set_cons_zero, List.set_cons_succ]
        generalize s 59 = x59 at *
        generalize s 60 = x60 at *
        generalize s 61 = x61 at *
        generalize s 62 = x62 at *
        generalize s 63 = x63 at *
        generalize s 64 = x64 at *
        generalize s 65 = x65 at *
        generalize s 66 = x66 at *
        generalize s 67 = x67 at *
        generalize s 68 = x68 at *
        generalize s 69 = x69 at *
        generalize s 70 = x70 at *
        generalize s 71 = x71 at *
        generalize s 72 = x72 at *
        generalize s 73 = x73 at *
        generalize s 74 = x74 at *
        generalize s 75 = x75 at *
        generalize s 76 = x76 at *
        generalize s 77 = x77 at *
        generalize s 78 = x78 at *
        generalize s 79 = x79 at *
        generalize s 80 = x80 at *
        generalize s 81 = x81 at *
        generalize s 82 = x82 at *
        generalize s 83 = x83 at *
        generalize s 84 = x84 at *
        generalize s 85 = x85 at *
        generalize s 86 = x86 at *
        generalize s 87 = x87 at *
        generalize s 88 = x88 at *
        generalize s 89 = x89 at *
        generalize s 90 = x90 at *
        generalize s 91 = x91 at *
        generalize s 92 = x92 at *
        generalize s 93 = x93 at *
        subst h59
        subst h60
        subst h61
        subst h62
        subst h63
        subst h64
        subst h65
        subst h66
        subst h67
        subst h68
        subst h69
        subst h70
        subst h71
        subst h72
        subst h73
        subst h74
        subst h75
        subst h76
        subst h77
        subst h78
        subst h79
        subst h80
        subst h81
        subst h82
        subst h83
        subst h84
        subst h85
        subst h86
        subst h88
        subst h89
        subst h91
        subst h92
        subst h93
        refine wpAny_chain [35] _ _ _ (by kernel_rfl) ?_
        change wpList _ _ _ [_] _ _
        have HNF := Lib.hid (HN7.out.trans hn)
        clear hn h87 h90
        refine wpList_plain rfl fun K35 hK35 => ?_
        go_simp
        refine hK35 _ _ ?_
        clear hK35
        change Exit.then _ _ .normal _ _
        simp only [Exit.then]
        go_wp2_with fail
        go_ret
        exact ⟨rfl, HNF.out⟩
end Go.Proofs.YtkjlmibleoecgaaGreatDoor
