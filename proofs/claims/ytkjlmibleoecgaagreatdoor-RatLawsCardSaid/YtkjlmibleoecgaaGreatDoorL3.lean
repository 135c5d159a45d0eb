/- The laws of 03: RatLaws, walked. (Printed by mkl3.py.) -/
import Derived.Test.YtkjlmibleoecgaaGreatDoorQw
import Derived.Test.YtkjlmibleoecgaaGreatDoorLc
namespace Go.Proofs.YtkjlmibleoecgaaGreatDoor
set_option linter.unusedSimpArgs false
set_option linter.unusedVariables false
open Go.RowKit
theorem rsg_w {w : World} {v : Value} {n d : Int} {k : Nat} (s : Int) (hz : RatB w v n d k) (hk : k ≤ 100000) (hs : sgZ n = s) :
    Calls Tryz.prog 63 #[v] w fun e w' => e = .returned (.int .i64 s) ∧ New w w' := rsg_n s hz hk hs
theorem cmp_turn (x y : Int) : cmpZ y x = -cmpZ x y := cmp_neg y x
set_option maxRecDepth 1000000 in
set_option maxHeartbeats 40000000 in
theorem ratLaws_walk (a b c : ByteArray) (w : World) (hsh : w.ShapedOpen Tryz.prog) (L : Lib.TabIs Tryz.prog w "internal/strconv.uint64pow10" .u64 Lib.pow10Tab) :
    Calls Tryz.prog 11 #[.string a, .string b, .string c] w fun e w' => e = .returned (.bool true) ∧ Below w.heap.size w w' := by
  obtain ⟨mx, hmx⟩ := maxLen_of hsh
  have HTAB := Lib.hid L
  have HMX := Lib.hid hmx
  clear L hmx hsh
  go_enter Tryz.func11, Tryz.ntmps11
  go_wp2_with fail
  have hbx := Box.last w #[.string a, .string b, .string c] 9
  refine (qlong_n [a, b, c] _ 3 3 _ rfl (fun i hi => by
    rw [hbx.cell]
    match i, hi with
    | 0, _ => rfl
    | 1, _ => rfl
    | 2, _ => rfl) hbx.lt (by decide) (by decide)).mono ?_
  rintro e w1 ⟨r, rfl, hr, hn1⟩
  have hn1' : New w w1 := ((New.refl w).alloc _).trans hn1
  clear hbx hn1
  cases r with
  | true =>
    go_wp2
    go_ret
    exact ⟨rfl, hn1'⟩
  | false =>
    have hz := hr rfl
    have ha : a.size ≤ 256 := hz a (by simp)
    have H1 := Lib.hid (fun W (hn : New w W) => qnumber_n a W ha (hn.still HMX.out) (tabIs_new hn HTAB.out))
    have hok1 := fun h => okQ_text (s := a) h
    have hb : b.size ≤ 256 := hz b (by simp)
    have H2 := Lib.hid (fun W (hn : New w W) => qnumber_n b W hb (hn.still HMX.out) (tabIs_new hn HTAB.out))
    have hok2 := fun h => okQ_text (s := b) h
    have hc : c.size ≤ 256 := hz c (by simp)
    have H3 := Lib.hid (fun W (hn : New w W) => qnumber_n c W hc (hn.still HMX.out) (tabIs_new hn HTAB.out))
    have hok3 := fun h => okQ_text (s := c) h
    generalize okQ a.data.toList = i1 at *
    generalize qN a.data.toList = n1 at *
    generalize qD a.data.toList = d1 at *
    have HOK1 := Lib.hid hok1
    generalize okQ b.data.toList = i2 at *
    generalize qN b.data.toList = n2 at *
    generalize qD b.data.toList = d2 at *
    have HOK2 := Lib.hid hok2
    generalize okQ c.data.toList = i3 at *
    generalize qN c.data.toList = n3 at *
    generalize qD c.data.toList = d3 at *
    have HOK3 := Lib.hid hok3
    have HN1 := Lib.hid hn1'
    clear hz hr hn1' ha hb hc hok1 hok2 hok3
    go_wp2_with fail
    refine (H1.out _ HN1.out).mono ?_
    rintro e w2 ⟨v, u, rfl, hv, ⟨u1, U1, ul1, uc1, u1', U1', ul1', uc1', rfl⟩, hn⟩
    obtain ⟨A1, l1, c1, A1', l1', c1', rfl⟩ := RatB.form hv
    generalize decide (n1 < 0) = b1 at *
    generalize decide (d1 < 0) = b1' at *
    have hnn := (hn.alloc (.cells #[.slice A1 l1 c1, .bool b1, .slice A1' l1' c1', .bool b1'] NRat)).alloc (.cells #[.bool u1, .slice U1 ul1 uc1, .bool u1', .slice U1' ul1' uc1'] RRat)
    have T1 := Lib.hid (QY.before hv (.cells #[.bool u1, .slice U1 ul1 uc1, .bool u1', .slice U1' ul1' uc1'] RRat))
    have HN2 := Lib.hid (HN1.out.trans hnn)
    clear hn hnn hv HN1 H1
    go_wp2_with fail
    refine (H2.out _ HN2.out).mono ?_
    rintro e w3 ⟨v, u, rfl, hv, ⟨u2, U2, ul2, uc2, u2', U2', ul2', uc2', rfl⟩, hn⟩
    obtain ⟨A2, l2, c2, A2', l2', c2', rfl⟩ := RatB.form hv
    generalize decide (n2 < 0) = b2 at *
    generalize decide (d2 < 0) = b2' at *
    have hnn := (hn.alloc (.cells #[.slice A2 l2 c2, .bool b2, .slice A2' l2' c2', .bool b2'] NRat)).alloc (.cells #[.bool u2, .slice U2 ul2 uc2, .bool u2', .slice U2' ul2' uc2'] RRat)
    have T2 := Lib.hid (QY.before hv (.cells #[.bool u2, .slice U2 ul2 uc2, .bool u2', .slice U2' ul2' uc2'] RRat))
    replace T1 := Lib.hid (T1.out.new hnn)
    have HN3 := Lib.hid (HN2.out.trans hnn)
    clear hn hnn hv HN2 H2
    go_wp2_with fail
    refine (H3.out _ HN3.out).mono ?_
    rintro e w4 ⟨v, u, rfl, hv, ⟨u3, U3, ul3, uc3, u3', U3', ul3', uc3', rfl⟩, hn⟩
    obtain ⟨A3, l3, c3, A3', l3', c3', rfl⟩ := RatB.form hv
    generalize decide (n3 < 0) = b3 at *
    generalize decide (d3 < 0) = b3' at *
    have hnn := (hn.alloc (.cells #[.slice A3 l3 c3, .bool b3, .slice A3' l3' c3', .bool b3'] NRat)).alloc (.cells #[.bool u3, .slice U3 ul3 uc3, .bool u3', .slice U3' ul3' uc3'] RRat)
    have T3 := Lib.hid (QY.before hv (.cells #[.bool u3, .slice U3 ul3 uc3, .bool u3', .slice U3' ul3' uc3'] RRat))
    replace T1 := Lib.hid (T1.out.new hnn)
    replace T2 := Lib.hid (T2.out.new hnn)
    have HN4 := Lib.hid (HN3.out.trans hnn)
    clear hn hnn hv HN3 H3
    cases i1 with
    | false => go_wp2_with fail; go_ret; exact ⟨rfl, HN4.out⟩
    | true =>
    cases i2 with
    | false => go_wp2_with fail; go_ret; exact ⟨rfl, HN4.out⟩
    | true =>
    cases i3 with
    | false => go_wp2_with fail; go_ret; exact ⟨rfl, HN4.out⟩
    | true =>
    obtain ⟨tx1, lo1⟩ := HOK1.out rfl
    have r1 := Wr.self lo1
    obtain ⟨tx2, lo2⟩ := HOK2.out rfl
    have r2 := Wr.self lo2
    obtain ⟨tx3, lo3⟩ := HOK3.out rfl
    have r3 := Wr.self lo3
    have rab := Wr.add r1 r2
    have hcab := fun W u v (h : RatB W u n1 d1 256) (h2 : RatB W v n2 d2 256) => qadd_n h h2 (by omega) (by omega)
    simp only [r1.den, r2.den] at hcab
    generalize mkN (n1 * d2 + n2 * d1) (d1 * d2) = nab at *
    generalize mkD (n1 * d2 + n2 * d1) (d1 * d2) = dab at *
    have HCab := Lib.hid hcab
    have rabb := Wr.sub rab r2
    have hcabb := fun W u v (h : RatB W u nab dab 1025) (h2 : RatB W v n2 d2 1025) => qsub_n h h2 (by omega) (by omega)
    simp only [rab.den, r2.den] at hcabb
    generalize mkN (nab * d2 - n2 * dab) (dab * d2) = nabb at *
    generalize mkD (nab * d2 - n2 * dab) (dab * d2) = dabb at *
    have HCabb := Lib.hid hcabb
    have rbc := Wr.add r2 r3
    have hcbc := fun W u v (h : RatB W u n2 d2 256) (h2 : RatB W v n3 d3 256) => qadd_n h h2 (by omega) (by omega)
    simp only [r2.den, r3.den] at hcbc
    generalize mkN (n2 * d3 + n3 * d2) (d2 * d3) = nbc at *
    generalize mkD (n2 * d3 + n3 * d2) (d2 * d3) = dbc at *
    have HCbc := Lib.hid hcbc
    have rabc := Wr.mul r1 rbc
    have hcabc := fun W u v (h : RatB W u n1 d1 1025) (h2 : RatB W v nbc dbc 1025) => qmul_n h h2 (by omega) (by omega)
    simp only [r1.den, rbc.den] at hcabc
    generalize mkN (n1 * nbc) (d1 * dbc) = nabc at *
    generalize mkD (n1 * nbc) (d1 * dbc) = dabc at *
    have HCabc := Lib.hid hcabc
    have rmab := Wr.mul r1 r2
    have hcmab := fun W u v (h : RatB W u n1 d1 256) (h2 : RatB W v n2 d2 256) => qmul_n h h2 (by omega) (by omega)
    simp only [r1.den, r2.den] at hcmab
    generalize mkN (n1 * n2) (d1 * d2) = nmab at *
    generalize mkD (n1 * n2) (d1 * d2) = dmab at *
    have HCmab := Lib.hid hcmab
    have rmac := Wr.mul r1 r3
    have hcmac := fun W u v (h : RatB W u n1 d1 256) (h2 : RatB W v n3 d3 256) => qmul_n h h2 (by omega) (by omega)
    simp only [r1.den, r3.den] at hcmac
    generalize mkN (n1 * n3) (d1 * d3) = nmac at *
    generalize mkD (n1 * n3) (d1 * d3) = dmac at *
    have HCmac := Lib.hid hcmac
    have rs2 := Wr.add rmab rmac
    have hcs2 := fun W u v (h : RatB W u nmab dmab 512) (h2 : RatB W v nmac dmac 512) => qadd_n h h2 (by omega) (by omega)
    simp only [rmab.den, rmac.den] at hcs2
    generalize mkN (nmab * dmac + nmac * dmab) (dmab * dmac) = ns2 at *
    generalize mkD (nmab * dmac + nmac * dmab) (dmab * dmac) = ds2 at *
    have HCs2 := Lib.hid hcs2
    have rt1 := Wr.add rab r3
    have hct1 := fun W u v (h : RatB W u nab dab 1025) (h2 : RatB W v n3 d3 1025) => qadd_n h h2 (by omega) (by omega)
    simp only [rab.den, r3.den] at hct1
    generalize mkN (nab * d3 + n3 * dab) (dab * d3) = nt1 at *
    generalize mkD (nab * d3 + n3 * dab) (dab * d3) = dt1 at *
    have HCt1 := Lib.hid hct1
    have rca := Wr.add r3 r1
    have hcca := fun W u v (h : RatB W u n3 d3 256) (h2 : RatB W v n1 d1 256) => qadd_n h h2 (by omega) (by omega)
    simp only [r3.den, r1.den] at hcca
    generalize mkN (n3 * d1 + n1 * d3) (d3 * d1) = nca at *
    generalize mkD (n3 * d1 + n1 * d3) (d3 * d1) = dca at *
    have HCca := Lib.hid hcca
    have rt2 := Wr.add rca r2
    have hct2 := fun W u v (h : RatB W u nca dca 1025) (h2 : RatB W v n2 d2 1025) => qadd_n h h2 (by omega) (by omega)
    simp only [rca.den, r2.den] at hct2
    generalize mkN (nca * d2 + n2 * dca) (dca * d2) = nt2 at *
    generalize mkD (nca * d2 + n2 * dca) (dca * d2) = dt2 at *
    have HCt2 := Lib.hid hct2
    have ru1 := Wr.mul rmab r3
    have hcu1 := fun W u v (h : RatB W u nmab dmab 512) (h2 : RatB W v n3 d3 512) => qmul_n h h2 (by omega) (by omega)
    simp only [rmab.den, r3.den] at hcu1
    generalize mkN (nmab * n3) (dmab * d3) = nu1 at *
    generalize mkD (nmab * n3) (dmab * d3) = du1 at *
    have HCu1 := Lib.hid hcu1
    have rmca := Wr.mul r3 r1
    have hcmca := fun W u v (h : RatB W u n3 d3 256) (h2 : RatB W v n1 d1 256) => qmul_n h h2 (by omega) (by omega)
    simp only [r3.den, r1.den] at hcmca
    generalize mkN (n3 * n1) (d3 * d1) = nmca at *
    generalize mkD (n3 * n1) (d3 * d1) = dmca at *
    have HCmca := Lib.hid hcmca
    have ru2 := Wr.mul rmca r2
    have hcu2 := fun W u v (h : RatB W u nmca dmca 512) (h2 : RatB W v n2 d2 512) => qmul_n h h2 (by omega) (by omega)
    simp only [rmca.den, r2.den] at hcu2
    generalize mkN (nmca * n2) (dmca * d2) = nu2 at *
    generalize mkD (nmca * n2) (dmca * d2) = du2 at *
    have HCu2 := Lib.hid hcu2
    have hsub := sub_sign lo1 lo2
    have rdab := Wr.sub r1 r2
    have hcdab := fun W u v (h : RatB W u n1 d1 256) (h2 : RatB W v n2 d2 256) => qsub_n h h2 (by omega) (by omega)
    simp only [r1.den, r2.den] at hcdab
    generalize mkN (n1 * d2 - n2 * d1) (d1 * d2) = ndab at *
    generalize mkD (n1 * d2 - n2 * d1) (d1 * d2) = ddab at *
    have HCdab := Lib.hid hcdab
    have eabb := Wr.text rabb r1 (by grind)
    have eabc := Wr.text rabc rs2 (by grind)
    have et1 := Wr.text rt1 rt2 (by grind)
    have eu1 := Wr.text ru1 ru2 (by grind)
    obtain ⟨tA, htA⟩ : ∃ s, ratS nabc dabc = s := ⟨_, rfl⟩
    obtain ⟨tB, htB⟩ : ∃ s, ratS nt1 dt1 = s := ⟨_, rfl⟩
    obtain ⟨tC, htC⟩ : ∃ s, ratS nu1 du1 = s := ⟨_, rfl⟩
    obtain ⟨cc, hcc⟩ : ∃ cc, cmpZ (n1 * d2) (n2 * d1) = cc := ⟨_, rfl⟩
    have hcv := cmp_vals (n1 * d2) (n2 * d1)
    have htn := cmp_turn (n1 * d2) (n2 * d1)
    rw [hcc] at hcv htn hsub
    have HX1 := Lib.hid (fun W v (h : RatB W v nabb dabb 4101) (hn : New w W) => qtext_w a h (by omega) (by omega) (tabIs_new hn HTAB.out) (eabb.trans tx1))
    have HX2 := Lib.hid (fun W v (h : RatB W v nabc dabc 2050) (hn : New w W) => qtext_w tA h (by omega) (by omega) (tabIs_new hn HTAB.out) htA)
    have HX3 := Lib.hid (fun W v (h : RatB W v ns2 ds2 2049) (hn : New w W) => qtext_w tA h (by omega) (by omega) (tabIs_new hn HTAB.out) (eabc.symm.trans htA))
    have HX4 := Lib.hid (fun W v (h : RatB W v nt1 dt1 4101) (hn : New w W) => qtext_w tB h (by omega) (by omega) (tabIs_new hn HTAB.out) htB)
    have HX5 := Lib.hid (fun W v (h : RatB W v nt2 dt2 4101) (hn : New w W) => qtext_w tB h (by omega) (by omega) (tabIs_new hn HTAB.out) (et1.symm.trans htB))
    have HX6 := Lib.hid (fun W v (h : RatB W v nu1 du1 1024) (hn : New w W) => qtext_w tC h (by omega) (by omega) (tabIs_new hn HTAB.out) htC)
    have HX7 := Lib.hid (fun W v (h : RatB W v nu2 du2 1024) (hn : New w W) => qtext_w tC h (by omega) (by omega) (tabIs_new hn HTAB.out) (eu1.symm.trans htC))
    have HK1 := Lib.hid (fun W u v (h : RatB W u n1 d1 256) (h2 : RatB W v n2 d2 256) => qcmp_w cc h h2 (by omega) (by omega) (by rw [r1.den, r2.den]; exact hcc))
    have HK2 := Lib.hid (fun W u v (h : RatB W u n2 d2 256) (h2 : RatB W v n1 d1 256) => qcmp_w (-cc) h h2 (by omega) (by omega) (by rw [r1.den, r2.den]; exact htn))
    have HSG := Lib.hid (fun W v (h : RatB W v ndab ddab 1025) => rsg_w cc h (by omega) hsub)
    have HQ := fun W u v (h : RatB W u n1 d1 256) (h2 : RatB W v n2 d2 256) => qdiv_n h h2 (by omega) (by omega)
    simp only [r1.den, r2.den] at HQ
    clear rab hcab rabb hcabb rbc hcbc rabc hcabc rmab hcmab rmac hcmac rs2 hcs2 rt1 hct1 rca hcca rt2 hct2 ru1 hcu1 rmca hcmca ru2 hcu2 rdab hcdab eabb eabc et1 eu1 htA htB htC hcc htn hsub HOK1 HOK2 HOK3 HMX r3
    by_cases h0 : n2 = 0
    · have hdv : divI (d1 * n2) = 12 := by rw [h0, Int.mul_zero]; rfl
      have hsg : sgZ n2 = 0 := by rw [h0]; rfl
      simp only [hdv] at HQ
      have HSB := Lib.hid (fun W v (h : RatB W v n2 d2 256) => rsg_w 0 h (by omega) hsg)
      generalize mkN (n1 * d2) (d1 * n2) = qn at *
      generalize mkD (n1 * d2) (d1 * n2) = qd at *
      have HQD := Lib.hid HQ
      clear HQ hdv hsg h0 r1 r2 lo1 lo2 lo3 tx1 tx2 tx3
      obtain ⟨x0, x1, x2, x3⟩ := T1.out.bx.cells4
      obtain ⟨y0, y1, y2, y3⟩ := T2.out.bx.cells4
      go_wp2_with fail
      refine (HQD.out _ _ _ T1.out.rv T2.out.rv).mono ?_
      rintro e w5 ⟨v5, rfl, hv, hn⟩
      obtain ⟨A4, l4, c4, A4', l4', c4', rfl⟩ := RatB.form hv
      generalize decide (qn < 0) = b4 at *
      generalize decide (qd < 0) = b4' at *
      have T4 := Lib.hid (QY.last hv)
      have hnn := hn.alloc (.cells #[.slice A4 l4 c4, .bool b4, .slice A4' l4' c4', .bool b4'] NRat)
      replace T1 := Lib.hid (T1.out.new hnn)
      replace T2 := Lib.hid (T2.out.new hnn)
      replace T3 := Lib.hid (T3.out.new hnn)
      have HN5 := Lib.hid (HN4.out.trans hnn)
      clear hv hn hnn HN4 x0 x1 x2 x3 y0 y1 y2 y3
      obtain ⟨y0, y1, y2, y3⟩ := T2.out.bx.cells4
      go_wp2_with fail
      refine (HSB.out _ _ T2.out.rv).mono ?_
      rintro e w6 ⟨rfl, hn⟩
      have hnn := hn
      replace T1 := Lib.hid (T1.out.new hnn)
      replace T2 := Lib.hid (T2.out.new hnn)
      replace T3 := Lib.hid (T3.out.new hnn)
      replace T4 := Lib.hid (T4.out.new hnn)
      have HN6 := Lib.hid (HN5.out.trans hnn)
      clear hn hnn HN5 y0 y1 y2 y3
      clear T4
      go_wp2_with fail
      generalize w2.heap.size = p1 at *
      generalize w3.heap.size = p2 at *
      generalize w4.heap.size = p3 at *
      have hwr : IntKind.i64.wrap cc = cc := by rcases hcv with h | h | h <;> rw [h] <;> decide +kernel
      have hwr2 : IntKind.i64.wrap (- -cc) = cc := by rw [Int.neg_neg]; exact hwr
      have hwr3 : wrap64 cc = cc := by rcases hcv with h | h | h <;> rw [h] <;> decide +kernel
      clear hcv
      refine wp_region_rel (by kernel_rfl) (VL [(93, fun ww vv => vv = .agg #[.slice A1 l1 c1, .bool b1, .slice A1' l1' c1', .bool b1']), (94, fun ww vv => vv = .agg #[.slice A2 l2 c2, .bool b2, .slice A2' l2' c2', .bool b2']), (95, fun ww vv => RatB ww vv nab dab 1025), (96, fun ww vv => vv = .agg #[.slice A2 l2 c2, .bool b2, .slice A2' l2' c2', .bool b2']), (97, fun ww vv => RatB ww vv nabb dabb 4101), (98, fun ww vv => vv = .string a), (99, fun ww vv => vv = .string a), (100, fun ww vv => vv = .bool true), (101, fun ww vv => vv = .bool true), (102, fun ww vv => vv = .agg #[.slice A1 l1 c1, .bool b1, .slice A1' l1' c1', .bool b1']), (103, fun ww vv => vv = .agg #[.slice A2 l2 c2, .bool b2, .slice A2' l2' c2', .bool b2']), (104, fun ww vv => vv = .agg #[.slice A3 l3 c3, .bool b3, .slice A3' l3' c3', .bool b3']), (105, fun ww vv => RatB ww vv nbc dbc 1025), (106, fun ww vv => RatB ww vv nabc dabc 2050), (107, fun ww vv => vv = .string tA), (108, fun ww vv => vv = .agg #[.slice A1 l1 c1, .bool b1, .slice A1' l1' c1', .bool b1']), (109, fun ww vv => vv = .agg #[.slice A2 l2 c2, .bool b2, .slice A2' l2' c2', .bool b2']), (110, fun ww vv => RatB ww vv nmab dmab 512), (111, fun ww vv => vv = .agg #[.slice A1 l1 c1, .bool b1, .slice A1' l1' c1', .bool b1']), (112, fun ww vv => vv = .agg #[.slice A3 l3 c3, .bool b3, .slice A3' l3' c3', .bool b3']), (113, fun ww vv => RatB ww vv nmac dmac 512), (114, fun ww vv => RatB ww vv ns2 ds2 2049), (115, fun ww vv => vv = .string tA), (116, fun ww vv => vv = .bool true), (117, fun ww vv => vv = .bool true), (118, fun ww vv => vv = .bool true), (119, fun ww vv => vv = .agg #[.slice A1 l1 c1, .bool b1, .slice A1' l1' c1', .bool b1']), (120, fun ww vv => vv = .agg #[.slice A2 l2 c2, .bool b2, .slice A2' l2' c2', .bool b2']), (121, fun ww vv => RatB ww vv nab dab 1025), (122, fun ww vv => vv = .agg #[.slice A3 l3 c3, .bool b3, .slice A3' l3' c3', .bool b3']), (123, fun ww vv => RatB ww vv nt1 dt1 4101), (124, fun ww vv => vv = .string tB), (125, fun ww vv => vv = .agg #[.slice A3 l3 c3, .bool b3, .slice A3' l3' c3', .bool b3']), (126, fun ww vv => vv = .agg #[.slice A1 l1 c1, .bool b1, .slice A1' l1' c1', .bool b1']), (127, fun ww vv => RatB ww vv nca dca 1025), (128, fun ww vv => vv = .agg #[.slice A2 l2 c2, .bool b2, .slice A2' l2' c2', .bool b2']), (129, fun ww vv => RatB ww vv nt2 dt2 4101), (130, fun ww vv => vv = .string tB), (131, fun ww vv => vv = .bool true), (132, fun ww vv => vv = .bool true), (133, fun ww vv => vv = .bool true), (134, fun ww vv => vv = .agg #[.slice A1 l1 c1, .bool b1, .slice A1' l1' c1', .bool b1']), (135, fun ww vv => vv = .agg #[.slice A2 l2 c2, .bool b2, .slice A2' l2' c2', .bool b2']), (136, fun ww vv => RatB ww vv nmab dmab 512), (137, fun ww vv => vv = .agg #[.slice A3 l3 c3, .bool b3, .slice A3' l3' c3', .bool b3']), (138, fun ww vv => RatB ww vv nu1 du1 1024), (139, fun ww vv => vv = .string tC), (140, fun ww vv => vv = .agg #[.slice A3 l3 c3, .bool b3, .slice A3' l3' c3', .bool b3']), (141, fun ww vv => vv = .agg #[.slice A1 l1 c1, .bool b1, .slice A1' l1' c1', .bool b1']), (142, fun ww vv => RatB ww vv nmca dmca 512), (143, fun ww vv => vv = .agg #[.slice A2 l2 c2, .bool b2, .slice A2' l2' c2', .bool b2']), (144, fun ww vv => RatB ww vv nu2 du2 1024), (145, fun ww vv => vv = .string tC), (146, fun ww vv => vv = .bool true), (147, fun ww vv => vv = .bool true), (148, fun ww vv => vv = .bool true), (149, fun ww vv => vv = .agg #[.slice A1 l1 c1, .bool b1, .slice A1' l1' c1', .bool b1']), (150, fun ww vv => vv = .agg #[.slice A2 l2 c2, .bool b2, .slice A2' l2' c2', .bool b2']), (151, fun ww vv => vv = .int .i64 cc), (152, fun ww vv => vv = .agg #[.slice A2 l2 c2, .bool b2, .slice A2' l2' c2', .bool b2']), (153, fun ww vv => vv = .agg #[.slice A1 l1 c1, .bool b1, .slice A1' l1' c1', .bool b1']), (154, fun ww vv => vv = .int .i64 (-cc)), (155, fun ww vv => vv = .int .i64 cc), (156, fun ww vv => vv = .bool true), (157, fun ww vv => vv = .bool true), (158, fun ww vv => vv = .bool true), (159, fun ww vv => vv = .agg #[.slice A1 l1 c1, .bool b1, .slice A1' l1' c1', .bool b1']), (160, fun ww vv => vv = .agg #[.slice A2 l2 c2, .bool b2, .slice A2' l2' c2', .bool b2']), (161, fun ww vv => RatB ww vv ndab ddab 1025), (162, fun ww vv => vv = .int .i64 cc), (163, fun ww vv => vv = .agg #[.slice A1 l1 c1, .bool b1, .slice A1' l1' c1', .bool b1']), (164, fun ww vv => vv = .agg #[.slice A2 l2 c2, .bool b2, .slice A2' l2' c2', .bool b2']), (165, fun ww vv => vv = .int .i64 cc), (166, fun ww vv => vv = .bool true), (167, fun ww vv => vv = .bool true)]) (by exact VL_mono ⟨fun _ _ _ h _ => h, fun _ _ _ h _ => h, fun _ _ _ h hn => RatB.new h hn, fun _ _ _ h _ => h, fun _ _ _ h hn => RatB.new h hn, fun _ _ _ h _ => h, fun _ _ _ h _ => h, fun _ _ _ h _ => h, fun _ _ _ h _ => h, fun _ _ _ h _ => h, fun _ _ _ h _ => h, fun _ _ _ h _ => h, fun _ _ _ h hn => RatB.new h hn, fun _ _ _ h hn => RatB.new h hn, fun _ _ _ h _ => h, fun _ _ _ h _ => h, fun _ _ _ h _ => h, fun _ _ _ h hn => RatB.new h hn, fun _ _ _ h _ => h, fun _ _ _ h _ => h, fun _ _ _ h hn => RatB.new h hn, fun _ _ _ h hn => RatB.new h hn, fun _ _ _ h _ => h, fun _ _ _ h _ => h, fun _ _ _ h _ => h, fun _ _ _ h _ => h, fun _ _ _ h _ => h, fun _ _ _ h _ => h, fun _ _ _ h hn => RatB.new h hn, fun _ _ _ h _ => h, fun _ _ _ h hn => RatB.new h hn, fun _ _ _ h _ => h, fun _ _ _ h _ => h, fun _ _ _ h _ => h, fun _ _ _ h hn => RatB.new h hn, fun _ _ _ h _ => h, fun _ _ _ h hn => RatB.new h hn, fun _ _ _ h _ => h, fun _ _ _ h _ => h, fun _ _ _ h _ => h, fun _ _ _ h _ => h, fun _ _ _ h _ => h, fun _ _ _ h _ => h, fun _ _ _ h hn => RatB.new h hn, fun _ _ _ h _ => h, fun _ _ _ h hn => RatB.new h hn, fun _ _ _ h _ => h, fun _ _ _ h _ => h, fun _ _ _ h _ => h, fun _ _ _ h hn => RatB.new h hn, fun _ _ _ h _ => h, fun _ _ _ h hn => RatB.new h hn, fun _ _ _ h _ => h, fun _ _ _ h _ => h, fun _ _ _ h _ => h, fun _ _ _ h _ => h, fun _ _ _ h _ => h, fun _ _ _ h _ => h, fun _ _ _ h _ => h, fun _ _ _ h _ => h, fun _ _ _ h _ => h, fun _ _ _ h _ => h, fun _ _ _ h _ => h, fun _ _ _ h _ => h, fun _ _ _ h _ => h, fun _ _ _ h _ => h, fun _ _ _ h _ => h, fun _ _ _ h _ => h, fun _ _ _ h hn => RatB.new h hn, fun _ _ _ h _ => h, fun _ _ _ h _ => h, fun _ _ _ h _ => h, fun _ _ _ h _ => h, fun _ _ _ h _ => h, fun _ _ _ h _ => h, trivial⟩) _ _ [false, false, false, false, false, false, false, false, false, false, false, false, false, false, false, false, false, false, false, false, false, false, false, false, false, false, false, false, false, false, false, false, false, false, false, false, false, false, false, false, false, false, false, false, false, false, false, false, false, false, false, false, false, false, false, false, false, false, false, false, false, false, false, false, false, false, false, false, false, false, false, false, false, false, false, false, false, false, false, false, false, false, false, false, false, false, false, false, false, false, false, false, false, true, true, true, true, true, true, true, true, true, true, true, true, true, true, true, true, true, true, true, true, true, true, true, true, true, true, true, true, true, true, true, true, true, true, true, true, true, true, true, true, true, true, true, true, true, true, true, true, true, true, true, true, true, true, true, true, true, true, true, true, true, true, true, true, true, true, true, true, true, true, true, true, true, true, true] [true, true, true, true, true, true, true, true, true, true, true, true, true, true, true, true, true, true, true, true, true, true, true, true, true, true, true, true, true, true, true, true, true, true, true, true, true, true, true, true, true, true, true, true, true, true, true, true, true, true, true, true, true, true, true, true, true, true, true, true, true, true, true, true, true, true, true, true, true, true, true, true, true, true, true, false] [false, false, false, false, false, false, false, false, false, false, false, false, false, false, false, false, false, false, false, false, false, false, false, false, false, false, false, false, false, false, false, false, false, false, false, false, false, false, false, false, false, false, false, false, false, false, false, false, false, false, false, false, false, false, false, false, false, false, false, false, false, false, false, false, false, false, false, false, false, false, false, false, false, false, false, false] [[], [], [93, 94], [], [95, 96], [97], [], [98, 99], [100], [101], [101], [101], [103, 104, 101], [102, 105, 101], [106, 101], [101], [101], [108, 109, 101], [101], [101], [111, 112, 101], [110, 113, 101], [114, 101], [107, 115, 101], [101, 116], [117], [118], [118], [119, 120, 118], [118], [121, 122, 118], [123, 118], [118], [118], [125, 126, 118], [118], [127, 128, 118], [129, 118], [124, 130, 118], [118, 131], [132], [133], [133], [134, 135, 133], [133], [136, 137, 133], [138, 133], [133], [133], [140, 141, 133], [133], [142, 143, 133], [144, 133], [139, 145, 133], [133, 146], [147], [148], [148], [149, 150, 148], [148], [148], [152, 153, 148], [154, 148], [151, 155, 148], [148, 156], [157], [158], [158], [159, 160, 158], [161, 158], [158], [158], [163, 164, 158], [162, 165, 158], [158, 166], []] [93, 94, 95, 96, 97, 98, 99, 100, 101, 102, 103, 104, 105, 106, 107, 108, 109, 110, 111, 112, 113, 114, 115, 116, 117, 118, 119, 120, 121, 122, 123, 124, 125, 126, 127, 128, 129, 130, 131, 132, 133, 134, 135, 136, 137, 138, 139, 140, 141, 142, 143, 144, 145, 146, 147, 148, 149, 150, 151, 152, 153, 154, 155, 156, 157, 158, 159, 160, 161, 162, 163, 164, 165, 166, 167] 1 (by kernel_rfl) rfl rfl (by kernel_rfl) (by kernel_rfl) (fun _ _ _ _ _ h => h) ⟨?o0, ?o1, ?o2, ?o3, ?o4, ?o5, ?o6, ?o7, ?o8, ?o9, ?o10, ?o11, ?o12, ?o13, ?o14, ?o15, ?o16, ?o17, ?o18, ?o19, ?o20, ?o21, ?o22, ?o23, ?o24, ?o25, ?o26, ?o27, ?o28, ?o29, ?o30, ?o31, ?o32, ?o33, ?o34, ?o35, ?o36, ?o37, ?o38, ?o39, ?o40, ?o41, ?o42, ?o43, ?o44, ?o45, ?o46, ?o47, ?o48, ?o49, ?o50, ?o51, ?o52, ?o53, ?o54, ?o55, ?o56, ?o57, ?o58, ?o59, ?o60, ?o61, ?o62, ?o63, ?o64, ?o65, ?o66, ?o67, ?o68, ?o69, ?o70, ?o71, ?o72, ?o73, ?o74, trivial⟩ ?last
      case o0 =>
        intro s w' K hn hk hK
        clear hk
        simp only [fr, fill, Nat.reduceAdd, Act.put, List.setIfInBounds_toArray, List.set_cons_zero, List.set_cons_succ] at hK ⊢
        have hc := T1.out.bx.new hn
        obtain ⟨c0, c1, c2, c3⟩ := hc.cells4
        clear hc
        refine ⟨true, rfl, ?_⟩
        show Oper.wp _ _ _ _ _ _
        (first | go_big_op | go_simp)
        exact hK _ _ (New.refl _) rfl
      case o1 =>
        intro s w' K hn hk hK
        clear hk
        simp only [fr, fill, Nat.reduceAdd, Act.put, List.setIfInBounds_toArray, List.set_cons_zero, List.set_cons_succ] at hK ⊢
        have hc := T2.out.bx.new hn
        obtain ⟨c0, c1, c2, c3⟩ := hc.cells4
        clear hc
        refine ⟨true, rfl, ?_⟩
        show Oper.wp _ _ _ _ _ _
        (first | go_big_op | go_simp)
        exact hK _ _ (New.refl _) rfl
      case o2 =>
        intro s w' K hn hk hK
        have h93 : (s 93) = .agg #[.slice A1 l1 c1, .bool b1, .slice A1' l1' c1', .bool b1'] := hk.here
        have h94 : (s 94) = .agg #[.slice A2 l2 c2, .bool b2, .slice A2' l2' c2', .bool b2'] := hk.next.here
        clear hk
        simp only [fr, fill, Nat.reduceAdd, Act.put, List.setIfInBounds_toArray, List.set_cons_zero, List.set_cons_succ] at hK ⊢
        generalize s 93 = x93 at *
        generalize s 94 = x94 at *
        subst h93
        subst h94
        refine ⟨true, rfl, ?_⟩
        show Oper.wp _ _ _ _ _ _
        (first | go_big_op | go_simp)
        refine (HCab.out _ _ _ (T1.out.rv.new hn) (T2.out.rv.new hn)).mono ?_
        rintro e' w'' ⟨v', rfl, hv', hn'⟩
        exact hK _ _ hn' hv'
      case o3 =>
        intro s w' K hn hk hK
        clear hk
        simp only [fr, fill, Nat.reduceAdd, Act.put, List.setIfInBounds_toArray, List.set_cons_zero, List.set_cons_succ] at hK ⊢
        have hc := T2.out.bx.new hn
        obtain ⟨c0, c1, c2, c3⟩ := hc.cells4
        clear hc
        refine ⟨true, rfl, ?_⟩
        show Oper.wp _ _ _ _ _ _
        (first | go_big_op | go_simp)
        exact hK _ _ (New.refl _) rfl
      case o4 =>
        intro s w' K hn hk hK
        have h95 : RatB w' (s 95) nab dab 1025 := hk.here
        have h96 : (s 96) = .agg #[.slice A2 l2 c2, .bool b2, .slice A2' l2' c2', .bool b2'] := hk.next.here
        clear hk
        simp only [fr, fill, Nat.reduceAdd, Act.put, List.setIfInBounds_toArray, List.set_cons_zero, List.set_cons_succ] at hK ⊢
        generalize s 95 = x95 at *
        generalize s 96 = x96 at *
        subst h96
        refine ⟨true, rfl, ?_⟩
        show Oper.wp _ _ _ _ _ _
        (first | go_big_op | go_simp)
        refine (HCabb.out _ _ _ h95 (RatB.more (T2.out.rv.new hn) (by omega))).mono ?_
        rintro e' w'' ⟨v', rfl, hv', hn'⟩
        exact hK _ _ hn' hv'
      case o5 =>
        intro s w' K hn hk hK
        have h97 : RatB w' (s 97) nabb dabb 4101 := hk.here
        clear hk
        simp only [fr, fill, Nat.reduceAdd, Act.put, List.setIfInBounds_toArray, List.set_cons_zero, List.set_cons_succ] at hK ⊢
        generalize s 97 = x97 at *
        refine ⟨true, rfl, ?_⟩
        show Oper.wp _ _ _ _ _ _
        (first | go_big_op | go_simp)
        refine (HX1.out _ _ h97 (HN6.out.trans hn)).mono ?_
        rintro e' w'' ⟨rfl, hn'⟩
        exact hK _ _ hn' rfl
      case o6 =>
        intro s w' K hn hk hK
        clear hk
        simp only [fr, fill, Nat.reduceAdd, Act.put, List.setIfInBounds_toArray, List.set_cons_zero, List.set_cons_succ] at hK ⊢
        refine ⟨true, rfl, ?_⟩
        show Oper.wp _ _ _ _ _ _
        (first | go_big_op | go_simp)
        exact hK _ _ (New.refl _) rfl
      case o7 =>
        intro s w' K hn hk hK
        have h98 : (s 98) = .string a := hk.here
        have h99 : (s 99) = .string a := hk.next.here
        clear hk
        simp only [fr, fill, Nat.reduceAdd, Act.put, List.setIfInBounds_toArray, List.set_cons_zero, List.set_cons_succ] at hK ⊢
        generalize s 98 = x98 at *
        generalize s 99 = x99 at *
        subst h98
        subst h99
        refine ⟨true, rfl, ?_⟩
        show Oper.wp _ _ _ _ _ _
        (first | go_big_op | go_simp)
        exact hK _ _ (New.refl _) rfl
      case o8 =>
        intro s w' K hn hk hK
        have h100 : (s 100) = .bool true := hk.here
        clear hk
        simp only [fr, fill, Nat.reduceAdd, Act.put, List.setIfInBounds_toArray, List.set_cons_zero, List.set_cons_succ] at hK ⊢
        generalize s 100 = x100 at *
        subst h100
        refine ⟨true, rfl, ?_⟩
        show Oper.wp _ _ _ _ _ _
        (first | go_big_op | go_simp)
        exact hK _ _ (New.refl _) rfl
      case o9 =>
        intro s w' K hn hk hK
        have h101 : (s 101) = .bool true := hk.here
        clear hk
        simp only [fr, fill, Nat.reduceAdd, Act.put, List.setIfInBounds_toArray, List.set_cons_zero, List.set_cons_succ] at hK ⊢
        generalize s 101 = x101 at *
        subst h101
        have hc := T1.out.bx.new hn
        obtain ⟨c0, c1, c2, c3⟩ := hc.cells4
        clear hc
        refine ⟨true, rfl, ?_⟩
        show Oper.wp _ _ _ _ _ _
        (first | go_big_op | go_simp)
        exact hK _ _ (New.refl _) rfl
      case o10 =>
        intro s w' K hn hk hK
        have h101 : (s 101) = .bool true := hk.here
        clear hk
        simp only [fr, fill, Nat.reduceAdd, Act.put, List.setIfInBounds_toArray, List.set_cons_zero, List.set_cons_succ] at hK ⊢
        generalize s 101 = x101 at *
        subst h101
        have hc := T2.out.bx.new hn
        obtain ⟨c0, c1, c2, c3⟩ := hc.cells4
        clear hc
        refine ⟨true, rfl, ?_⟩
        show Oper.wp _ _ _ _ _ _
        (first | go_big_op | go_simp)
        exact hK _ _ (New.refl _) rfl
      case o11 =>
        intro s w' K hn hk hK
        have h101 : (s 101) = .bool true := hk.here
        clear hk
        simp only [fr, fill, Nat.reduceAdd, Act.put, List.setIfInBounds_toArray, List.set_cons_zero, List.set_cons_succ] at hK ⊢
        generalize s 101 = x101 at *
        subst h101
        have hc := T3.out.bx.new hn
        obtain ⟨c0, c1, c2, c3⟩ := hc.cells4
        clear hc
        refine ⟨true, rfl, ?_⟩
        show Oper.wp _ _ _ _ _ _
        (first | go_big_op | go_simp)
        exact hK _ _ (New.refl _) rfl
      case o12 =>
        intro s w' K hn hk hK
        have h103 : (s 103) = .agg #[.slice A2 l2 c2, .bool b2, .slice A2' l2' c2', .bool b2'] := hk.here
        have h104 : (s 104) = .agg #[.slice A3 l3 c3, .bool b3, .slice A3' l3' c3', .bool b3'] := hk.next.here
        have h101 : (s 101) = .bool true := hk.next.next.here
        clear hk
        simp only [fr, fill, Nat.reduceAdd, Act.put, List.setIfInBounds_toArray, List.set_cons_zero, List.set_cons_succ] at hK ⊢
        generalize s 103 = x103 at *
        generalize s 104 = x104 at *
        generalize s 101 = x101 at *
        subst h103
        subst h104
        subst h101
        refine ⟨true, rfl, ?_⟩
        show Oper.wp _ _ _ _ _ _
        (first | go_big_op | go_simp)
        refine (HCbc.out _ _ _ (T2.out.rv.new hn) (T3.out.rv.new hn)).mono ?_
        rintro e' w'' ⟨v', rfl, hv', hn'⟩
        exact hK _ _ hn' hv'
      case o13 =>
        intro s w' K hn hk hK
        have h102 : (s 102) = .agg #[.slice A1 l1 c1, .bool b1, .slice A1' l1' c1', .bool b1'] := hk.here
        have h105 : RatB w' (s 105) nbc dbc 1025 := hk.next.here
        have h101 : (s 101) = .bool true := hk.next.next.here
        clear hk
        simp only [fr, fill, Nat.reduceAdd, Act.put, List.setIfInBounds_toArray, List.set_cons_zero, List.set_cons_succ] at hK ⊢
        generalize s 102 = x102 at *
        generalize s 105 = x105 at *
        generalize s 101 = x101 at *
        subst h102
        subst h101
        refine ⟨true, rfl, ?_⟩
        show Oper.wp _ _ _ _ _ _
        (first | go_big_op | go_simp)
        refine (HCabc.out _ _ _ (RatB.more (T1.out.rv.new hn) (by omega)) h105).mono ?_
        rintro e' w'' ⟨v', rfl, hv', hn'⟩
        exact hK _ _ hn' hv'
      case o14 =>
        intro s w' K hn hk hK
        have h106 : RatB w' (s 106) nabc dabc 2050 := hk.here
        have h101 : (s 101) = .bool true := hk.next.here
        clear hk
        simp only [fr, fill, Nat.reduceAdd, Act.put, List.setIfInBounds_toArray, List.set_cons_zero, List.set_cons_succ] at hK ⊢
        generalize s 106 = x106 at *
        generalize s 101 = x101 at *
        subst h101
        refine ⟨true, rfl, ?_⟩
        show Oper.wp _ _ _ _ _ _
        (first | go_big_op | go_simp)
        refine (HX2.out _ _ h106 (HN6.out.trans hn)).mono ?_
        rintro e' w'' ⟨rfl, hn'⟩
        exact hK _ _ hn' rfl
      case o15 =>
        intro s w' K hn hk hK
        have h101 : (s 101) = .bool true := hk.here
        clear hk
        simp only [fr, fill, Nat.reduceAdd, Act.put, List.setIfInBounds_toArray, List.set_cons_zero, List.set_cons_succ] at hK ⊢
        generalize s 101 = x101 at *
        subst h101
        have hc := T1.out.bx.new hn
        obtain ⟨c0, c1, c2, c3⟩ := hc.cells4
        clear hc
        refine ⟨true, rfl, ?_⟩
        show Oper.wp _ _ _ _ _ _
        (first | go_big_op | go_simp)
        exact hK _ _ (New.refl _) rfl
      case o16 =>
        intro s w' K hn hk hK
        have h101 : (s 101) = .bool true := hk.here
        clear hk
        simp only [fr, fill, Nat.reduceAdd, Act.put, List.setIfInBounds_toArray, List.set_cons_zero, List.set_cons_succ] at hK ⊢
        generalize s 101 = x101 at *
        subst h101
        have hc := T2.out.bx.new hn
        obtain ⟨c0, c1, c2, c3⟩ := hc.cells4
        clear hc
        refine ⟨true, rfl, ?_⟩
        show Oper.wp _ _ _ _ _ _
        (first | go_big_op | go_simp)
        exact hK _ _ (New.refl _) rfl
      case o17 =>
        intro s w' K hn hk hK
        have h108 : (s 108) = .agg #[.slice A1 l1 c1, .bool b1, .slice A1' l1' c1', .bool b1'] := hk.here
        have h109 : (s 109) = .agg #[.slice A2 l2 c2, .bool b2, .slice A2' l2' c2', .bool b2'] := hk.next.here
        have h101 : (s 101) = .bool true := hk.next.next.here
        clear hk
        simp only [fr, fill, Nat.reduceAdd, Act.put, List.setIfInBounds_toArray, List.set_cons_zero, List.set_cons_succ] at hK ⊢
        generalize s 108 = x108 at *
        generalize s 109 = x109 at *
        generalize s 101 = x101 at *
        subst h108
        subst h109
        subst h101
        refine ⟨true, rfl, ?_⟩
        show Oper.wp _ _ _ _ _ _
        (first | go_big_op | go_simp)
        refine (HCmab.out _ _ _ (T1.out.rv.new hn) (T2.out.rv.new hn)).mono ?_
        rintro e' w'' ⟨v', rfl, hv', hn'⟩
        exact hK _ _ hn' hv'
      case o18 =>
        intro s w' K hn hk hK
        have h101 : (s 101) = .bool true := hk.here
        clear hk
        simp only [fr, fill, Nat.reduceAdd, Act.put, List.setIfInBounds_toArray, List.set_cons_zero, List.set_cons_succ] at hK ⊢
        generalize s 101 = x101 at *
        subst h101
        have hc := T1.out.bx.new hn
        obtain ⟨c0, c1, c2, c3⟩ := hc.cells4
        clear hc
        refine ⟨true, rfl, ?_⟩
        show Oper.wp _ _ _ _ _ _
        (first | go_big_op | go_simp)
        exact hK _ _ (New.refl _) rfl
      case o19 =>
        intro s w' K hn hk hK
        have h101 : (s 101) = .bool true := hk.here
        clear hk
        simp only [fr, fill, Nat.reduceAdd, Act.put, List.setIfInBounds_toArray, List.set_cons_zero, List.set_cons_succ] at hK ⊢
        generalize s 101 = x101 at *
        subst h101
        have hc := T3.out.bx.new hn
        obtain ⟨c0, c1, c2, c3⟩ := hc.cells4
        clear hc
        refine ⟨true, rfl, ?_⟩
        show Oper.wp _ _ _ _ _ _
        (first | go_big_op | go_simp)
        exact hK _ _ (New.refl _) rfl
      case o20 =>
        intro s w' K hn hk hK
        have h111 : (s 111) = .agg #[.slice A1 l1 c1, .bool b1, .slice A1' l1' c1', .bool b1'] := hk.here
        have h112 : (s 112) = .agg #[.slice A3 l3 c3, .bool b3, .slice A3' l3' c3', .bool b3'] := hk.next.here
        have h101 : (s 101) = .bool true := hk.next.next.here
        clear hk
        simp only [fr, fill, Nat.reduceAdd, Act.put, List.setIfInBounds_toArray, List.set_cons_zero, List.set_cons_succ] at hK ⊢
        generalize s 111 = x111 at *
        generalize s 112 = x112 at *
        generalize s 101 = x101 at *
        subst h111
        subst h112
        subst h101
        refine ⟨true, rfl, ?_⟩
        show Oper.wp _ _ _ _ _ _
        (first | go_big_op | go_simp)
        refine (HCmac.out _ _ _ (T1.out.rv.new hn) (T3.out.rv.new hn)).mono ?_
        rintro e' w'' ⟨v', rfl, hv', hn'⟩
        exact hK _ _ hn' hv'
      case o21 =>
        intro s w' K hn hk hK
        have h110 : RatB w' (s 110) nmab dmab 512 := hk.here
        have h113 : RatB w' (s 113) nmac dmac 512 := hk.next.here
        have h101 : (s 101) = .bool true := hk.next.next.here
        clear hk
        simp only [fr, fill, Nat.reduceAdd, Act.put, List.setIfInBounds_toArray, List.set_cons_zero, List.set_cons_succ] at hK ⊢
        generalize s 110 = x110 at *
        generalize s 113 = x113 at *
        generalize s 101 = x101 at *
        subst h101
        refine ⟨true, rfl, ?_⟩
        show Oper.wp _ _ _ _ _ _
        (first | go_big_op | go_simp)
        refine (HCs2.out _ _ _ h110 h113).mono ?_
        rintro e' w'' ⟨v', rfl, hv', hn'⟩
        exact hK _ _ hn' hv'
      case o22 =>
        intro s w' K hn hk hK
        have h114 : RatB w' (s 114) ns2 ds2 2049 := hk.here
        have h101 : (s 101) = .bool true := hk.next.here
        clear hk
        simp only [fr, fill, Nat.reduceAdd, Act.put, List.setIfInBounds_toArray, List.set_cons_zero, List.set_cons_succ] at hK ⊢
        generalize s 114 = x114 at *
        generalize s 101 = x101 at *
        subst h101
        refine ⟨true, rfl, ?_⟩
        show Oper.wp _ _ _ _ _ _
        (first | go_big_op | go_simp)
        refine (HX3.out _ _ h114 (HN6.out.trans hn)).mono ?_
        rintro e' w'' ⟨rfl, hn'⟩
        exact hK _ _ hn' rfl
      case o23 =>
        intro s w' K hn hk hK
        have h107 : (s 107) = .string tA := hk.here
        have h115 : (s 115) = .string tA := hk.next.here
        have h101 : (s 101) = .bool true := hk.next.next.here
        clear hk
        simp only [fr, fill, Nat.reduceAdd, Act.put, List.setIfInBounds_toArray, List.set_cons_zero, List.set_cons_succ] at hK ⊢
        generalize s 107 = x107 at *
        generalize s 115 = x115 at *
        generalize s 101 = x101 at *
        subst h107
        subst h115
        subst h101
        refine ⟨true, rfl, ?_⟩
        show Oper.wp _ _ _ _ _ _
        (first | go_big_op | go_simp)
        exact hK _ _ (New.refl _) rfl
      case o24 =>
        intro s w' K hn hk hK
        have h101 : (s 101) = .bool true := hk.here
        have h116 : (s 116) = .bool true := hk.next.here
        clear hk
        simp only [fr, fill, Nat.reduceAdd, Act.put, List.setIfInBounds_toArray, List.set_cons_zero, List.set_cons_succ] at hK ⊢
        generalize s 101 = x101 at *
        generalize s 116 = x116 at *
        subst h101
        subst h116
        refine ⟨true, rfl, ?_⟩
        show Oper.wp _ _ _ _ _ _
        (first | go_big_op | go_simp)
        exact hK _ _ (New.refl _) rfl
      case o25 =>
        intro s w' K hn hk hK
        have h117 : (s 117) = .bool true := hk.here
        clear hk
        simp only [fr, fill, Nat.reduceAdd, Act.put, List.setIfInBounds_toArray, List.set_cons_zero, List.set_cons_succ] at hK ⊢
        generalize s 117 = x117 at *
        subst h117
        refine ⟨true, rfl, ?_⟩
        show Oper.wp _ _ _ _ _ _
        (first | go_big_op | go_simp)
        exact hK _ _ (New.refl _) rfl
      case o26 =>
        intro s w' K hn hk hK
        have h118 : (s 118) = .bool true := hk.here
        clear hk
        simp only [fr, fill, Nat.reduceAdd, Act.put, List.setIfInBounds_toArray, List.set_cons_zero, List.set_cons_succ] at hK ⊢
        generalize s 118 = x118 at *
        subst h118
        have hc := T1.out.bx.new hn
        obtain ⟨c0, c1, c2, c3⟩ := hc.cells4
        clear hc
        refine ⟨true, rfl, ?_⟩
        show Oper.wp _ _ _ _ _ _
        (first | go_big_op | go_simp)
        exact hK _ _ (New.refl _) rfl
      case o27 =>
        intro s w' K hn hk hK
        have h118 : (s 118) = .bool true := hk.here
        clear hk
        simp only [fr, fill, Nat.reduceAdd, Act.put, List.setIfInBounds_toArray, List.set_cons_zero, List.set_cons_succ] at hK ⊢
        generalize s 118 = x118 at *
        subst h118
        have hc := T2.out.bx.new hn
        obtain ⟨c0, c1, c2, c3⟩ := hc.cells4
        clear hc
        refine ⟨true, rfl, ?_⟩
        show Oper.wp _ _ _ _ _ _
        (first | go_big_op | go_simp)
        exact hK _ _ (New.refl _) rfl
      case o28 =>
        intro s w' K hn hk hK
        have h119 : (s 119) = .agg #[.slice A1 l1 c1, .bool b1, .slice A1' l1' c1', .bool b1'] := hk.here
        have h120 : (s 120) = .agg #[.slice A2 l2 c2, .bool b2, .slice A2' l2' c2', .bool b2'] := hk.next.here
        have h118 : (s 118) = .bool true := hk.next.next.here
        clear hk
        simp only [fr, fill, Nat.reduceAdd, Act.put, List.setIfInBounds_toArray, List.set_cons_zero, List.set_cons_succ] at hK ⊢
        generalize s 119 = x119 at *
        generalize s 120 = x120 at *
        generalize s 118 = x118 at *
        subst h119
        subst h120
        subst h118
        refine ⟨true, rfl, ?_⟩
        show Oper.wp _ _ _ _ _ _
        (first | go_big_op | go_simp)
        refine (HCab.out _ _ _ (T1.out.rv.new hn) (T2.out.rv.new hn)).mono ?_
        rintro e' w'' ⟨v', rfl, hv', hn'⟩
        exact hK _ _ hn' hv'
      case o29 =>
        intro s w' K hn hk hK
        have h118 : (s 118) = .bool true := hk.here
        clear hk
        simp only [fr, fill, Nat.reduceAdd, Act.put, List.setIfInBounds_toArray, List.set_cons_zero, List.set_cons_succ] at hK ⊢
        generalize s 118 = x118 at *
        subst h118
        have hc := T3.out.bx.new hn
        obtain ⟨c0, c1, c2, c3⟩ := hc.cells4
        clear hc
        refine ⟨true, rfl, ?_⟩
        show Oper.wp _ _ _ _ _ _
        (first | go_big_op | go_simp)
        exact hK _ _ (New.refl _) rfl
      case o30 =>
        intro s w' K hn hk hK
        have h121 : RatB w' (s 121) nab dab 1025 := hk.here
        have h122 : (s 122) = .agg #[.slice A3 l3 c3, .bool b3, .slice A3' l3' c3', .bool b3'] := hk.next.here
        have h118 : (s 118) = .bool true := hk.next.next.here
        clear hk
        simp only [fr, fill, Nat.reduceAdd, Act.put, List.setIfInBounds_toArray, List.set_cons_zero, List.set_cons_succ] at hK ⊢
        generalize s 121 = x121 at *
        generalize s 122 = x122 at *
        generalize s 118 = x118 at *
        subst h122
        subst h118
        refine ⟨true, rfl, ?_⟩
        show Oper.wp _ _ _ _ _ _
        (first | go_big_op | go_simp)
        refine (HCt1.out _ _ _ h121 (RatB.more (T3.out.rv.new hn) (by omega))).mono ?_
        rintro e' w'' ⟨v', rfl, hv', hn'⟩
        exact hK _ _ hn' hv'
      case o31 =>
        intro s w' K hn hk hK
        have h123 : RatB w' (s 123) nt1 dt1 4101 := hk.here
        have h118 : (s 118) = .bool true := hk.next.here
        clear hk
        simp only [fr, fill, Nat.reduceAdd, Act.put, List.setIfInBounds_toArray, List.set_cons_zero, List.set_cons_succ] at hK ⊢
        generalize s 123 = x123 at *
        generalize s 118 = x118 at *
        subst h118
        refine ⟨true, rfl, ?_⟩
        show Oper.wp _ _ _ _ _ _
        (first | go_big_op | go_simp)
        refine (HX4.out _ _ h123 (HN6.out.trans hn)).mono ?_
        rintro e' w'' ⟨rfl, hn'⟩
        exact hK _ _ hn' rfl
      case o32 =>
        intro s w' K hn hk hK
        have h118 : (s 118) = .bool true := hk.here
        clear hk
        simp only [fr, fill, Nat.reduceAdd, Act.put, List.setIfInBounds_toArray, List.set_cons_zero, List.set_cons_succ] at hK ⊢
        generalize s 118 = x118 at *
        subst h118
        have hc := T3.out.bx.new hn
        obtain ⟨c0, c1, c2, c3⟩ := hc.cells4
        clear hc
        refine ⟨true, rfl, ?_⟩
        show Oper.wp _ _ _ _ _ _
        (first | go_big_op | go_simp)
        exact hK _ _ (New.refl _) rfl
      case o33 =>
        intro s w' K hn hk hK
        have h118 : (s 118) = .bool true := hk.here
        clear hk
        simp only [fr, fill, Nat.reduceAdd, Act.put, List.setIfInBounds_toArray, List.set_cons_zero, List.set_cons_succ] at hK ⊢
        generalize s 118 = x118 at *
        subst h118
        have hc := T1.out.bx.new hn
        obtain ⟨c0, c1, c2, c3⟩ := hc.cells4
        clear hc
        refine ⟨true, rfl, ?_⟩
        show Oper.wp _ _ _ _ _ _
        (first | go_big_op | go_simp)
        exact hK _ _ (New.refl _) rfl
      case o34 =>
        intro s w' K hn hk hK
        have h125 : (s 125) = .agg #[.slice A3 l3 c3, .bool b3, .slice A3' l3' c3', .bool b3'] := hk.here
        have h126 : (s 126) = .agg #[.slice A1 l1 c1, .bool b1, .slice A1' l1' c1', .bool b1'] := hk.next.here
        have h118 : (s 118) = .bool true := hk.next.next.here
        clear hk
        simp only [fr, fill, Nat.reduceAdd, Act.put, List.setIfInBounds_toArray, List.set_cons_zero, List.set_cons_succ] at hK ⊢
        generalize s 125 = x125 at *
        generalize s 126 = x126 at *
        generalize s 118 = x118 at *
        subst h125
        subst h126
        subst h118
        refine ⟨true, rfl, ?_⟩
        show Oper.wp _ _ _ _ _ _
        (first | go_big_op | go_simp)
        refine (HCca.out _ _ _ (T3.out.rv.new hn) (T1.out.rv.new hn)).mono ?_
        rintro e' w'' ⟨v', rfl, hv', hn'⟩
        exact hK _ _ hn' hv'
      case o35 =>
        intro s w' K hn hk hK
        have h118 : (s 118) = .bool true := hk.here
        clear hk
        simp only [fr, fill, Nat.reduceAdd, Act.put, List.setIfInBounds_toArray, List.set_cons_zero, List.set_cons_succ] at hK ⊢
        generalize s 118 = x118 at *
        subst h118
        have hc := T2.out.bx.new hn
        obtain ⟨c0, c1, c2, c3⟩ := hc.cells4
        clear hc
        refine ⟨true, rfl, ?_⟩
        show Oper.wp _ _ _ _ _ _
        (first | go_big_op | go_simp)
        exact hK _ _ (New.refl _) rfl
      case o36 =>
        intro s w' K hn hk hK
        have h127 : RatB w' (s 127) nca dca 1025 := hk.here
        have h128 : (s 128) = .agg #[.slice A2 l2 c2, .bool b2, .slice A2' l2' c2', .bool b2'] := hk.next.here
        have h118 : (s 118) = .bool true := hk.next.next.here
        clear hk
        simp only [fr, fill, Nat.reduceAdd, Act.put, List.setIfInBounds_toArray, List.set_cons_zero, List.set_cons_succ] at hK ⊢
        generalize s 127 = x127 at *
        generalize s 128 = x128 at *
        generalize s 118 = x118 at *
        subst h128
        subst h118
        refine ⟨true, rfl, ?_⟩
        show Oper.wp _ _ _ _ _ _
        (first | go_big_op | go_simp)
        refine (HCt2.out _ _ _ h127 (RatB.more (T2.out.rv.new hn) (by omega))).mono ?_
        rintro e' w'' ⟨v', rfl, hv', hn'⟩
        exact hK _ _ hn' hv'
      case o37 =>
        intro s w' K hn hk hK
        have h129 : RatB w' (s 129) nt2 dt2 4101 := hk.here
        have h118 : (s 118) = .bool true := hk.next.here
        clear hk
        simp only [fr, fill, Nat.reduceAdd, Act.put, List.setIfInBounds_toArray, List.set_cons_zero, List.set_cons_succ] at hK ⊢
        generalize s 129 = x129 at *
        generalize s 118 = x118 at *
        subst h118
        refine ⟨true, rfl, ?_⟩
        show Oper.wp _ _ _ _ _ _
        (first | go_big_op | go_simp)
        refine (HX5.out _ _ h129 (HN6.out.trans hn)).mono ?_
        rintro e' w'' ⟨rfl, hn'⟩
        exact hK _ _ hn' rfl
      case o38 =>
        intro s w' K hn hk hK
        have h124 : (s 124) = .string tB := hk.here
        have h130 : (s 130) = .string tB := hk.next.here
        have h118 : (s 118) = .bool true := hk.next.next.here
        clear hk
        simp only [fr, fill, Nat.reduceAdd, Act.put, List.setIfInBounds_toArray, List.set_cons_zero, List.set_cons_succ] at hK ⊢
        generalize s 124 = x124 at *
        generalize s 130 = x130 at *
        generalize s 118 = x118 at *
        subst h124
        subst h130
        subst h118
        refine ⟨true, rfl, ?_⟩
        show Oper.wp _ _ _ _ _ _
        (first | go_big_op | go_simp)
        exact hK _ _ (New.refl _) rfl
      case o39 =>
        intro s w' K hn hk hK
        have h118 : (s 118) = .bool true := hk.here
        have h131 : (s 131) = .bool true := hk.next.here
        clear hk
        simp only [fr, fill, Nat.reduceAdd, Act.put, List.setIfInBounds_toArray, List.set_cons_zero, List.set_cons_succ] at hK ⊢
        generalize s 118 = x118 at *
        generalize s 131 = x131 at *
        subst h118
        subst h131
        refine ⟨true, rfl, ?_⟩
        show Oper.wp _ _ _ _ _ _
        (first | go_big_op | go_simp)
        exact hK _ _ (New.refl _) rfl
      case o40 =>
        intro s w' K hn hk hK
        have h132 : (s 132) = .bool true := hk.here
        clear hk
        simp only [fr, fill, Nat.reduceAdd, Act.put, List.setIfInBounds_toArray, List.set_cons_zero, List.set_cons_succ] at hK ⊢
        generalize s 132 = x132 at *
        subst h132
        refine ⟨true, rfl, ?_⟩
        show Oper.wp _ _ _ _ _ _
        (first | go_big_op | go_simp)
        exact hK _ _ (New.refl _) rfl
      case o41 =>
        intro s w' K hn hk hK
        have h133 : (s 133) = .bool true := hk.here
        clear hk
        simp only [fr, fill, Nat.reduceAdd, Act.put, List.setIfInBounds_toArray, List.set_cons_zero, List.set_cons_succ] at hK ⊢
        generalize s 133 = x133 at *
        subst h133
        have hc := T1.out.bx.new hn
        obtain ⟨c0, c1, c2, c3⟩ := hc.cells4
        clear hc
        refine ⟨true, rfl, ?_⟩
        show Oper.wp _ _ _ _ _ _
        (first | go_big_op | go_simp)
        exact hK _ _ (New.refl _) rfl
      case o42 =>
        intro s w' K hn hk hK
        have h133 : (s 133) = .bool true := hk.here
        clear hk
        simp only [fr, fill, Nat.reduceAdd, Act.put, List.setIfInBounds_toArray, List.set_cons_zero, List.set_cons_succ] at hK ⊢
        generalize s 133 = x133 at *
        subst h133
        have hc := T2.out.bx.new hn
        obtain ⟨c0, c1, c2, c3⟩ := hc.cells4
        clear hc
        refine ⟨true, rfl, ?_⟩
        show Oper.wp _ _ _ _ _ _
        (first | go_big_op | go_simp)
        exact hK _ _ (New.refl _) rfl
      case o43 =>
        intro s w' K hn hk hK
        have h134 : (s 134) = .agg #[.slice A1 l1 c1, .bool b1, .slice A1' l1' c1', .bool b1'] := hk.here
        have h135 : (s 135) = .agg #[.slice A2 l2 c2, .bool b2, .slice A2' l2' c2', .bool b2'] := hk.next.here
        have h133 : (s 133) = .bool true := hk.next.next.here
        clear hk
        simp only [fr, fill, Nat.reduceAdd, Act.put, List.setIfInBounds_toArray, List.set_cons_zero, List.set_cons_succ] at hK ⊢
        generalize s 134 = x134 at *
        generalize s 135 = x135 at *
        generalize s 133 = x133 at *
        subst h134
        subst h135
        subst h133
        refine ⟨true, rfl, ?_⟩
        show Oper.wp _ _ _ _ _ _
        (first | go_big_op | go_simp)
        refine (HCmab.out _ _ _ (T1.out.rv.new hn) (T2.out.rv.new hn)).mono ?_
        rintro e' w'' ⟨v', rfl, hv', hn'⟩
        exact hK _ _ hn' hv'
      case o44 =>
        intro s w' K hn hk hK
        have h133 : (s 133) = .bool true := hk.here
        clear hk
        simp only [fr, fill, Nat.reduceAdd, Act.put, List.setIfInBounds_toArray, List.set_cons_zero, List.set_cons_succ] at hK ⊢
        generalize s 133 = x133 at *
        subst h133
        have hc := T3.out.bx.new hn
        obtain ⟨c0, c1, c2, c3⟩ := hc.cells4
        clear hc
        refine ⟨true, rfl, ?_⟩
        show Oper.wp _ _ _ _ _ _
        (first | go_big_op | go_simp)
        exact hK _ _ (New.refl _) rfl
      case o45 =>
        intro s w' K hn hk hK
        have h136 : RatB w' (s 136) nmab dmab 512 := hk.here
        have h137 : (s 137) = .agg #[.slice A3 l3 c3, .bool b3, .slice A3' l3' c3', .bool b3'] := hk.next.here
        have h133 : (s 133) = .bool true := hk.next.next.here
        clear hk
        simp only [fr, fill, Nat.reduceAdd, Act.put, List.setIfInBounds_toArray, List.set_cons_zero, List.set_cons_succ] at hK ⊢
        generalize s 136 = x136 at *
        generalize s 137 = x137 at *
        generalize s 133 = x133 at *
        subst h137
        subst h133
        refine ⟨true, rfl, ?_⟩
        show Oper.wp _ _ _ _ _ _
        (first | go_big_op | go_simp)
        refine (HCu1.out _ _ _ h136 (RatB.more (T3.out.rv.new hn) (by omega))).mono ?_
        rintro e' w'' ⟨v', rfl, hv', hn'⟩
        exact hK _ _ hn' hv'
      case o46 =>
        intro s w' K hn hk hK
        have h138 : RatB w' (s 138) nu1 du1 1024 := hk.here
        have h133 : (s 133) = .bool true := hk.next.here
        clear hk
        simp only [fr, fill, Nat.reduceAdd, Act.put, List.setIfInBounds_toArray, List.set_cons_zero, List.set_cons_succ] at hK ⊢
        generalize s 138 = x138 at *
        generalize s 133 = x133 at *
        subst h133
        refine ⟨true, rfl, ?_⟩
        show Oper.wp _ _ _ _ _ _
        (first | go_big_op | go_simp)
        refine (HX6.out _ _ h138 (HN6.out.trans hn)).mono ?_
        rintro e' w'' ⟨rfl, hn'⟩
        exact hK _ _ hn' rfl
      case o47 =>
        intro s w' K hn hk hK
        have h133 : (s 133) = .bool true := hk.here
        clear hk
        simp only [fr, fill, Nat.reduceAdd, Act.put, List.setIfInBounds_toArray, List.set_cons_zero, List.set_cons_succ] at hK ⊢
        generalize s 133 = x133 at *
        subst h133
        have hc := T3.out.bx.new hn
        obtain ⟨c0, c1, c2, c3⟩ := hc.cells4
        clear hc
        refine ⟨true, rfl, ?_⟩
        show Oper.wp _ _ _ _ _ _
        (first | go_big_op | go_simp)
        exact hK _ _ (New.refl _) rfl
      case o48 =>
        intro s w' K hn hk hK
        have h133 : (s 133) = .bool true := hk.here
        clear hk
        simp only [fr, fill, Nat.reduceAdd, Act.put, List.setIfInBounds_toArray, List.set_cons_zero, List.set_cons_succ] at hK ⊢
        generalize s 133 = x133 at *
        subst h133
        have hc := T1.out.bx.new hn
        obtain ⟨c0, c1, c2, c3⟩ := hc.cells4
        clear hc
        refine ⟨true, rfl, ?_⟩
        show Oper.wp _ _ _ _ _ _
        (first | go_big_op | go_simp)
        exact hK _ _ (New.refl _) rfl
      case o49 =>
        intro s w' K hn hk hK
        have h140 : (s 140) = .agg #[.slice A3 l3 c3, .bool b3, .slice A3' l3' c3', .bool b3'] := hk.here
        have h141 : (s 141) = .agg #[.slice A1 l1 c1, .bool b1, .slice A1' l1' c1', .bool b1'] := hk.next.here
        have h133 : (s 133) = .bool true := hk.next.next.here
        clear hk
        simp only [fr, fill, Nat.reduceAdd, Act.put, List.setIfInBounds_toArray, List.set_cons_zero, List.set_cons_succ] at hK ⊢
        generalize s 140 = x140 at *
        generalize s 141 = x141 at *
        generalize s 133 = x133 at *
        subst h140
        subst h141
        subst h133
        refine ⟨true, rfl, ?_⟩
        show Oper.wp _ _ _ _ _ _
        (first | go_big_op | go_simp)
        refine (HCmca.out _ _ _ (T3.out.rv.new hn) (T1.out.rv.new hn)).mono ?_
        rintro e' w'' ⟨v', rfl, hv', hn'⟩
        exact hK _ _ hn' hv'
      case o50 =>
        intro s w' K hn hk hK
        have h133 : (s 133) = .bool true := hk.here
        clear hk
        simp only [fr, fill, Nat.reduceAdd, Act.put, List.setIfInBounds_toArray, List.set_cons_zero, List.set_cons_succ] at hK ⊢
        generalize s 133 = x133 at *
        subst h133
        have hc := T2.out.bx.new hn
        obtain ⟨c0, c1, c2, c3⟩ := hc.cells4
        clear hc
        refine ⟨true, rfl, ?_⟩
        show Oper.wp _ _ _ _ _ _
        (first | go_big_op | go_simp)
        exact hK _ _ (New.refl _) rfl
      case o51 =>
        intro s w' K hn hk hK
        have h142 : RatB w' (s 142) nmca dmca 512 := hk.here
        have h143 : (s 143) = .agg #[.slice A2 l2 c2, .bool b2, .slice A2' l2' c2', .bool b2'] := hk.next.here
        have h133 : (s 133) = .bool true := hk.next.next.here
        clear hk
        simp only [fr, fill, Nat.reduceAdd, Act.put, List.setIfInBounds_toArray, List.set_cons_zero, List.set_cons_succ] at hK ⊢
        generalize s 142 = x142 at *
        generalize s 143 = x143 at *
        generalize s 133 = x133 at *
        subst h143
        subst h133
        refine ⟨true, rfl, ?_⟩
        show Oper.wp _ _ _ _ _ _
        (first | go_big_op | go_simp)
        refine (HCu2.out _ _ _ h142 (RatB.more (T2.out.rv.new hn) (by omega))).mono ?_
        rintro e' w'' ⟨v', rfl, hv', hn'⟩
        exact hK _ _ hn' hv'
      case o52 =>
        intro s w' K hn hk hK
        have h144 : RatB w' (s 144) nu2 du2 1024 := hk.here
        have h133 : (s 133) = .bool true := hk.next.here
        clear hk
        simp only [fr, fill, Nat.reduceAdd, Act.put, List.setIfInBounds_toArray, List.set_cons_zero, List.set_cons_succ] at hK ⊢
        generalize s 144 = x144 at *
        generalize s 133 = x133 at *
        subst h133
        refine ⟨true, rfl, ?_⟩
        show Oper.wp _ _ _ _ _ _
        (first | go_big_op | go_simp)
        refine (HX7.out _ _ h144 (HN6.out.trans hn)).mono ?_
        rintro e' w'' ⟨rfl, hn'⟩
        exact hK _ _ hn' rfl
      case o53 =>
        intro s w' K hn hk hK
        have h139 : (s 139) = .string tC := hk.here
        have h145 : (s 145) = .string tC := hk.next.here
        have h133 : (s 133) = .bool true := hk.next.next.here
        clear hk
        simp only [fr, fill, Nat.reduceAdd, Act.put, List.setIfInBounds_toArray, List.set_cons_zero, List.set_cons_succ] at hK ⊢
        generalize s 139 = x139 at *
        generalize s 145 = x145 at *
        generalize s 133 = x133 at *
        subst h139
        subst h145
        subst h133
        refine ⟨true, rfl, ?_⟩
        show Oper.wp _ _ _ _ _ _
        (first | go_big_op | go_simp)
        exact hK _ _ (New.refl _) rfl
      case o54 =>
        intro s w' K hn hk hK
        have h133 : (s 133) = .bool true := hk.here
        have h146 : (s 146) = .bool true := hk.next.here
        clear hk
        simp only [fr, fill, Nat.reduceAdd, Act.put, List.setIfInBounds_toArray, List.set_cons_zero, List.set_cons_succ] at hK ⊢
        generalize s 133 = x133 at *
        generalize s 146 = x146 at *
        subst h133
        subst h146
        refine ⟨true, rfl, ?_⟩
        show Oper.wp _ _ _ _ _ _
        (first | go_big_op | go_simp)
        exact hK _ _ (New.refl _) rfl
      case o55 =>
        intro s w' K hn hk hK
        have h147 : (s 147) = .bool true := hk.here
        clear hk
        simp only [fr, fill, Nat.reduceAdd, Act.put, List.setIfInBounds_toArray, List.set_cons_zero, List.set_cons_succ] at hK ⊢
        generalize s 147 = x147 at *
        subst h147
        refine ⟨true, rfl, ?_⟩
        show Oper.wp _ _ _ _ _ _
        (first | go_big_op | go_simp)
        exact hK _ _ (New.refl _) rfl
      case o56 =>
        intro s w' K hn hk hK
        have h148 : (s 148) = .bool true := hk.here
        clear hk
        simp only [fr, fill, Nat.reduceAdd, Act.put, List.setIfInBounds_toArray, List.set_cons_zero, List.set_cons_succ] at hK ⊢
        generalize s 148 = x148 at *
        subst h148
        have hc := T1.out.bx.new hn
        obtain ⟨c0, c1, c2, c3⟩ := hc.cells4
        clear hc
        refine ⟨true, rfl, ?_⟩
        show Oper.wp _ _ _ _ _ _
        (first | go_big_op | go_simp)
        exact hK _ _ (New.refl _) rfl
      case o57 =>
        intro s w' K hn hk hK
        have h148 : (s 148) = .bool true := hk.here
        clear hk
        simp only [fr, fill, Nat.reduceAdd, Act.put, List.setIfInBounds_toArray, List.set_cons_zero, List.set_cons_succ] at hK ⊢
        generalize s 148 = x148 at *
        subst h148
        have hc := T2.out.bx.new hn
        obtain ⟨c0, c1, c2, c3⟩ := hc.cells4
        clear hc
        refine ⟨true, rfl, ?_⟩
        show Oper.wp _ _ _ _ _ _
        (first | go_big_op | go_simp)
        exact hK _ _ (New.refl _) rfl
      case o58 =>
        intro s w' K hn hk hK
        have h149 : (s 149) = .agg #[.slice A1 l1 c1, .bool b1, .slice A1' l1' c1', .bool b1'] := hk.here
        have h150 : (s 150) = .agg #[.slice A2 l2 c2, .bool b2, .slice A2' l2' c2', .bool b2'] := hk.next.here
        have h148 : (s 148) = .bool true := hk.next.next.here
        clear hk
        simp only [fr, fill, Nat.reduceAdd, Act.put, List.setIfInBounds_toArray, List.set_cons_zero, List.set_cons_succ] at hK ⊢
        generalize s 149 = x149 at *
        generalize s 150 = x150 at *
        generalize s 148 = x148 at *
        subst h149
        subst h150
        subst h148
        refine ⟨true, rfl, ?_⟩
        show Oper.wp _ _ _ _ _ _
        (first | go_big_op | go_simp)
        refine (HK1.out _ _ _ (T1.out.rv.new hn) (T2.out.rv.new hn)).mono ?_
        rintro e' w'' ⟨rfl, hn'⟩
        exact hK _ _ hn' rfl
      case o59 =>
        intro s w' K hn hk hK
        have h148 : (s 148) = .bool true := hk.here
        clear hk
        simp only [fr, fill, Nat.reduceAdd, Act.put, List.setIfInBounds_toArray, List.set_cons_zero, List.set_cons_succ] at hK ⊢
        generalize s 148 = x148 at *
        subst h148
        have hc := T2.out.bx.new hn
        obtain ⟨c0, c1, c2, c3⟩ := hc.cells4
        clear hc
        refine ⟨true, rfl, ?_⟩
        show Oper.wp _ _ _ _ _ _
        (first | go_big_op | go_simp)
        exact hK _ _ (New.refl _) rfl
      case o60 =>
        intro s w' K hn hk hK
        have h148 : (s 148) = .bool true := hk.here
        clear hk
        simp only [fr, fill, Nat.reduceAdd, Act.put, List.setIfInBounds_toArray, List.set_cons_zero, List.set_cons_succ] at hK ⊢
        generalize s 148 = x148 at *
        subst h148
        have hc := T1.out.bx.new hn
        obtain ⟨c0, c1, c2, c3⟩ := hc.cells4
        clear hc
        refine ⟨true, rfl, ?_⟩
        show Oper.wp _ _ _ _ _ _
        (first | go_big_op | go_simp)
        exact hK _ _ (New.refl _) rfl
      case o61 =>
        intro s w' K hn hk hK
        have h152 : (s 152) = .agg #[.slice A2 l2 c2, .bool b2, .slice A2' l2' c2', .bool b2'] := hk.here
        have h153 : (s 153) = .agg #[.slice A1 l1 c1, .bool b1, .slice A1' l1' c1', .bool b1'] := hk.next.here
        have h148 : (s 148) = .bool true := hk.next.next.here
        clear hk
        simp only [fr, fill, Nat.reduceAdd, Act.put, List.setIfInBounds_toArray, List.set_cons_zero, List.set_cons_succ] at hK ⊢
        generalize s 152 = x152 at *
        generalize s 153 = x153 at *
        generalize s 148 = x148 at *
        subst h152
        subst h153
        subst h148
        refine ⟨true, rfl, ?_⟩
        show Oper.wp _ _ _ _ _ _
        (first | go_big_op | go_simp)
        refine (HK2.out _ _ _ (T2.out.rv.new hn) (T1.out.rv.new hn)).mono ?_
        rintro e' w'' ⟨rfl, hn'⟩
        exact hK _ _ hn' rfl
      case o62 =>
        intro s w' K hn hk hK
        have h154 : (s 154) = .int .i64 (-cc) := hk.here
        have h148 : (s 148) = .bool true := hk.next.here
        clear hk
        simp only [fr, fill, Nat.reduceAdd, Act.put, List.setIfInBounds_toArray, List.set_cons_zero, List.set_cons_succ] at hK ⊢
        generalize s 154 = x154 at *
        generalize s 148 = x148 at *
        subst h154
        subst h148
        refine ⟨true, rfl, ?_⟩
        show Oper.wp _ _ _ _ _ _
        (first | go_big_op | go_simp)
        first | exact hK _ _ (New.refl _) rfl | exact hK _ _ (New.refl _) (congrArg _ hwr2) | exact hK _ _ (New.refl _) (congrArg _ hwr) | (simp only [hwr, hwr2, hwr3, Int.neg_neg] at *; exact hK _ _ (New.refl _) rfl)
      case o63 =>
        intro s w' K hn hk hK
        have h151 : (s 151) = .int .i64 cc := hk.here
        have h155 : (s 155) = .int .i64 cc := hk.next.here
        have h148 : (s 148) = .bool true := hk.next.next.here
        clear hk
        simp only [fr, fill, Nat.reduceAdd, Act.put, List.setIfInBounds_toArray, List.set_cons_zero, List.set_cons_succ] at hK ⊢
        generalize s 151 = x151 at *
        generalize s 155 = x155 at *
        generalize s 148 = x148 at *
        subst h151
        subst h155
        subst h148
        refine ⟨true, rfl, ?_⟩
        show Oper.wp _ _ _ _ _ _
        (first | go_big_op | go_simp)
        exact hK _ _ (New.refl _) rfl
      case o64 =>
        intro s w' K hn hk hK
        have h148 : (s 148) = .bool true := hk.here
        have h156 : (s 156) = .bool true := hk.next.here
        clear hk
        simp only [fr, fill, Nat.reduceAdd, Act.put, List.setIfInBounds_toArray, List.set_cons_zero, List.set_cons_succ] at hK ⊢
        generalize s 148 = x148 at *
        generalize s 156 = x156 at *
        subst h148
        subst h156
        refine ⟨true, rfl, ?_⟩
        show Oper.wp _ _ _ _ _ _
        (first | go_big_op | go_simp)
        exact hK _ _ (New.refl _) rfl
      case o65 =>
        intro s w' K hn hk hK
        have h157 : (s 157) = .bool true := hk.here
        clear hk
        simp only [fr, fill, Nat.reduceAdd, Act.put, List.setIfInBounds_toArray, List.set_cons_zero, List.set_cons_succ] at hK ⊢
        generalize s 157 = x157 at *
        subst h157
        refine ⟨true, rfl, ?_⟩
        show Oper.wp _ _ _ _ _ _
        (first | go_big_op | go_simp)
        exact hK _ _ (New.refl _) rfl
      case o66 =>
        intro s w' K hn hk hK
        have h158 : (s 158) = .bool true := hk.here
        clear hk
        simp only [fr, fill, Nat.reduceAdd, Act.put, List.setIfInBounds_toArray, List.set_cons_zero, List.set_cons_succ] at hK ⊢
        generalize s 158 = x158 at *
        subst h158
        have hc := T1.out.bx.new hn
        obtain ⟨c0, c1, c2, c3⟩ := hc.cells4
        clear hc
        refine ⟨true, rfl, ?_⟩
        show Oper.wp _ _ _ _ _ _
        (first | go_big_op | go_simp)
        exact hK _ _ (New.refl _) rfl
      case o67 =>
        intro s w' K hn hk hK
        have h158 : (s 158) = .bool true := hk.here
        clear hk
        simp only [fr, fill, Nat.reduceAdd, Act.put, List.setIfInBounds_toArray, List.set_cons_zero, List.set_cons_succ] at hK ⊢
        generalize s 158 = x158 at *
        subst h158
        have hc := T2.out.bx.new hn
        obtain ⟨c0, c1, c2, c3⟩ := hc.cells4
        clear hc
        refine ⟨true, rfl, ?_⟩
        show Oper.wp _ _ _ _ _ _
        (first | go_big_op | go_simp)
        exact hK _ _ (New.refl _) rfl
      case o68 =>
        intro s w' K hn hk hK
        have h159 : (s 159) = .agg #[.slice A1 l1 c1, .bool b1, .slice A1' l1' c1', .bool b1'] := hk.here
        have h160 : (s 160) = .agg #[.slice A2 l2 c2, .bool b2, .slice A2' l2' c2', .bool b2'] := hk.next.here
        have h158 : (s 158) = .bool true := hk.next.next.here
        clear hk
        simp only [fr, fill, Nat.reduceAdd, Act.put, List.setIfInBounds_toArray, List.set_cons_zero, List.set_cons_succ] at hK ⊢
        generalize s 159 = x159 at *
        generalize s 160 = x160 at *
        generalize s 158 = x158 at *
        subst h159
        subst h160
        subst h158
        refine ⟨true, rfl, ?_⟩
        show Oper.wp _ _ _ _ _ _
        (first | go_big_op | go_simp)
        refine (HCdab.out _ _ _ (T1.out.rv.new hn) (T2.out.rv.new hn)).mono ?_
        rintro e' w'' ⟨v', rfl, hv', hn'⟩
        exact hK _ _ hn' hv'
      case o69 =>
        intro s w' K hn hk hK
        have h161 : RatB w' (s 161) ndab ddab 1025 := hk.here
        have h158 : (s 158) = .bool true := hk.next.here
        clear hk
        simp only [fr, fill, Nat.reduceAdd, Act.put, List.setIfInBounds_toArray, List.set_cons_zero, List.set_cons_succ] at hK ⊢
        generalize s 161 = x161 at *
        generalize s 158 = x158 at *
        subst h158
        refine ⟨true, rfl, ?_⟩
        show Oper.wp _ _ _ _ _ _
        (first | go_big_op | go_simp)
        refine (HSG.out _ _ h161).mono ?_
        rintro e' w'' ⟨rfl, hn'⟩
        exact hK _ _ hn' rfl
      case o70 =>
        intro s w' K hn hk hK
        have h158 : (s 158) = .bool true := hk.here
        clear hk
        simp only [fr, fill, Nat.reduceAdd, Act.put, List.setIfInBounds_toArray, List.set_cons_zero, List.set_cons_succ] at hK ⊢
        generalize s 158 = x158 at *
        subst h158
        have hc := T1.out.bx.new hn
        obtain ⟨c0, c1, c2, c3⟩ := hc.cells4
        clear hc
        refine ⟨true, rfl, ?_⟩
        show Oper.wp _ _ _ _ _ _
        (first | go_big_op | go_simp)
        exact hK _ _ (New.refl _) rfl
      case o71 =>
        intro s w' K hn hk hK
        have h158 : (s 158) = .bool true := hk.here
        clear hk
        simp only [fr, fill, Nat.reduceAdd, Act.put, List.setIfInBounds_toArray, List.set_cons_zero, List.set_cons_succ] at hK ⊢
        generalize s 158 = x158 at *
        subst h158
        have hc := T2.out.bx.new hn
        obtain ⟨c0, c1, c2, c3⟩ := hc.cells4
        clear hc
        refine ⟨true, rfl, ?_⟩
        show Oper.wp _ _ _ _ _ _
        (first | go_big_op | go_simp)
        exact hK _ _ (New.refl _) rfl
      case o72 =>
        intro s w' K hn hk hK
        have h163 : (s 163) = .agg #[.slice A1 l1 c1, .bool b1, .slice A1' l1' c1', .bool b1'] := hk.here
        have h164 : (s 164) = .agg #[.slice A2 l2 c2, .bool b2, .slice A2' l2' c2', .bool b2'] := hk.next.here
        have h158 : (s 158) = .bool true := hk.next.next.here
        clear hk
        simp only [fr, fill, Nat.reduceAdd, Act.put, List.setIfInBounds_toArray, List.set_cons_zero, List.set_cons_succ] at hK ⊢
        generalize s 163 = x163 at *
        generalize s 164 = x164 at *
        generalize s 158 = x158 at *
        subst h163
        subst h164
        subst h158
        refine ⟨true, rfl, ?_⟩
        show Oper.wp _ _ _ _ _ _
        (first | go_big_op | go_simp)
        refine (HK1.out _ _ _ (T1.out.rv.new hn) (T2.out.rv.new hn)).mono ?_
        rintro e' w'' ⟨rfl, hn'⟩
        exact hK _ _ hn' rfl
      case o73 =>
        intro s w' K hn hk hK
        have h162 : (s 162) = .int .i64 cc := hk.here
        have h165 : (s 165) = .int .i64 cc := hk.next.here
        have h158 : (s 158) = .bool true := hk.next.next.here
        clear hk
        simp only [fr, fill, Nat.reduceAdd, Act.put, List.setIfInBounds_toArray, List.set_cons_zero, List.set_cons_succ] at hK ⊢
        generalize s 162 = x162 at *
        generalize s 165 = x165 at *
        generalize s 158 = x158 at *
        subst h162
        subst h165
        subst h158
        refine ⟨true, rfl, ?_⟩
        show Oper.wp _ _ _ _ _ _
        (first | go_big_op | go_simp)
        exact hK _ _ (New.refl _) rfl
      case o74 =>
        intro s w' K hn hk hK
        have h158 : (s 158) = .bool true := hk.here
        have h166 : (s 166) = .bool true := hk.next.here
        clear hk
        simp only [fr, fill, Nat.reduceAdd, Act.put, List.setIfInBounds_toArray, List.set_cons_zero, List.set_cons_succ] at hK ⊢
        generalize s 158 = x158 at *
        generalize s 166 = x166 at *
        subst h158
        subst h166
        refine ⟨true, rfl, ?_⟩
        show Oper.wp _ _ _ _ _ _
        (first | go_big_op | go_simp)
        exact hK _ _ (New.refl _) rfl
      case last =>
        intro s V0 hn hk
        have h93 : (s 93) = .agg #[.slice A1 l1 c1, .bool b1, .slice A1' l1' c1', .bool b1'] := hk.here
        have h94 : (s 94) = .agg #[.slice A2 l2 c2, .bool b2, .slice A2' l2' c2', .bool b2'] := hk.next.here
        have h95 : RatB V0 (s 95) nab dab 1025 := hk.next.next.here
        have h96 : (s 96) = .agg #[.slice A2 l2 c2, .bool b2, .slice A2' l2' c2', .bool b2'] := hk.next.next.next.here
        have h97 : RatB V0 (s 97) nabb dabb 4101 := hk.next.next.next.next.here
        have h98 : (s 98) = .string a := hk.next.next.next.next.next.here
        have h99 : (s 99) = .string a := hk.next.next.next.next.next.next.here
        have h100 : (s 100) = .bool true := hk.next.next.next.next.next.next.next.here
        have h101 : (s 101) = .bool true := hk.next.next.next.next.next.next.next.next.here
        have h102 : (s 102) = .agg #[.slice A1 l1 c1, .bool b1, .slice A1' l1' c1', .bool b1'] := hk.next.next.next.next.next.next.next.next.next.here
        have h103 : (s 103) = .agg #[.slice A2 l2 c2, .bool b2, .slice A2' l2' c2', .bool b2'] := hk.next.next.next.next.next.next.next.next.next.next.here
        have h104 : (s 104) = .agg #[.slice A3 l3 c3, .bool b3, .slice A3' l3' c3', .bool b3'] := hk.next.next.next.next.next.next.next.next.next.next.next.here
        have h105 : RatB V0 (s 105) nbc dbc 1025 := hk.next.next.next.next.next.next.next.next.next.next.next.next.here
        have h106 : RatB V0 (s 106) nabc dabc 2050 := hk.next.next.next.next.next.next.next.next.next.next.next.next.next.here
        have h107 : (s 107) = .string tA := hk.next.next.next.next.next.next.next.next.next.next.next.next.next.next.here
        have h108 : (s 108) = .agg #[.slice A1 l1 c1, .bool b1, .slice A1' l1' c1', .bool b1'] := hk.next.next.next.next.next.next.next.next.next.next.next.next.next.next.next.here
        have h109 : (s 109) = .agg #[.slice A2 l2 c2, .bool b2, .slice A2' l2' c2', .bool b2'] := hk.next.next.next.next.next.next.next.next.next.next.next.next.next.next.next.next.here
        have h110 : RatB V0 (s 110) nmab dmab 512 := hk.next.next.next.next.next.next.next.next.next.next.next.next.next.next.next.next.next.here
        have h111 : (s 111) = .agg #[.slice A1 l1 c1, .bool b1, .slice A1' l1' c1', .bool b1'] := hk.next.next.next.next.next.next.next.next.next.next.next.next.next.next.next.next.next.next.here
        have h112 : (s 112) = .agg #[.slice A3 l3 c3, .bool b3, .slice A3' l3' c3', .bool b3'] := hk.next.next.next.next.next.next.next.next.next.next.next.next.next.next.next.next.next.next.next.here
        have h113 : RatB V0 (s 113) nmac dmac 512 := hk.next.next.next.next.next.next.next.next.next.next.next.next.next.next.next.next.next.next.next.next.here
        have h114 : RatB V0 (s 114) ns2 ds2 2049 := hk.next.next.next.next.next.next.next.next.next.next.next.next.next.next.next.next.next.next.next.next.next.here
        have h115 : (s 115) = .string tA := hk.next.next.next.next.next.next.next.next.next.next.next.next.next.next.next.next.next.next.next.next.next.next.here
        have h116 : (s 116) = .bool true := hk.next.next.next.next.next.next.next.next.next.next.next.next.next.next.next.next.next.next.next.next.next.next.next.here
        have h117 : (s 117) = .bool true := hk.next.next.next.next.next.next.next.next.next.next.next.next.next.next.next.next.next.next.next.next.next.next.next.next.here
        have h118 : (s 118) = .bool true := hk.next.next.next.next.next.next.next.next.next.next.next.next.next.next.next.next.next.next.next.next.next.next.next.next.next.here
        have h119 : (s 119) = .agg #[.slice A1 l1 c1, .bool b1, .slice A1' l1' c1', .bool b1'] := hk.next.next.next.next.next.next.next.next.next.next.next.next.next.next.next.next.next.next.next.next.next.next.next.next.next.next.here
        have h120 : (s 120) = .agg #[.slice A2 l2 c2, .bool b2, .slice A2' l2' c2', .bool b2'] := hk.next.next.next.next.next.next.next.next.next.next.next.next.next.next.next.next.next.next.next.next.next.next.next.next.next.next.next.here
        have h121 : RatB V0 (s 121) nab dab 1025 := hk.next.next.next.next.next.next.next.next.next.next.next.next.next.next.next.next.next.next.next.next.next.next.next.next.next.next.next.next.here
        have h122 : (s 122) = .agg #[.slice A3 l3 c3, .bool b3, .slice A3' l3' c3', .bool b3'] := hk.next.next.next.next.next.next.next.next.next.next.next.next.next.next.next.next.next.next.next.next.next.next.next.next.next.next.next.next.next.here
        have h123 : RatB V0 (s 123) nt1 dt1 4101 := hk.next.next.next.next.next.next.next.next.next.next.next.next.next.next.next.next.next.next.next.next.next.next.next.next.next.next.next.next.next.next.here
        have h124 : (s 124) = .string tB := hk.next.next.next.next.next.next.next.next.next.next.next.next.next.next.next.next.next.next.next.next.next.next.next.next.next.next.next.next.next.next.next.here
        have h125 : (s 125) = .agg #[.slice A3 l3 c3, .bool b3, .slice A3' l3' c3', .bool b3'] := hk.next.next.next.next.next.next.next.next.next.next.next.next.next.next.next.next.next.next.next.next.next.next.next.next.next.next.next.next.next.next.next.next.here
        have h126 : (s 126) = .agg #[.slice A1 l1 c1, .bool b1, .slice A1' l1' c1', .bool b1'] := hk.next.next.next.next.next.next.next.next.next.next.next.next.next.next.next.next.next.next.next.next.next.next.next.next.next.next.next.next.next.next.next.next.next.here
        have h127 : RatB V0 (s 127) nca dca 1025 := hk.next.next.next.next.next.next.next.next.next.next.next.next.next.next.next.next.next.next.next.next.next.next.next.next.next.next.next.next.next.next.next.next.next.next.here
        have h128 : (s 128) = .agg #[.slice A2 l2 c2, .bool b2, .slice A2' l2' c2', .bool b2'] := hk.next.next.next.next.next.next.next.next.next.next.next.next.next.next.next.next.next.next.next.next.next.next.next.next.next.next.next.next.next.next.next.next.next.next.next.here
        have h129 : RatB V0 (s 129) nt2 dt2 4101 := hk.next.next.next.next.next.next.next.next.next.next.next.next.next.next.next.next.next.next.next.next.next.next.next.next.next.next.next.next.next.next.next.next.next.next.next.next.here
        have h130 : (s 130) = .string tB := hk.next.next.next.next.next.next.next.next.next.next.next.next.next.next.next.next.next.next.next.next.next.next.next.next.next.next.next.next.next.next.next.next.next.next.next.next.next.here
        have h131 : (s 131) = .bool true := hk.next.next.next.next.next.next.next.next.next.next.next.next.next.next.next.next.next.next.next.next.next.next.next.next.next.next.next.next.next.next.next.next.next.next.next.next.next.next.here
        have h132 : (s 132) = .bool true := hk.next.next.next.next.next.next.next.next.next.next.next.next.next.next.next.next.next.next.next.next.next.next.next.next.next.next.next.next.next.next.next.next.next.next.next.next.next.next.next.here
        have h133 : (s 133) = .bool true := hk.next.next.next.next.next.next.next.next.next.next.next.next.next.next.next.next.next.next.next.next.next.next.next.next.next.next.next.next.next.next.next.next.next.next.next.next.next.next.next.next.here
        have h134 : (s 134) = .agg #[.slice A1 l1 c1, .bool b1, .slice A1' l1' c1', .bool b1'] := hk.next.next.next.next.next.next.next.next.next.next.next.next.next.next.next.next.next.next.next.next.next.next.next.next.next.next.next.next.next.next.next.next.next.next.next.next.next.next.next.next.next.here
        have h135 : (s 135) = .agg #[.slice A2 l2 c2, .bool b2, .slice A2' l2' c2', .bool b2'] := hk.next.next.next.next.next.next.next.next.next.next.next.next.next.next.next.next.next.next.next.next.next.next.next.next.next.next.next.next.next.next.next.next.next.next.next.next.next.next.next.next.next.next.here
        have h136 : RatB V0 (s 136) nmab dmab 512 := hk.next.next.next.next.next.next.next.next.next.next.next.next.next.next.next.next.next.next.next.next.next.next.next.next.next.next.next.next.next.next.next.next.next.next.next.next.next.next.next.next.next.next.next.here
        have h137 : (s 137) = .agg #[.slice A3 l3 c3, .bool b3, .slice A3' l3' c3', .bool b3'] := hk.next.next.next.next.next.next.next.next.next.next.next.next.next.next.next.next.next.next.next.next.next.next.next.next.next.next.next.next.next.next.next.next.next.next.next.next.next.next.next.next.next.next.next.next.here
        have h138 : RatB V0 (s 138) nu1 du1 1024 := hk.next.next.next.next.next.next.next.next.next.next.next.next.next.next.next.next.next.next.next.next.next.next.next.next.next.next.next.next.next.next.next.next.next.next.next.next.next.next.next.next.next.next.next.next.next.here
        have h139 : (s 139) = .string tC := hk.next.next.next.next.next.next.next.next.next.next.next.next.next.next.next.next.next.next.next.next.next.next.next.next.next.next.next.next.next.next.next.next.next.next.next.next.next.next.next.next.next.next.next.next.next.next.here
        have h140 : (s 140) = .agg #[.slice A3 l3 c3, .bool b3, .slice A3' l3' c3', .bool b3'] := hk.next.next.next.next.next.next.next.next.next.next.next.next.next.next.next.next.next.next.next.next.next.next.next.next.next.next.next.next.next.next.next.next.next.next.next.next.next.next.next.next.next.next.next.next.next.next.next.here
        have h141 : (s 141) = .agg #[.slice A1 l1 c1, .bool b1, .slice A1' l1' c1', .bool b1'] := hk.next.next.next.next.next.next.next.next.next.next.next.next.next.next.next.next.next.next.next.next.next.next.next.next.next.next.next.next.next.next.next.next.next.next.next.next.next.next.next.next.next.next.next.next.next.next.next.next.here
        have h142 : RatB V0 (s 142) nmca dmca 512 := hk.next.next.next.next.next.next.next.next.next.next.next.next.next.next.next.next.next.next.next.next.next.next.next.next.next.next.next.next.next.next.next.next.next.next.next.next.next.next.next.next.next.next.next.next.next.next.next.next.next.here
        have h143 : (s 143) = .agg #[.slice A2 l2 c2, .bool b2, .slice A2' l2' c2', .bool b2'] := hk.next.next.next.next.next.next.next.next.next.next.next.next.next.next.next.next.next.next.next.next.next.next.next.next.next.next.next.next.next.next.next.next.next.next.next.next.next.next.next.next.next.next.next.next.next.next.next.next.next.next.here
        have h144 : RatB V0 (s 144) nu2 du2 1024 := hk.next.next.next.next.next.next.next.next.next.next.next.next.next.next.next.next.next.next.next.next.next.next.next.next.next.next.next.next.next.next.next.next.next.next.next.next.next.next.next.next.next.next.next.next.next.next.next.next.next.next.next.here
        have h145 : (s 145) = .string tC := hk.next.next.next.next.next.next.next.next.next.next.next.next.next.next.next.next.next.next.next.next.next.next.next.next.next.next.next.next.next.next.next.next.next.next.next.next.next.next.next.next.next.next.next.next.next.next.next.next.next.next.next.next.here
        have h146 : (s 146) = .bool true := hk.next.next.next.next.next.next.next.next.next.next.next.next.next.next.next.next.next.next.next.next.next.next.next.next.next.next.next.next.next.next.next.next.next.next.next.next.next.next.next.next.next.next.next.next.next.next.next.next.next.next.next.next.next.here
        have h147 : (s 147) = .bool true := hk.next.next.next.next.next.next.next.next.next.next.next.next.next.next.next.next.next.next.next.next.next.next.next.next.next.next.next.next.next.next.next.next.next.next.next.next.next.next.next.next.next.next.next.next.next.next.next.next.next.next.next.next.next.next.here
        have h148 : (s 148) = .bool true := hk.next.next.next.next.next.next.next.next.next.next.next.next.next.next.next.next.next.next.next.next.next.next.next.next.next.next.next.next.next.next.next.next.next.next.next.next.next.next.next.next.next.next.next.next.next.next.next.next.next.next.next.next.next.next.next.here
        have h149 : (s 149) = .agg #[.slice A1 l1 c1, .bool b1, .slice A1' l1' c1', .bool b1'] := hk.next.next.next.next.next.next.next.next.next.next.next.next.next.next.next.next.next.next.next.next.next.next.next.next.next.next.next.next.next.next.next.next.next.next.next.next.next.next.next.next.next.next.next.next.next.next.next.next.next.next.next.next.next.next.next.next.here
        have h150 : (s 150) = .agg #[.slice A2 l2 c2, .bool b2, .slice A2' l2' c2', .bool b2'] := hk.next.next.next.next.next.next.next.next.next.next.next.next.next.next.next.next.next.next.next.next.next.next.next.next.next.next.next.next.next.next.next.next.next.next.next.next.next.next.next.next.next.next.next.next.next.next.next.next.next.next.next.next.next.next.next.next.next.here
        have h151 : (s 151) = .int .i64 cc := hk.next.next.next.next.next.next.next.next.next.next.next.next.next.next.next.next.next.next.next.next.next.next.next.next.next.next.next.next.next.next.next.next.next.next.next.next.next.next.next.next.next.next.next.next.next.next.next.next.next.next.next.next.next.next.next.next.next.next.here
        have h152 : (s 152) = .agg #[.slice A2 l2 c2, .bool b2, .slice A2' l2' c2', .bool b2'] := hk.next.next.next.next.next.next.next.next.next.next.next.next.next.next.next.next.next.next.next.next.next.next.next.next.next.next.next.next.next.next.next.next.next.next.next.next.next.next.next.next.next.next.next.next.next.next.next.next.next.next.next.next.next.next.next.next.next.next.next.here
        have h153 : (s 153) = .agg #[.slice A1 l1 c1, .bool b1, .slice A1' l1' c1', .bool b1'] := hk.next.next.next.next.next.next.next.next.next.next.next.next.next.next.next.next.next.next.next.next.next.next.next.next.next.next.next.next.next.next.next.next.next.next.next.next.next.next.next.next.next.next.next.next.next.next.next.next.next.next.next.next.next.next.next.next.next.next.next.next.here
        have h154 : (s 154) = .int .i64 (-cc) := hk.next.next.next.next.next.next.next.next.next.next.next.next.next.next.next.next.next.next.next.next.next.next.next.next.next.next.next.next.next.next.next.next.next.next.next.next.next.next.next.next.next.next.next.next.next.next.next.next.next.next.next.next.next.next.next.next.next.next.next.next.next.here
        have h155 : (s 155) = .int .i64 cc := hk.next.next.next.next.next.next.next.next.next.next.next.next.next.next.next.next.next.next.next.next.next.next.next.next.next.next.next.next.next.next.next.next.next.next.next.next.next.next.next.next.next.next.next.next.next.next.next.next.next.next.next.next.next.next.next.next.next.next.next.next.next.next.here
        have h156 : (s 156) = .bool true := hk.next.next.next.next.next.next.next.next.next.next.next.next.next.next.next.next.next.next.next.next.next.next.next.next.next.next.next.next.next.next.next.next.next.next.next.next.next.next.next.next.next.next.next.next.next.next.next.next.next.next.next.next.next.next.next.next.next.next.next.next.next.next.next.here
        have h157 : (s 157) = .bool true := hk.next.next.next.next.next.next.next.next.next.next.next.next.next.next.next.next.next.next.next.next.next.next.next.next.next.next.next.next.next.next.next.next.next.next.next.next.next.next.next.next.next.next.next.next.next.next.next.next.next.next.next.next.next.next.next.next.next.next.next.next.next.next.next.next.here
        have h158 : (s 158) = .bool true := hk.next.next.next.next.next.next.next.next.next.next.next.next.next.next.next.next.next.next.next.next.next.next.next.next.next.next.next.next.next.next.next.next.next.next.next.next.next.next.next.next.next.next.next.next.next.next.next.next.next.next.next.next.next.next.next.next.next.next.next.next.next.next.next.next.next.here
        have h159 : (s 159) = .agg #[.slice A1 l1 c1, .bool b1, .slice A1' l1' c1', .bool b1'] := hk.next.next.next.next.next.next.next.next.next.next.next.next.next.next.next.next.next.next.next.next.next.next.next.next.next.next.next.next.next.next.next.next.next.next.next.next.next.next.next.next.next.next.next.next.next.next.next.next.next.next.next.next.next.next.next.next.next.next.next.next.next.next.next.next.next.next.here
        have h160 : (s 160) = .agg #[.slice A2 l2 c2, .bool b2, .slice A2' l2' c2', .bool b2'] := hk.next.next.next.next.next.next.next.next.next.next.next.next.next.next.next.next.next.next.next.next.next.next.next.next.next.next.next.next.next.next.next.next.next.next.next.next.next.next.next.next.next.next.next.next.next.next.next.next.next.next.next.next.next.next.next.next.next.next.next.next.next.next.next.next.next.next.next.here
        have h161 : RatB V0 (s 161) ndab ddab 1025 := hk.next.next.next.next.next.next.next.next.next.next.next.next.next.next.next.next.next.next.next.next.next.next.next.next.next.next.next.next.next.next.next.next.next.next.next.next.next.next.next.next.next.next.next.next.next.next.next.next.next.next.next.next.next.next.next.next.next.next.next.next.next.next.next.next.next.next.next.next.here
        have h162 : (s 162) = .int .i64 cc := hk.next.next.next.next.next.next.next.next.next.next.next.next.next.next.next.next.next.next.next.next.next.next.next.next.next.next.next.next.next.next.next.next.next.next.next.next.next.next.next.next.next.next.next.next.next.next.next.next.next.next.next.next.next.next.next.next.next.next.next.next.next.next.next.next.next.next.next.next.next.here
        have h163 : (s 163) = .agg #[.slice A1 l1 c1, .bool b1, .slice A1' l1' c1', .bool b1'] := hk.next.next.next.next.next.next.next.next.next.next.next.next.next.next.next.next.next.next.next.next.next.next.next.next.next.next.next.next.next.next.next.next.next.next.next.next.next.next.next.next.next.next.next.next.next.next.next.next.next.next.next.next.next.next.next.next.next.next.next.next.next.next.next.next.next.next.next.next.next.next.here
        have h164 : (s 164) = .agg #[.slice A2 l2 c2, .bool b2, .slice A2' l2' c2', .bool b2'] := hk.next.next.next.next.next.next.next.next.next.next.next.next.next.next.next.next.next.next.next.next.next.next.next.next.next.next.next.next.next.next.next.next.next.next.next.next.next.next.next.next.next.next.next.next.next.next.next.next.next.next.next.next.next.next.next.next.next.next.next.next.next.next.next.next.next.next.next.next.next.next.next.here
        have h165 : (s 165) = .int .i64 cc := hk.next.next.next.next.next.next.next.next.next.next.next.next.next.next.next.next.next.next.next.next.next.next.next.next.next.next.next.next.next.next.next.next.next.next.next.next.next.next.next.next.next.next.next.next.next.next.next.next.next.next.next.next.next.next.next.next.next.next.next.next.next.next.next.next.next.next.next.next.next.next.next.next.here
        have h166 : (s 166) = .bool true := hk.next.next.next.next.next.next.next.next.next.next.next.next.next.next.next.next.next.next.next.next.next.next.next.next.next.next.next.next.next.next.next.next.next.next.next.next.next.next.next.next.next.next.next.next.next.next.next.next.next.next.next.next.next.next.next.next.next.next.next.next.next.next.next.next.next.next.next.next.next.next.next.next.next.here
        have h167 : (s 167) = .bool true := hk.next.next.next.next.next.next.next.next.next.next.next.next.next.next.next.next.next.next.next.next.next.next.next.next.next.next.next.next.next.next.next.next.next.next.next.next.next.next.next.next.next.next.next.next.next.next.next.next.next.next.next.next.next.next.next.next.next.next.next.next.next.next.next.next.next.next.next.next.next.next.next.next.next.next.here
        clear hk
        simp only [fr, fill, Nat.reduceAdd, Act.put, List.setIfInBounds_toArray, List.set_cons_zero, List.set_cons_succ]
        generalize s 93 = x93 at *
        generalize s 94 = x94 at *
        generalize s 95 = x95 at *
        generalize s 96 = x96 at *
        generalize s 97 = x97 at *
        generalize s 98 = x98 at *
        generalize s 99 = x99 at *
        generalize s 100 = x100 at *
        generalize s 101 = x101 at *
        generalize s 102 = x102 at *
        generalize s 103 = x103 at *
        generalize s 104 = x104 at *
        generalize s 105 = x105 at *
        generalize s 106 = x106 at *
        generalize s 107 = x107 at *
        generalize s 108 = x108 at *
        generalize s 109 = x109 at *
        generalize s 110 = x110 at *
        generalize s 111 = x111 at *
        generalize s 112 = x112 at *
        generalize s 113 = x113 at *
        generalize s 114 = x114 at *
        generalize s 115 = x115 at *
        generalize s 116 = x116 at *
        generalize s 117 = x117 at *
        generalize s 118 = x118 at *
        generalize s 119 = x119 at *
        generalize s 120 = x120 at *
        generalize s 121 = x121 at *
        generalize s 122 = x122 at *
        generalize s 123 = x123 at *
        generalize s 124 = x124 at *
        generalize s 125 = x125 at *
        generalize s 126 = x126 at *
        generalize s 127 = x127 at *
        generalize s 128 = x128 at *
        generalize s 129 = x129 at *
        generalize s 130 = x130 at *
        generalize s 131 = x131 at *
        generalize s 132 = x132 at *
        generalize s 133 = x133 at *
        generalize s 134 = x134 at *
        generalize s 135 = x135 at *
        generalize s 136 = x136 at *
        generalize s 137 = x137 at *
        generalize s 138 = x138 at *
        generalize s 139 = x139 at *
        generalize s 140 = x140 at *
        generalize s 141 = x141 at *
        generalize s 142 = x142 at *
        generalize s 143 = x143 at *
        generalize s 144 = x144 at *
        generalize s 145 = x145 at *
        generalize s 146 = x146 at *
        generalize s 147 = x147 at *
        generalize s 148 = x148 at *
        generalize s 149 = x149 at *
        generalize s 150 = x150 at *
        generalize s 151 = x151 at *
        generalize s 152 = x152 at *
        generalize s 153 = x153 at *
        generalize s 154 = x154 at *
        generalize s 155 = x155 at *
        generalize s 156 = x156 at *
        generalize s 157 = x157 at *
        generalize s 158 = x158 at *
        generalize s 159 = x159 at *
        generalize s 160 = x160 at *
        generalize s 161 = x161 at *
        generalize s 162 = x162 at *
        generalize s 163 = x163 at *
        generalize s 164 = x164 at *
        generalize s 165 = x165 at *
        generalize s 166 = x166 at *
        generalize s 167 = x167 at *
        subst h93
        subst h94
        subst h96
        subst h98
        subst h99
        subst h100
        subst h101
        subst h102
        subst h103
        subst h104
        subst h107
        subst h108
        subst h109
        subst h111
        subst h112
        subst h115
        subst h116
        subst h117
        subst h118
        subst h119
        subst h120
        subst h122
        subst h124
        subst h125
        subst h126
        subst h128
        subst h130
        subst h131
        subst h132
        subst h133
        subst h134
        subst h135
        subst h137
        subst h139
        subst h140
        subst h141
        subst h143
        subst h145
        subst h146
        subst h147
        subst h148
        subst h149
        subst h150
        subst h151
        subst h152
        subst h153
        subst h154
        subst h155
        subst h156
        subst h157
        subst h158
        subst h159
        subst h160
        subst h162
        subst h163
        subst h164
        subst h165
        subst h166
        subst h167
        refine wpAny_chain [75] _ _ _ (by kernel_rfl) ?_
        change wpList _ _ _ [_] _ _
        have HNF := Lib.hid (HN6.out.trans hn)
        clear hn h95 h97 h105 h106 h110 h113 h114 h121 h123 h127 h129 h136 h138 h142 h144 h161 
        refine wpList_plain rfl fun K75 hK75 => ?_
        go_simp
        refine hK75 _ _ ?_
        clear hK75
        change Exit.then _ _ .normal _ _
        simp only [Exit.then]
        go_wp2_with fail
        go_ret
        exact ⟨rfl, HNF.out⟩
    · obtain ⟨hql, hqt⟩ := div_back lo1 lo2 h0
      have hdv : divI (d1 * n2) = 0 := by unfold divI; rw [if_neg (Int.mul_ne_zero (by have := lo1.1; omega) h0)]
      obtain ⟨ss, hss⟩ : ∃ s, sgZ n2 = s := ⟨_, rfl⟩
      have hs0 : (ss == 0) = false := by rw [beq_eq_false_iff_ne, ← hss]; unfold sgZ; (repeat' split) <;> omega
      have hs1 : (ss != 0) = true := by simp [bne, hs0]
      have hs2 : ¬ ss = 0 := by simpa using hs0
      simp only [hdv] at HQ
      have HSB := Lib.hid (fun W v (h : RatB W v n2 d2 256) => rsg_w ss h (by omega) hss)
      rw [tx1] at hqt
      generalize mkN (n1 * d2) (d1 * n2) = qn at *
      generalize mkD (n1 * d2) (d1 * n2) = qd at *
      have HQD := Lib.hid HQ
      have hqm := fun W u v (h : RatB W u qn qd 512) (h2 : RatB W v n2 d2 256) => qmul_n h (h2.more (show 256 ≤ 512 by omega)) (by omega) (by omega)
      simp only [denZ_pos hql.1, denZ_pos lo2.1] at hqm
      have HQM := Lib.hid hqm
      have HQT := Lib.hid (fun W v (h : RatB W v (mkN (qn * n2) (qd * d2)) (mkD (qn * n2) (qd * d2)) 1024) (hn : New w W) => qtext_w a h (by omega) (by omega) (tabIs_new hn HTAB.out) hqt)
      have htb : (a.toList != a.toList) = false := by simp
      clear HQ hdv hss h0 r1 r2 lo1 lo2 lo3 tx1 tx2 tx3 hql hqt hqm
      obtain ⟨x0, x1, x2, x3⟩ := T1.out.bx.cells4
      obtain ⟨y0, y1, y2, y3⟩ := T2.out.bx.cells4
      go_wp2_with fail
      refine (HQD.out _ _ _ T1.out.rv T2.out.rv).mono ?_
      rintro e w5 ⟨v5, rfl, hv, hn⟩
      obtain ⟨A4, l4, c4, A4', l4', c4', rfl⟩ := RatB.form hv
      generalize decide (qn < 0) = b4 at *
      generalize decide (qd < 0) = b4' at *
      have T4 := Lib.hid (QY.last hv)
      have hnn := hn.alloc (.cells #[.slice A4 l4 c4, .bool b4, .slice A4' l4' c4', .bool b4'] NRat)
      replace T1 := Lib.hid (T1.out.new hnn)
      replace T2 := Lib.hid (T2.out.new hnn)
      replace T3 := Lib.hid (T3.out.new hnn)
      have HN5 := Lib.hid (HN4.out.trans hnn)
      clear hv hn hnn HN4 x0 x1 x2 x3 y0 y1 y2 y3
      obtain ⟨y0, y1, y2, y3⟩ := T2.out.bx.cells4
      go_wp2_with fail
      refine (HSB.out _ _ T2.out.rv).mono ?_
      rintro e w6 ⟨rfl, hn⟩
      have hnn := hn
      replace T1 := Lib.hid (T1.out.new hnn)
      replace T2 := Lib.hid (T2.out.new hnn)
      replace T3 := Lib.hid (T3.out.new hnn)
      replace T4 := Lib.hid (T4.out.new hnn)
      have HN6 := Lib.hid (HN5.out.trans hnn)
      clear hn hnn HN5 y0 y1 y2 y3
      obtain ⟨x0, x1, x2, x3⟩ := T4.out.bx.cells4
      obtain ⟨y0, y1, y2, y3⟩ := T2.out.bx.cells4
      go_wp2_with fail
      refine (HQM.out _ _ _ T4.out.rv T2.out.rv).mono ?_
      rintro e w7 ⟨v7, rfl, hv, hn⟩
      have X7 := Lib.hid hv
      have hnn := hn
      replace T1 := Lib.hid (T1.out.new hnn)
      replace T2 := Lib.hid (T2.out.new hnn)
      replace T3 := Lib.hid (T3.out.new hnn)
      have HN7 := Lib.hid (HN6.out.trans hnn)
      clear hv hn hnn HN6 x0 x1 x2 x3 y0 y1 y2 y3 T4
      go_wp2_with fail
      refine (HQT.out _ _ X7.out HN7.out).mono ?_
      rintro e w8 ⟨rfl, hn⟩
      have hnn := hn
      replace T1 := Lib.hid (T1.out.new hnn)
      replace T2 := Lib.hid (T2.out.new hnn)
      replace T3 := Lib.hid (T3.out.new hnn)
      have HN8 := Lib.hid (HN7.out.trans hnn)
      clear hn hnn HN7 X7
      go_wp2_with fail
      generalize w2.heap.size = p1 at *
      generalize w3.heap.size = p2 at *
      generalize w4.heap.size = p3 at *
      have hwr : IntKind.i64.wrap cc = cc := by rcases hcv with h | h | h <;> rw [h] <;> decide +kernel
      have hwr2 : IntKind.i64.wrap (- -cc) = cc := by rw [Int.neg_neg]; exact hwr
      have hwr3 : wrap64 cc = cc := by rcases hcv with h | h | h <;> rw [h] <;> decide +kernel
      clear hcv
      refine wp_region_rel (by kernel_rfl) (VL [(93, fun ww vv => vv = .agg #[.slice A1 l1 c1, .bool b1, .slice A1' l1' c1', .bool b1']), (94, fun ww vv => vv = .agg #[.slice A2 l2 c2, .bool b2, .slice A2' l2' c2', .bool b2']), (95, fun ww vv => RatB ww vv nab dab 1025), (96, fun ww vv => vv = .agg #[.slice A2 l2 c2, .bool b2, .slice A2' l2' c2', .bool b2']), (97, fun ww vv => RatB ww vv nabb dabb 4101), (98, fun ww vv => vv = .string a), (99, fun ww vv => vv = .string a), (100, fun ww vv => vv = .bool true), (101, fun ww vv => vv = .bool true), (102, fun ww vv => vv = .agg #[.slice A1 l1 c1, .bool b1, .slice A1' l1' c1', .bool b1']), (103, fun ww vv => vv = .agg #[.slice A2 l2 c2, .bool b2, .slice A2' l2' c2', .bool b2']), (104, fun ww vv => vv = .agg #[.slice A3 l3 c3, .bool b3, .slice A3' l3' c3', .bool b3']), (105, fun ww vv => RatB ww vv nbc dbc 1025), (106, fun ww vv => RatB ww vv nabc dabc 2050), (107, fun ww vv => vv = .string tA), (108, fun ww vv => vv = .agg #[.slice A1 l1 c1, .bool b1, .slice A1' l1' c1', .bool b1']), (109, fun ww vv => vv = .agg #[.slice A2 l2 c2, .bool b2, .slice A2' l2' c2', .bool b2']), (110, fun ww vv => RatB ww vv nmab dmab 512), (111, fun ww vv => vv = .agg #[.slice A1 l1 c1, .bool b1, .slice A1' l1' c1', .bool b1']), (112, fun ww vv => vv = .agg #[.slice A3 l3 c3, .bool b3, .slice A3' l3' c3', .bool b3']), (113, fun ww vv => RatB ww vv nmac dmac 512), (114, fun ww vv => RatB ww vv ns2 ds2 2049), (115, fun ww vv => vv = .string tA), (116, fun ww vv => vv = .bool true), (117, fun ww vv => vv = .bool true), (118, fun ww vv => vv = .bool true), (119, fun ww vv => vv = .agg #[.slice A1 l1 c1, .bool b1, .slice A1' l1' c1', .bool b1']), (120, fun ww vv => vv = .agg #[.slice A2 l2 c2, .bool b2, .slice A2' l2' c2', .bool b2']), (121, fun ww vv => RatB ww vv nab dab 1025), (122, fun ww vv => vv = .agg #[.slice A3 l3 c3, .bool b3, .slice A3' l3' c3', .bool b3']), (123, fun ww vv => RatB ww vv nt1 dt1 4101), (124, fun ww vv => vv = .string tB), (125, fun ww vv => vv = .agg #[.slice A3 l3 c3, .bool b3, .slice A3' l3' c3', .bool b3']), (126, fun ww vv => vv = .agg #[.slice A1 l1 c1, .bool b1, .slice A1' l1' c1', .bool b1']), (127, fun ww vv => RatB ww vv nca dca 1025), (128, fun ww vv => vv = .agg #[.slice A2 l2 c2, .bool b2, .slice A2' l2' c2', .bool b2']), (129, fun ww vv => RatB ww vv nt2 dt2 4101), (130, fun ww vv => vv = .string tB), (131, fun ww vv => vv = .bool true), (132, fun ww vv => vv = .bool true), (133, fun ww vv => vv = .bool true), (134, fun ww vv => vv = .agg #[.slice A1 l1 c1, .bool b1, .slice A1' l1' c1', .bool b1']), (135, fun ww vv => vv = .agg #[.slice A2 l2 c2, .bool b2, .slice A2' l2' c2', .bool b2']), (136, fun ww vv => RatB ww vv nmab dmab 512), (137, fun ww vv => vv = .agg #[.slice A3 l3 c3, .bool b3, .slice A3' l3' c3', .bool b3']), (138, fun ww vv => RatB ww vv nu1 du1 1024), (139, fun ww vv => vv = .string tC), (140, fun ww vv => vv = .agg #[.slice A3 l3 c3, .bool b3, .slice A3' l3' c3', .bool b3']), (141, fun ww vv => vv = .agg #[.slice A1 l1 c1, .bool b1, .slice A1' l1' c1', .bool b1']), (142, fun ww vv => RatB ww vv nmca dmca 512), (143, fun ww vv => vv = .agg #[.slice A2 l2 c2, .bool b2, .slice A2' l2' c2', .bool b2']), (144, fun ww vv => RatB ww vv nu2 du2 1024), (145, fun ww vv => vv = .string tC), (146, fun ww vv => vv = .bool true), (147, fun ww vv => vv = .bool true), (148, fun ww vv => vv = .bool true), (149, fun ww vv => vv = .agg #[.slice A1 l1 c1, .bool b1, .slice A1' l1' c1', .bool b1']), (150, fun ww vv => vv = .agg #[.slice A2 l2 c2, .bool b2, .slice A2' l2' c2', .bool b2']), (151, fun ww vv => vv = .int .i64 cc), (152, fun ww vv => vv = .agg #[.slice A2 l2 c2, .bool b2, .slice A2' l2' c2', .bool b2']), (153, fun ww vv => vv = .agg #[.slice A1 l1 c1, .bool b1, .slice A1' l1' c1', .bool b1']), (154, fun ww vv => vv = .int .i64 (-cc)), (155, fun ww vv => vv = .int .i64 cc), (156, fun ww vv => vv = .bool true), (157, fun ww vv => vv = .bool true), (158, fun ww vv => vv = .bool true), (159, fun ww vv => vv = .agg #[.slice A1 l1 c1, .bool b1, .slice A1' l1' c1', .bool b1']), (160, fun ww vv => vv = .agg #[.slice A2 l2 c2, .bool b2, .slice A2' l2' c2', .bool b2']), (161, fun ww vv => RatB ww vv ndab ddab 1025), (162, fun ww vv => vv = .int .i64 cc), (163, fun ww vv => vv = .agg #[.slice A1 l1 c1, .bool b1, .slice A1' l1' c1', .bool b1']), (164, fun ww vv => vv = .agg #[.slice A2 l2 c2, .bool b2, .slice A2' l2' c2', .bool b2']), (165, fun ww vv => vv = .int .i64 cc), (166, fun ww vv => vv = .bool true), (167, fun ww vv => vv = .bool true)]) (by exact VL_mono ⟨fun _ _ _ h _ => h, fun _ _ _ h _ => h, fun _ _ _ h hn => RatB.new h hn, fun _ _ _ h _ => h, fun _ _ _ h hn => RatB.new h hn, fun _ _ _ h _ => h, fun _ _ _ h _ => h, fun _ _ _ h _ => h, fun _ _ _ h _ => h, fun _ _ _ h _ => h, fun _ _ _ h _ => h, fun _ _ _ h _ => h, fun _ _ _ h hn => RatB.new h hn, fun _ _ _ h hn => RatB.new h hn, fun _ _ _ h _ => h, fun _ _ _ h _ => h, fun _ _ _ h _ => h, fun _ _ _ h hn => RatB.new h hn, fun _ _ _ h _ => h, fun _ _ _ h _ => h, fun _ _ _ h hn => RatB.new h hn, fun _ _ _ h hn => RatB.new h hn, fun _ _ _ h _ => h, fun _ _ _ h _ => h, fun _ _ _ h _ => h, fun _ _ _ h _ => h, fun _ _ _ h _ => h, fun _ _ _ h _ => h, fun _ _ _ h hn => RatB.new h hn, fun _ _ _ h _ => h, fun _ _ _ h hn => RatB.new h hn, fun _ _ _ h _ => h, fun _ _ _ h _ => h, fun _ _ _ h _ => h, fun _ _ _ h hn => RatB.new h hn, fun _ _ _ h _ => h, fun _ _ _ h hn => RatB.new h hn, fun _ _ _ h _ => h, fun _ _ _ h _ => h, fun _ _ _ h _ => h, fun _ _ _ h _ => h, fun _ _ _ h _ => h, fun _ _ _ h _ => h, fun _ _ _ h hn => RatB.new h hn, fun _ _ _ h _ => h, fun _ _ _ h hn => RatB.new h hn, fun _ _ _ h _ => h, fun _ _ _ h _ => h, fun _ _ _ h _ => h, fun _ _ _ h hn => RatB.new h hn, fun _ _ _ h _ => h, fun _ _ _ h hn => RatB.new h hn, fun _ _ _ h _ => h, fun _ _ _ h _ => h, fun _ _ _ h _ => h, fun _ _ _ h _ => h, fun _ _ _ h _ => h, fun _ _ _ h _ => h, fun _ _ _ h _ => h, fun _ _ _ h _ => h, fun _ _ _ h _ => h, fun _ _ _ h _ => h, fun _ _ _ h _ => h, fun _ _ _ h _ => h, fun _ _ _ h _ => h, fun _ _ _ h _ => h, fun _ _ _ h _ => h, fun _ _ _ h _ => h, fun _ _ _ h hn => RatB.new h hn, fun _ _ _ h _ => h, fun _ _ _ h _ => h, fun _ _ _ h _ => h, fun _ _ _ h _ => h, fun _ _ _ h _ => h, fun _ _ _ h _ => h, trivial⟩) _ _ [false, false, false, false, false, false, false, false, false, false, false, false, false, false, false, false, false, false, false, false, false, false, false, false, false, false, false, false, false, false, false, false, false, false, false, false, false, false, false, false, false, false, false, false, false, false, false, false, false, false, false, false, false, false, false, false, false, false, false, false, false, false, false, false, false, false, false, false, false, false, false, false, false, false, false, false, false, false, false, false, false, false, false, false, false, false, false, false, false, false, false, false, false, true, true, true, true, true, true, true, true, true, true, true, true, true, true, true, true, true, true, true, true, true, true, true, true, true, true, true, true, true, true, true, true, true, true, true, true, true, true, true, true, true, true, true, true, true, true, true, true, true, true, true, true, true, true, true, true, true, true, true, true, true, true, true, true, true, true, true, true, true, true, true, true, true, true, true] [true, true, true, true, true, true, true, true, true, true, true, true, true, true, true, true, true, true, true, true, true, true, true, true, true, true, true, true, true, true, true, true, true, true, true, true, true, true, true, true, true, true, true, true, true, true, true, true, true, true, true, true, true, true, true, true, true, true, true, true, true, true, true, true, true, true, true, true, true, true, true, true, true, true, true, false] [false, false, false, false, false, false, false, false, false, false, false, false, false, false, false, false, false, false, false, false, false, false, false, false, false, false, false, false, false, false, false, false, false, false, false, false, false, false, false, false, false, false, false, false, false, false, false, false, false, false, false, false, false, false, false, false, false, false, false, false, false, false, false, false, false, false, false, false, false, false, false, false, false, false, false, false] [[], [], [93, 94], [], [95, 96], [97], [], [98, 99], [100], [101], [101], [101], [103, 104, 101], [102, 105, 101], [106, 101], [101], [101], [108, 109, 101], [101], [101], [111, 112, 101], [110, 113, 101], [114, 101], [107, 115, 101], [101, 116], [117], [118], [118], [119, 120, 118], [118], [121, 122, 118], [123, 118], [118], [118], [125, 126, 118], [118], [127, 128, 118], [129, 118], [124, 130, 118], [118, 131], [132], [133], [133], [134, 135, 133], [133], [136, 137, 133], [138, 133], [133], [133], [140, 141, 133], [133], [142, 143, 133], [144, 133], [139, 145, 133], [133, 146], [147], [148], [148], [149, 150, 148], [148], [148], [152, 153, 148], [154, 148], [151, 155, 148], [148, 156], [157], [158], [158], [159, 160, 158], [161, 158], [158], [158], [163, 164, 158], [162, 165, 158], [158, 166], []] [93, 94, 95, 96, 97, 98, 99, 100, 101, 102, 103, 104, 105, 106, 107, 108, 109, 110, 111, 112, 113, 114, 115, 116, 117, 118, 119, 120, 121, 122, 123, 124, 125, 126, 127, 128, 129, 130, 131, 132, 133, 134, 135, 136, 137, 138, 139, 140, 141, 142, 143, 144, 145, 146, 147, 148, 149, 150, 151, 152, 153, 154, 155, 156, 157, 158, 159, 160, 161, 162, 163, 164, 165, 166, 167] 1 (by kernel_rfl) rfl rfl (by kernel_rfl) (by kernel_rfl) (fun _ _ _ _ _ h => h) ⟨?o0, ?o1, ?o2, ?o3, ?o4, ?o5, ?o6, ?o7, ?o8, ?o9, ?o10, ?o11, ?o12, ?o13, ?o14, ?o15, ?o16, ?o17, ?o18, ?o19, ?o20, ?o21, ?o22, ?o23, ?o24, ?o25, ?o26, ?o27, ?o28, ?o29, ?o30, ?o31, ?o32, ?o33, ?o34, ?o35, ?o36, ?o37, ?o38, ?o39, ?o40, ?o41, ?o42, ?o43, ?o44, ?o45, ?o46, ?o47, ?o48, ?o49, ?o50, ?o51, ?o52, ?o53, ?o54, ?o55, ?o56, ?o57, ?o58, ?o59, ?o60, ?o61, ?o62, ?o63, ?o64, ?o65, ?o66, ?o67, ?o68, ?o69, ?o70, ?o71, ?o72, ?o73, ?o74, trivial⟩ ?last
      case o0 =>
        intro s w' K hn hk hK
        clear hk
        simp only [fr, fill, Nat.reduceAdd, Act.put, List.setIfInBounds_toArray, List.set_cons_zero, List.set_cons_succ] at hK ⊢
        have hc := T1.out.bx.new hn
        obtain ⟨c0, c1, c2, c3⟩ := hc.cells4
        clear hc
        refine ⟨true, rfl, ?_⟩
        show Oper.wp _ _ _ _ _ _
        (first | go_big_op | go_simp)
        exact hK _ _ (New.refl _) rfl
      case o1 =>
        intro s w' K hn hk hK
        clear hk
        simp only [fr, fill, Nat.reduceAdd, Act.put, List.setIfInBounds_toArray, List.set_cons_zero, List.set_cons_succ] at hK ⊢
        have hc := T2.out.bx.new hn
        obtain ⟨c0, c1, c2, c3⟩ := hc.cells4
        clear hc
        refine ⟨true, rfl, ?_⟩
        show Oper.wp _ _ _ _ _ _
        (first | go_big_op | go_simp)
        exact hK _ _ (New.refl _) rfl
      case o2 =>
        intro s w' K hn hk hK
        have h93 : (s 93) = .agg #[.slice A1 l1 c1, .bool b1, .slice A1' l1' c1', .bool b1'] := hk.here
        have h94 : (s 94) = .agg #[.slice A2 l2 c2, .bool b2, .slice A2' l2' c2', .bool b2'] := hk.next.here
        clear hk
        simp only [fr, fill, Nat.reduceAdd, Act.put, List.setIfInBounds_toArray, List.set_cons_zero, List.set_cons_succ] at hK ⊢
        generalize s 93 = x93 at *
        generalize s 94 = x94 at *
        subst h93
        subst h94
        refine ⟨true, rfl, ?_⟩
        show Oper.wp _ _ _ _ _ _
        (first | go_big_op | go_simp)
        refine (HCab.out _ _ _ (T1.out.rv.new hn) (T2.out.rv.new hn)).mono ?_
        rintro e' w'' ⟨v', rfl, hv', hn'⟩
        exact hK _ _ hn' hv'
      case o3 =>
        intro s w' K hn hk hK
        clear hk
        simp only [fr, fill, Nat.reduceAdd, Act.put, List.setIfInBounds_toArray, List.set_cons_zero, List.set_cons_succ] at hK ⊢
        have hc := T2.out.bx.new hn
        obtain ⟨c0, c1, c2, c3⟩ := hc.cells4
        clear hc
        refine ⟨true, rfl, ?_⟩
        show Oper.wp _ _ _ _ _ _
        (first | go_big_op | go_simp)
        exact hK _ _ (New.refl _) rfl
      case o4 =>
        intro s w' K hn hk hK
        have h95 : RatB w' (s 95) nab dab 1025 := hk.here
        have h96 : (s 96) = .agg #[.slice A2 l2 c2, .bool b2, .slice A2' l2' c2', .bool b2'] := hk.next.here
        clear hk
        simp only [fr, fill, Nat.reduceAdd, Act.put, List.setIfInBounds_toArray, List.set_cons_zero, List.set_cons_succ] at hK ⊢
        generalize s 95 = x95 at *
        generalize s 96 = x96 at *
        subst h96
        refine ⟨true, rfl, ?_⟩
        show Oper.wp _ _ _ _ _ _
        (first | go_big_op | go_simp)
        refine (HCabb.out _ _ _ h95 (RatB.more (T2.out.rv.new hn) (by omega))).mono ?_
        rintro e' w'' ⟨v', rfl, hv', hn'⟩
        exact hK _ _ hn' hv'
      case o5 =>
        intro s w' K hn hk hK
        have h97 : RatB w' (s 97) nabb dabb 4101 := hk.here
        clear hk
        simp only [fr, fill, Nat.reduceAdd, Act.put, List.setIfInBounds_toArray, List.set_cons_zero, List.set_cons_succ] at hK ⊢
        generalize s 97 = x97 at *
        refine ⟨true, rfl, ?_⟩
        show Oper.wp _ _ _ _ _ _
        (first | go_big_op | go_simp)
        refine (HX1.out _ _ h97 (HN8.out.trans hn)).mono ?_
        rintro e' w'' ⟨rfl, hn'⟩
        exact hK _ _ hn' rfl
      case o6 =>
        intro s w' K hn hk hK
        clear hk
        simp only [fr, fill, Nat.reduceAdd, Act.put, List.setIfInBounds_toArray, List.set_cons_zero, List.set_cons_succ] at hK ⊢
        refine ⟨true, rfl, ?_⟩
        show Oper.wp _ _ _ _ _ _
        (first | go_big_op | go_simp)
        exact hK _ _ (New.refl _) rfl
      case o7 =>
        intro s w' K hn hk hK
        have h98 : (s 98) = .string a := hk.here
        have h99 : (s 99) = .string a := hk.next.here
        clear hk
        simp only [fr, fill, Nat.reduceAdd, Act.put, List.setIfInBounds_toArray, List.set_cons_zero, List.set_cons_succ] at hK ⊢
        generalize s 98 = x98 at *
        generalize s 99 = x99 at *
        subst h98
        subst h99
        refine ⟨true, rfl, ?_⟩
        show Oper.wp _ _ _ _ _ _
        (first | go_big_op | go_simp)
        exact hK _ _ (New.refl _) rfl
      case o8 =>
        intro s w' K hn hk hK
        have h100 : (s 100) = .bool true := hk.here
        clear hk
        simp only [fr, fill, Nat.reduceAdd, Act.put, List.setIfInBounds_toArray, List.set_cons_zero, List.set_cons_succ] at hK ⊢
        generalize s 100 = x100 at *
        subst h100
        refine ⟨true, rfl, ?_⟩
        show Oper.wp _ _ _ _ _ _
        (first | go_big_op | go_simp)
        exact hK _ _ (New.refl _) rfl
      case o9 =>
        intro s w' K hn hk hK
        have h101 : (s 101) = .bool true := hk.here
        clear hk
        simp only [fr, fill, Nat.reduceAdd, Act.put, List.setIfInBounds_toArray, List.set_cons_zero, List.set_cons_succ] at hK ⊢
        generalize s 101 = x101 at *
        subst h101
        have hc := T1.out.bx.new hn
        obtain ⟨c0, c1, c2, c3⟩ := hc.cells4
        clear hc
        refine ⟨true, rfl, ?_⟩
        show Oper.wp _ _ _ _ _ _
        (first | go_big_op | go_simp)
        exact hK _ _ (New.refl _) rfl
      case o10 =>
        intro s w' K hn hk hK
        have h101 : (s 101) = .bool true := hk.here
        clear hk
        simp only [fr, fill, Nat.reduceAdd, Act.put, List.setIfInBounds_toArray, List.set_cons_zero, List.set_cons_succ] at hK ⊢
        generalize s 101 = x101 at *
        subst h101
        have hc := T2.out.bx.new hn
        obtain ⟨c0, c1, c2, c3⟩ := hc.cells4
        clear hc
        refine ⟨true, rfl, ?_⟩
        show Oper.wp _ _ _ _ _ _
        (first | go_big_op | go_simp)
        exact hK _ _ (New.refl _) rfl
      case o11 =>
        intro s w' K hn hk hK
        have h101 : (s 101) = .bool true := hk.here
        clear hk
        simp only [fr, fill, Nat.reduceAdd, Act.put, List.setIfInBounds_toArray, List.set_cons_zero, List.set_cons_succ] at hK ⊢
        generalize s 101 = x101 at *
        subst h101
        have hc := T3.out.bx.new hn
        obtain ⟨c0, c1, c2, c3⟩ := hc.cells4
        clear hc
        refine ⟨true, rfl, ?_⟩
        show Oper.wp _ _ _ _ _ _
        (first | go_big_op | go_simp)
        exact hK _ _ (New.refl _) rfl
      case o12 =>
        intro s w' K hn hk hK
        have h103 : (s 103) = .agg #[.slice A2 l2 c2, .bool b2, .slice A2' l2' c2', .bool b2'] := hk.here
        have h104 : (s 104) = .agg #[.slice A3 l3 c3, .bool b3, .slice A3' l3' c3', .bool b3'] := hk.next.here
        have h101 : (s 101) = .bool true := hk.next.next.here
        clear hk
        simp only [fr, fill, Nat.reduceAdd, Act.put, List.setIfInBounds_toArray, List.set_cons_zero, List.set_cons_succ] at hK ⊢
        generalize s 103 = x103 at *
        generalize s 104 = x104 at *
        generalize s 101 = x101 at *
        subst h103
        subst h104
        subst h101
        refine ⟨true, rfl, ?_⟩
        show Oper.wp _ _ _ _ _ _
        (first | go_big_op | go_simp)
        refine (HCbc.out _ _ _ (T2.out.rv.new hn) (T3.out.rv.new hn)).mono ?_
        rintro e' w'' ⟨v', rfl, hv', hn'⟩
        exact hK _ _ hn' hv'
      case o13 =>
        intro s w' K hn hk hK
        have h102 : (s 102) = .agg #[.slice A1 l1 c1, .bool b1, .slice A1' l1' c1', .bool b1'] := hk.here
        have h105 : RatB w' (s 105) nbc dbc 1025 := hk.next.here
        have h101 : (s 101) = .bool true := hk.next.next.here
        clear hk
        simp only [fr, fill, Nat.reduceAdd, Act.put, List.setIfInBounds_toArray, List.set_cons_zero, List.set_cons_succ] at hK ⊢
        generalize s 102 = x102 at *
        generalize s 105 = x105 at *
        generalize s 101 = x101 at *
        subst h102
        subst h101
        refine ⟨true, rfl, ?_⟩
        show Oper.wp _ _ _ _ _ _
        (first | go_big_op | go_simp)
        refine (HCabc.out _ _ _ (RatB.more (T1.out.rv.new hn) (by omega)) h105).mono ?_
        rintro e' w'' ⟨v', rfl, hv', hn'⟩
        exact hK _ _ hn' hv'
      case o14 =>
        intro s w' K hn hk hK
        have h106 : RatB w' (s 106) nabc dabc 2050 := hk.here
        have h101 : (s 101) = .bool true := hk.next.here
        clear hk
        simp only [fr, fill, Nat.reduceAdd, Act.put, List.setIfInBounds_toArray, List.set_cons_zero, List.set_cons_succ] at hK ⊢
        generalize s 106 = x106 at *
        generalize s 101 = x101 at *
        subst h101
        refine ⟨true, rfl, ?_⟩
        show Oper.wp _ _ _ _ _ _
        (first | go_big_op | go_simp)
        refine (HX2.out _ _ h106 (HN8.out.trans hn)).mono ?_
        rintro e' w'' ⟨rfl, hn'⟩
        exact hK _ _ hn' rfl
      case o15 =>
        intro s w' K hn hk hK
        have h101 : (s 101) = .bool true := hk.here
        clear hk
        simp only [fr, fill, Nat.reduceAdd, Act.put, List.setIfInBounds_toArray, List.set_cons_zero, List.set_cons_succ] at hK ⊢
        generalize s 101 = x101 at *
        subst h101
        have hc := T1.out.bx.new hn
        obtain ⟨c0, c1, c2, c3⟩ := hc.cells4
        clear hc
        refine ⟨true, rfl, ?_⟩
        show Oper.wp _ _ _ _ _ _
        (first | go_big_op | go_simp)
        exact hK _ _ (New.refl _) rfl
      case o16 =>
        intro s w' K hn hk hK
        have h101 : (s 101) = .bool true := hk.here
        clear hk
        simp only [fr, fill, Nat.reduceAdd, Act.put, List.setIfInBounds_toArray, List.set_cons_zero, List.set_cons_succ] at hK ⊢
        generalize s 101 = x101 at *
        subst h101
        have hc := T2.out.bx.new hn
        obtain ⟨c0, c1, c2, c3⟩ := hc.cells4
        clear hc
        refine ⟨true, rfl, ?_⟩
        show Oper.wp _ _ _ _ _ _
        (first | go_big_op | go_simp)
        exact hK _ _ (New.refl _) rfl
      case o17 =>
        intro s w' K hn hk hK
        have h108 : (s 108) = .agg #[.slice A1 l1 c1, .bool b1, .slice A1' l1' c1', .bool b1'] := hk.here
        have h109 : (s 109) = .agg #[.slice A2 l2 c2, .bool b2, .slice A2' l2' c2', .bool b2'] := hk.next.here
        have h101 : (s 101) = .bool true := hk.next.next.here
        clear hk
        simp only [fr, fill, Nat.reduceAdd, Act.put, List.setIfInBounds_toArray, List.set_cons_zero, List.set_cons_succ] at hK ⊢
        generalize s 108 = x108 at *
        generalize s 109 = x109 at *
        generalize s 101 = x101 at *
        subst h108
        subst h109
        subst h101
        refine ⟨true, rfl, ?_⟩
        show Oper.wp _ _ _ _ _ _
        (first | go_big_op | go_simp)
        refine (HCmab.out _ _ _ (T1.out.rv.new hn) (T2.out.rv.new hn)).mono ?_
        rintro e' w'' ⟨v', rfl, hv', hn'⟩
        exact hK _ _ hn' hv'
      case o18 =>
        intro s w' K hn hk hK
        have h101 : (s 101) = .bool true := hk.here
        clear hk
        simp only [fr, fill, Nat.reduceAdd, Act.put, List.setIfInBounds_toArray, List.set_cons_zero, List.set_cons_succ] at hK ⊢
        generalize s 101 = x101 at *
        subst h101
        have hc := T1.out.bx.new hn
        obtain ⟨c0, c1, c2, c3⟩ := hc.cells4
        clear hc
        refine ⟨true, rfl, ?_⟩
        show Oper.wp _ _ _ _ _ _
        (first | go_big_op | go_simp)
        exact hK _ _ (New.refl _) rfl
      case o19 =>
        intro s w' K hn hk hK
        have h101 : (s 101) = .bool true := hk.here
        clear hk
        simp only [fr, fill, Nat.reduceAdd, Act.put, List.setIfInBounds_toArray, List.set_cons_zero, List.set_cons_succ] at hK ⊢
        generalize s 101 = x101 at *
        subst h101
        have hc := T3.out.bx.new hn
        obtain ⟨c0, c1, c2, c3⟩ := hc.cells4
        clear hc
        refine ⟨true, rfl, ?_⟩
        show Oper.wp _ _ _ _ _ _
        (first | go_big_op | go_simp)
        exact hK _ _ (New.refl _) rfl
      case o20 =>
        intro s w' K hn hk hK
        have h111 : (s 111) = .agg #[.slice A1 l1 c1, .bool b1, .slice A1' l1' c1', .bool b1'] := hk.here
        have h112 : (s 112) = .agg #[.slice A3 l3 c3, .bool b3, .slice A3' l3' c3', .bool b3'] := hk.next.here
        have h101 : (s 101) = .bool true := hk.next.next.here
        clear hk
        simp only [fr, fill, Nat.reduceAdd, Act.put, List.setIfInBounds_toArray, List.set_cons_zero, List.set_cons_succ] at hK ⊢
        generalize s 111 = x111 at *
        generalize s 112 = x112 at *
        generalize s 101 = x101 at *
        subst h111
        subst h112
        subst h101
        refine ⟨true, rfl, ?_⟩
        show Oper.wp _ _ _ _ _ _
        (first | go_big_op | go_simp)
        refine (HCmac.out _ _ _ (T1.out.rv.new hn) (T3.out.rv.new hn)).mono ?_
        rintro e' w'' ⟨v', rfl, hv', hn'⟩
        exact hK _ _ hn' hv'
      case o21 =>
        intro s w' K hn hk hK
        have h110 : RatB w' (s 110) nmab dmab 512 := hk.here
        have h113 : RatB w' (s 113) nmac dmac 512 := hk.next.here
        have h101 : (s 101) = .bool true := hk.next.next.here
        clear hk
        simp only [fr, fill, Nat.reduceAdd, Act.put, List.setIfInBounds_toArray, List.set_cons_zero, List.set_cons_succ] at hK ⊢
        generalize s 110 = x110 at *
        generalize s 113 = x113 at *
        generalize s 101 = x101 at *
        subst h101
        refine ⟨true, rfl, ?_⟩
        show Oper.wp _ _ _ _ _ _
        (first | go_big_op | go_simp)
        refine (HCs2.out _ _ _ h110 h113).mono ?_
        rintro e' w'' ⟨v', rfl, hv', hn'⟩
        exact hK _ _ hn' hv'
      case o22 =>
        intro s w' K hn hk hK
        have h114 : RatB w' (s 114) ns2 ds2 2049 := hk.here
        have h101 : (s 101) = .bool true := hk.next.here
        clear hk
        simp only [fr, fill, Nat.reduceAdd, Act.put, List.setIfInBounds_toArray, List.set_cons_zero, List.set_cons_succ] at hK ⊢
        generalize s 114 = x114 at *
        generalize s 101 = x101 at *
        subst h101
        refine ⟨true, rfl, ?_⟩
        show Oper.wp _ _ _ _ _ _
        (first | go_big_op | go_simp)
        refine (HX3.out _ _ h114 (HN8.out.trans hn)).mono ?_
        rintro e' w'' ⟨rfl, hn'⟩
        exact hK _ _ hn' rfl
      case o23 =>
        intro s w' K hn hk hK
        have h107 : (s 107) = .string tA := hk.here
        have h115 : (s 115) = .string tA := hk.next.here
        have h101 : (s 101) = .bool true := hk.next.next.here
        clear hk
        simp only [fr, fill, Nat.reduceAdd, Act.put, List.setIfInBounds_toArray, List.set_cons_zero, List.set_cons_succ] at hK ⊢
        generalize s 107 = x107 at *
        generalize s 115 = x115 at *
        generalize s 101 = x101 at *
        subst h107
        subst h115
        subst h101
        refine ⟨true, rfl, ?_⟩
        show Oper.wp _ _ _ _ _ _
        (first | go_big_op | go_simp)
        exact hK _ _ (New.refl _) rfl
      case o24 =>
        intro s w' K hn hk hK
        have h101 : (s 101) = .bool true := hk.here
        have h116 : (s 116) = .bool true := hk.next.here
        clear hk
        simp only [fr, fill, Nat.reduceAdd, Act.put, List.setIfInBounds_toArray, List.set_cons_zero, List.set_cons_succ] at hK ⊢
        generalize s 101 = x101 at *
        generalize s 116 = x116 at *
        subst h101
        subst h116
        refine ⟨true, rfl, ?_⟩
        show Oper.wp _ _ _ _ _ _
        (first | go_big_op | go_simp)
        exact hK _ _ (New.refl _) rfl
      case o25 =>
        intro s w' K hn hk hK
        have h117 : (s 117) = .bool true := hk.here
        clear hk
        simp only [fr, fill, Nat.reduceAdd, Act.put, List.setIfInBounds_toArray, List.set_cons_zero, List.set_cons_succ] at hK ⊢
        generalize s 117 = x117 at *
        subst h117
        refine ⟨true, rfl, ?_⟩
        show Oper.wp _ _ _ _ _ _
        (first | go_big_op | go_simp)
        exact hK _ _ (New.refl _) rfl
      case o26 =>
        intro s w' K hn hk hK
        have h118 : (s 118) = .bool true := hk.here
        clear hk
        simp only [fr, fill, Nat.reduceAdd, Act.put, List.setIfInBounds_toArray, List.set_cons_zero, List.set_cons_succ] at hK ⊢
        generalize s 118 = x118 at *
        subst h118
        have hc := T1.out.bx.new hn
        obtain ⟨c0, c1, c2, c3⟩ := hc.cells4
        clear hc
        refine ⟨true, rfl, ?_⟩
        show Oper.wp _ _ _ _ _ _
        (first | go_big_op | go_simp)
        exact hK _ _ (New.refl _) rfl
      case o27 =>
        intro s w' K hn hk hK
        have h118 : (s 118) = .bool true := hk.here
        clear hk
        simp only [fr, fill, Nat.reduceAdd, Act.put, List.setIfInBounds_toArray, List.set_cons_zero, List.set_cons_succ] at hK ⊢
        generalize s 118 = x118 at *
        subst h118
        have hc := T2.out.bx.new hn
        obtain ⟨c0, c1, c2, c3⟩ := hc.cells4
        clear hc
        refine ⟨true, rfl, ?_⟩
        show Oper.wp _ _ _ _ _ _
        (first | go_big_op | go_simp)
        exact hK _ _ (New.refl _) rfl
      case o28 =>
        intro s w' K hn hk hK
        have h119 : (s 119) = .agg #[.slice A1 l1 c1, .bool b1, .slice A1' l1' c1', .bool b1'] := hk.here
        have h120 : (s 120) = .agg #[.slice A2 l2 c2, .bool b2, .slice A2' l2' c2', .bool b2'] := hk.next.here
        have h118 : (s 118) = .bool true := hk.next.next.here
        clear hk
        simp only [fr, fill, Nat.reduceAdd, Act.put, List.setIfInBounds_toArray, List.set_cons_zero, List.set_cons_succ] at hK ⊢
        generalize s 119 = x119 at *
        generalize s 120 = x120 at *
        generalize s 118 = x118 at *
        subst h119
        subst h120
        subst h118
        refine ⟨true, rfl, ?_⟩
        show Oper.wp _ _ _ _ _ _
        (first | go_big_op | go_simp)
        refine (HCab.out _ _ _ (T1.out.rv.new hn) (T2.out.rv.new hn)).mono ?_
        rintro e' w'' ⟨v', rfl, hv', hn'⟩
        exact hK _ _ hn' hv'
      case o29 =>
        intro s w' K hn hk hK
        have h118 : (s 118) = .bool true := hk.here
        clear hk
        simp only [fr, fill, Nat.reduceAdd, Act.put, List.setIfInBounds_toArray, List.set_cons_zero, List.set_cons_succ] at hK ⊢
        generalize s 118 = x118 at *
        subst h118
        have hc := T3.out.bx.new hn
        obtain ⟨c0, c1, c2, c3⟩ := hc.cells4
        clear hc
        refine ⟨true, rfl, ?_⟩
        show Oper.wp _ _ _ _ _ _
        (first | go_big_op | go_simp)
        exact hK _ _ (New.refl _) rfl
      case o30 =>
        intro s w' K hn hk hK
        have h121 : RatB w' (s 121) nab dab 1025 := hk.here
        have h122 : (s 122) = .agg #[.slice A3 l3 c3, .bool b3, .slice A3' l3' c3', .bool b3'] := hk.next.here
        have h118 : (s 118) = .bool true := hk.next.next.here
        clear hk
        simp only [fr, fill, Nat.reduceAdd, Act.put, List.setIfInBounds_toArray, List.set_cons_zero, List.set_cons_succ] at hK ⊢
        generalize s 121 = x121 at *
        generalize s 122 = x122 at *
        generalize s 118 = x118 at *
        subst h122
        subst h118
        refine ⟨true, rfl, ?_⟩
        show Oper.wp _ _ _ _ _ _
        (first | go_big_op | go_simp)
        refine (HCt1.out _ _ _ h121 (RatB.more (T3.out.rv.new hn) (by omega))).mono ?_
        rintro e' w'' ⟨v', rfl, hv', hn'⟩
        exact hK _ _ hn' hv'
      case o31 =>
        intro s w' K hn hk hK
        have h123 : RatB w' (s 123) nt1 dt1 4101 := hk.here
        have h118 : (s 118) = .bool true := hk.next.here
        clear hk
        simp only [fr, fill, Nat.reduceAdd, Act.put, List.setIfInBounds_toArray, List.set_cons_zero, List.set_cons_succ] at hK ⊢
        generalize s 123 = x123 at *
        generalize s 118 = x118 at *
        subst h118
        refine ⟨true, rfl, ?_⟩
        show Oper.wp _ _ _ _ _ _
        (first | go_big_op | go_simp)
        refine (HX4.out _ _ h123 (HN8.out.trans hn)).mono ?_
        rintro e' w'' ⟨rfl, hn'⟩
        exact hK _ _ hn' rfl
      case o32 =>
        intro s w' K hn hk hK
        have h118 : (s 118) = .bool true := hk.here
        clear hk
        simp only [fr, fill, Nat.reduceAdd, Act.put, List.setIfInBounds_toArray, List.set_cons_zero, List.set_cons_succ] at hK ⊢
        generalize s 118 = x118 at *
        subst h118
        have hc := T3.out.bx.new hn
        obtain ⟨c0, c1, c2, c3⟩ := hc.cells4
        clear hc
        refine ⟨true, rfl, ?_⟩
        show Oper.wp _ _ _ _ _ _
        (first | go_big_op | go_simp)
        exact hK _ _ (New.refl _) rfl
      case o33 =>
        intro s w' K hn hk hK
        have h118 : (s 118) = .bool true := hk.here
        clear hk
        simp only [fr, fill, Nat.reduceAdd, Act.put, List.setIfInBounds_toArray, List.set_cons_zero, List.set_cons_succ] at hK ⊢
        generalize s 118 = x118 at *
        subst h118
        have hc := T1.out.bx.new hn
        obtain ⟨c0, c1, c2, c3⟩ := hc.cells4
        clear hc
        refine ⟨true, rfl, ?_⟩
        show Oper.wp _ _ _ _ _ _
        (first | go_big_op | go_simp)
        exact hK _ _ (New.refl _) rfl
      case o34 =>
        intro s w' K hn hk hK
        have h125 : (s 125) = .agg #[.slice A3 l3 c3, .bool b3, .slice A3' l3' c3', .bool b3'] := hk.here
        have h126 : (s 126) = .agg #[.slice A1 l1 c1, .bool b1, .slice A1' l1' c1', .bool b1'] := hk.next.here
        have h118 : (s 118) = .bool true := hk.next.next.here
        clear hk
        simp only [fr, fill, Nat.reduceAdd, Act.put, List.setIfInBounds_toArray, List.set_cons_zero, List.set_cons_succ] at hK ⊢
        generalize s 125 = x125 at *
        generalize s 126 = x126 at *
        generalize s 118 = x118 at *
        subst h125
        subst h126
        subst h118
        refine ⟨true, rfl, ?_⟩
        show Oper.wp _ _ _ _ _ _
        (first | go_big_op | go_simp)
        refine (HCca.out _ _ _ (T3.out.rv.new hn) (T1.out.rv.new hn)).mono ?_
        rintro e' w'' ⟨v', rfl, hv', hn'⟩
        exact hK _ _ hn' hv'
      case o35 =>
        intro s w' K hn hk hK
        have h118 : (s 118) = .bool true := hk.here
        clear hk
        simp only [fr, fill, Nat.reduceAdd, Act.put, List.setIfInBounds_toArray, List.set_cons_zero, List.set_cons_succ] at hK ⊢
        generalize s 118 = x118 at *
        subst h118
        have hc := T2.out.bx.new hn
        obtain ⟨c0, c1, c2, c3⟩ := hc.cells4
        clear hc
        refine ⟨true, rfl, ?_⟩
        show Oper.wp _ _ _ _ _ _
        (first | go_big_op | go_simp)
        exact hK _ _ (New.refl _) rfl
      case o36 =>
        intro s w' K hn hk hK
        have h127 : RatB w' (s 127) nca dca 1025 := hk.here
        have h128 : (s 128) = .agg #[.slice A2 l2 c2, .bool b2, .slice A2' l2' c2', .bool b2'] := hk.next.here
        have h118 : (s 118) = .bool true := hk.next.next.here
        clear hk
        simp only [fr, fill, Nat.reduceAdd, Act.put, List.setIfInBounds_toArray, List.set_cons_zero, List.set_cons_succ] at hK ⊢
        generalize s 127 = x127 at *
        generalize s 128 = x128 at *
        generalize s 118 = x118 at *
        subst h128
        subst h118
        refine ⟨true, rfl, ?_⟩
        show Oper.wp _ _ _ _ _ _
        (first | go_big_op | go_simp)
        refine (HCt2.out _ _ _ h127 (RatB.more (T2.out.rv.new hn) (by omega))).mono ?_
        rintro e' w'' ⟨v', rfl, hv', hn'⟩
        exact hK _ _ hn' hv'
      case o37 =>
        intro s w' K hn hk hK
        have h129 : RatB w' (s 129) nt2 dt2 4101 := hk.here
        have h118 : (s 118) = .bool true := hk.next.here
        clear hk
        simp only [fr, fill, Nat.reduceAdd, Act.put, List.setIfInBounds_toArray, List.set_cons_zero, List.set_cons_succ] at hK ⊢
        generalize s 129 = x129 at *
        generalize s 118 = x118 at *
        subst h118
        refine ⟨true, rfl, ?_⟩
        show Oper.wp _ _ _ _ _ _
        (first | go_big_op | go_simp)
        refine (HX5.out _ _ h129 (HN8.out.trans hn)).mono ?_
        rintro e' w'' ⟨rfl, hn'⟩
        exact hK _ _ hn' rfl
      case o38 =>
        intro s w' K hn hk hK
        have h124 : (s 124) = .string tB := hk.here
        have h130 : (s 130) = .string tB := hk.next.here
        have h118 : (s 118) = .bool true := hk.next.next.here
        clear hk
        simp only [fr, fill, Nat.reduceAdd, Act.put, List.setIfInBounds_toArray, List.set_cons_zero, List.set_cons_succ] at hK ⊢
        generalize s 124 = x124 at *
        generalize s 130 = x130 at *
        generalize s 118 = x118 at *
        subst h124
        subst h130
        subst h118
        refine ⟨true, rfl, ?_⟩
        show Oper.wp _ _ _ _ _ _
        (first | go_big_op | go_simp)
        exact hK _ _ (New.refl _) rfl
      case o39 =>
        intro s w' K hn hk hK
        have h118 : (s 118) = .bool true := hk.here
        have h131 : (s 131) = .bool true := hk.next.here
        clear hk
        simp only [fr, fill, Nat.reduceAdd, Act.put, List.setIfInBounds_toArray, List.set_cons_zero, List.set_cons_succ] at hK ⊢
        generalize s 118 = x118 at *
        generalize s 131 = x131 at *
        subst h118
        subst h131
        refine ⟨true, rfl, ?_⟩
        show Oper.wp _ _ _ _ _ _
        (first | go_big_op | go_simp)
        exact hK _ _ (New.refl _) rfl
      case o40 =>
        intro s w' K hn hk hK
        have h132 : (s 132) = .bool true := hk.here
        clear hk
        simp only [fr, fill, Nat.reduceAdd, Act.put, List.setIfInBounds_toArray, List.set_cons_zero, List.set_cons_succ] at hK ⊢
        generalize s 132 = x132 at *
        subst h132
        refine ⟨true, rfl, ?_⟩
        show Oper.wp _ _ _ _ _ _
        (first | go_big_op | go_simp)
        exact hK _ _ (New.refl _) rfl
      case o41 =>
        intro s w' K hn hk hK
        have h133 : (s 133) = .bool true := hk.here
        clear hk
        simp only [fr, fill, Nat.reduceAdd, Act.put, List.setIfInBounds_toArray, List.set_cons_zero, List.set_cons_succ] at hK ⊢
        generalize s 133 = x133 at *
        subst h133
        have hc := T1.out.bx.new hn
        obtain ⟨c0, c1, c2, c3⟩ := hc.cells4
        clear hc
        refine ⟨true, rfl, ?_⟩
        show Oper.wp _ _ _ _ _ _
        (first | go_big_op | go_simp)
        exact hK _ _ (New.refl _) rfl
      case o42 =>
        intro s w' K hn hk hK
        have h133 : (s 133) = .bool true := hk.here
        clear hk
        simp only [fr, fill, Nat.reduceAdd, Act.put, List.setIfInBounds_toArray, List.set_cons_zero, List.set_cons_succ] at hK ⊢
        generalize s 133 = x133 at *
        subst h133
        have hc := T2.out.bx.new hn
        obtain ⟨c0, c1, c2, c3⟩ := hc.cells4
        clear hc
        refine ⟨true, rfl, ?_⟩
        show Oper.wp _ _ _ _ _ _
        (first | go_big_op | go_simp)
        exact hK _ _ (New.refl _) rfl
      case o43 =>
        intro s w' K hn hk hK
        have h134 : (s 134) = .agg #[.slice A1 l1 c1, .bool b1, .slice A1' l1' c1', .bool b1'] := hk.here
        have h135 : (s 135) = .agg #[.slice A2 l2 c2, .bool b2, .slice A2' l2' c2', .bool b2'] := hk.next.here
        have h133 : (s 133) = .bool true := hk.next.next.here
        clear hk
        simp only [fr, fill, Nat.reduceAdd, Act.put, List.setIfInBounds_toArray, List.set_cons_zero, List.set_cons_succ] at hK ⊢
        generalize s 134 = x134 at *
        generalize s 135 = x135 at *
        generalize s 133 = x133 at *
        subst h134
        subst h135
        subst h133
        refine ⟨true, rfl, ?_⟩
        show Oper.wp _ _ _ _ _ _
        (first | go_big_op | go_simp)
        refine (HCmab.out _ _ _ (T1.out.rv.new hn) (T2.out.rv.new hn)).mono ?_
        rintro e' w'' ⟨v', rfl, hv', hn'⟩
        exact hK _ _ hn' hv'
      case o44 =>
        intro s w' K hn hk hK
        have h133 : (s 133) = .bool true := hk.here
        clear hk
        simp only [fr, fill, Nat.reduceAdd, Act.put, List.setIfInBounds_toArray, List.set_cons_zero, List.set_cons_succ] at hK ⊢
        generalize s 133 = x133 at *
        subst h133
        have hc := T3.out.bx.new hn
        obtain ⟨c0, c1, c2, c3⟩ := hc.cells4
        clear hc
        refine ⟨true, rfl, ?_⟩
        show Oper.wp _ _ _ _ _ _
        (first | go_big_op | go_simp)
        exact hK _ _ (New.refl _) rfl
      case o45 =>
        intro s w' K hn hk hK
        have h136 : RatB w' (s 136) nmab dmab 512 := hk.here
        have h137 : (s 137) = .agg #[.slice A3 l3 c3, .bool b3, .slice A3' l3' c3', .bool b3'] := hk.next.here
        have h133 : (s 133) = .bool true := hk.next.next.here
        clear hk
        simp only [fr, fill, Nat.reduceAdd, Act.put, List.setIfInBounds_toArray, List.set_cons_zero, List.set_cons_succ] at hK ⊢
        generalize s 136 = x136 at *
        generalize s 137 = x137 at *
        generalize s 133 = x133 at *
        subst h137
        subst h133
        refine ⟨true, rfl, ?_⟩
        show Oper.wp _ _ _ _ _ _
        (first | go_big_op | go_simp)
        refine (HCu1.out _ _ _ h136 (RatB.more (T3.out.rv.new hn) (by omega))).mono ?_
        rintro e' w'' ⟨v', rfl, hv', hn'⟩
        exact hK _ _ hn' hv'
      case o46 =>
        intro s w' K hn hk hK
        have h138 : RatB w' (s 138) nu1 du1 1024 := hk.here
        have h133 : (s 133) = .bool true := hk.next.here
        clear hk
        simp only [fr, fill, Nat.reduceAdd, Act.put, List.setIfInBounds_toArray, List.set_cons_zero, List.set_cons_succ] at hK ⊢
        generalize s 138 = x138 at *
        generalize s 133 = x133 at *
        subst h133
        refine ⟨true, rfl, ?_⟩
        show Oper.wp _ _ _ _ _ _
        (first | go_big_op | go_simp)
        refine (HX6.out _ _ h138 (HN8.out.trans hn)).mono ?_
        rintro e' w'' ⟨rfl, hn'⟩
        exact hK _ _ hn' rfl
      case o47 =>
        intro s w' K hn hk hK
        have h133 : (s 133) = .bool true := hk.here
        clear hk
        simp only [fr, fill, Nat.reduceAdd, Act.put, List.setIfInBounds_toArray, List.set_cons_zero, List.set_cons_succ] at hK ⊢
        generalize s 133 = x133 at *
        subst h133
        have hc := T3.out.bx.new hn
        obtain ⟨c0, c1, c2, c3⟩ := hc.cells4
        clear hc
        refine ⟨true, rfl, ?_⟩
        show Oper.wp _ _ _ _ _ _
        (first | go_big_op | go_simp)
        exact hK _ _ (New.refl _) rfl
      case o48 =>
        intro s w' K hn hk hK
        have h133 : (s 133) = .bool true := hk.here
        clear hk
        simp only [fr, fill, Nat.reduceAdd, Act.put, List.setIfInBounds_toArray, List.set_cons_zero, List.set_cons_succ] at hK ⊢
        generalize s 133 = x133 at *
        subst h133
        have hc := T1.out.bx.new hn
        obtain ⟨c0, c1, c2, c3⟩ := hc.cells4
        clear hc
        refine ⟨true, rfl, ?_⟩
        show Oper.wp _ _ _ _ _ _
        (first | go_big_op | go_simp)
        exact hK _ _ (New.refl _) rfl
      case o49 =>
        intro s w' K hn hk hK
        have h140 : (s 140) = .agg #[.slice A3 l3 c3, .bool b3, .slice A3' l3' c3', .bool b3'] := hk.here
        have h141 : (s 141) = .agg #[.slice A1 l1 c1, .bool b1, .slice A1' l1' c1', .bool b1'] := hk.next.here
        have h133 : (s 133) = .bool true := hk.next.next.here
        clear hk
        simp only [fr, fill, Nat.reduceAdd, Act.put, List.setIfInBounds_toArray, List.set_cons_zero, List.set_cons_succ] at hK ⊢
        generalize s 140 = x140 at *
        generalize s 141 = x141 at *
        generalize s 133 = x133 at *
        subst h140
        subst h141
        subst h133
        refine ⟨true, rfl, ?_⟩
        show Oper.wp _ _ _ _ _ _
        (first | go_big_op | go_simp)
        refine (HCmca.out _ _ _ (T3.out.rv.new hn) (T1.out.rv.new hn)).mono ?_
        rintro e' w'' ⟨v', rfl, hv', hn'⟩
        exact hK _ _ hn' hv'
      case o50 =>
        intro s w' K hn hk hK
        have h133 : (s 133) = .bool true := hk.here
        clear hk
        simp only [fr, fill, Nat.reduceAdd, Act.put, List.setIfInBounds_toArray, List.set_cons_zero, List.set_cons_succ] at hK ⊢
        generalize s 133 = x133 at *
        subst h133
        have hc := T2.out.bx.new hn
        obtain ⟨c0, c1, c2, c3⟩ := hc.cells4
        clear hc
        refine ⟨true, rfl, ?_⟩
        show Oper.wp _ _ _ _ _ _
        (first | go_big_op | go_simp)
        exact hK _ _ (New.refl _) rfl
      case o51 =>
        intro s w' K hn hk hK
        have h142 : RatB w' (s 142) nmca dmca 512 := hk.here
        have h143 : (s 143) = .agg #[.slice A2 l2 c2, .bool b2, .slice A2' l2' c2', .bool b2'] := hk.next.here
        have h133 : (s 133) = .bool true := hk.next.next.here
        clear hk
        simp only [fr, fill, Nat.reduceAdd, Act.put, List.setIfInBounds_toArray, List.set_cons_zero, List.set_cons_succ] at hK ⊢
        generalize s 142 = x142 at *
        generalize s 143 = x143 at *
        generalize s 133 = x133 at *
        subst h143
        subst h133
        refine ⟨true, rfl, ?_⟩
        show Oper.wp _ _ _ _ _ _
        (first | go_big_op | go_simp)
        refine (HCu2.out _ _ _ h142 (RatB.more (T2.out.rv.new hn) (by omega))).mono ?_
        rintro e' w'' ⟨v', rfl, hv', hn'⟩
        exact hK _ _ hn' hv'
      case o52 =>
        intro s w' K hn hk hK
        have h144 : RatB w' (s 144) nu2 du2 1024 := hk.here
        have h133 : (s 133) = .bool true := hk.next.here
        clear hk
        simp only [fr, fill, Nat.reduceAdd, Act.put, List.setIfInBounds_toArray, List.set_cons_zero, List.set_cons_succ] at hK ⊢
        generalize s 144 = x144 at *
        generalize s 133 = x133 at *
        subst h133
        refine ⟨true, rfl, ?_⟩
        show Oper.wp _ _ _ _ _ _
        (first | go_big_op | go_simp)
        refine (HX7.out _ _ h144 (HN8.out.trans hn)).mono ?_
        rintro e' w'' ⟨rfl, hn'⟩
        exact hK _ _ hn' rfl
      case o53 =>
        intro s w' K hn hk hK
        have h139 : (s 139) = .string tC := hk.here
        have h145 : (s 145) = .string tC := hk.next.here
        have h133 : (s 133) = .bool true := hk.next.next.here
        clear hk
        simp only [fr, fill, Nat.reduceAdd, Act.put, List.setIfInBounds_toArray, List.set_cons_zero, List.set_cons_succ] at hK ⊢
        generalize s 139 = x139 at *
        generalize s 145 = x145 at *
        generalize s 133 = x133 at *
        subst h139
        subst h145
        subst h133
        refine ⟨true, rfl, ?_⟩
        show Oper.wp _ _ _ _ _ _
        (first | go_big_op | go_simp)
        exact hK _ _ (New.refl _) rfl
      case o54 =>
        intro s w' K hn hk hK
        have h133 : (s 133) = .bool true := hk.here
        have h146 : (s 146) = .bool true := hk.next.here
        clear hk
        simp only [fr, fill, Nat.reduceAdd, Act.put, List.setIfInBounds_toArray, List.set_cons_zero, List.set_cons_succ] at hK ⊢
        generalize s 133 = x133 at *
        generalize s 146 = x146 at *
        subst h133
        subst h146
        refine ⟨true, rfl, ?_⟩
        show Oper.wp _ _ _ _ _ _
        (first | go_big_op | go_simp)
        exact hK _ _ (New.refl _) rfl
      case o55 =>
        intro s w' K hn hk hK
        have h147 : (s 147) = .bool true := hk.here
        clear hk
        simp only [fr, fill, Nat.reduceAdd, Act.put, List.setIfInBounds_toArray, List.set_cons_zero, List.set_cons_succ] at hK ⊢
        generalize s 147 = x147 at *
        subst h147
        refine ⟨true, rfl, ?_⟩
        show Oper.wp _ _ _ _ _ _
        (first | go_big_op | go_simp)
        exact hK _ _ (New.refl _) rfl
      case o56 =>
        intro s w' K hn hk hK
        have h148 : (s 148) = .bool true := hk.here
        clear hk
        simp only [fr, fill, Nat.reduceAdd, Act.put, List.setIfInBounds_toArray, List.set_cons_zero, List.set_cons_succ] at hK ⊢
        generalize s 148 = x148 at *
        subst h148
        have hc := T1.out.bx.new hn
        obtain ⟨c0, c1, c2, c3⟩ := hc.cells4
        clear hc
        refine ⟨true, rfl, ?_⟩
        show Oper.wp _ _ _ _ _ _
        (first | go_big_op | go_simp)
        exact hK _ _ (New.refl _) rfl
      case o57 =>
        intro s w' K hn hk hK
        have h148 : (s 148) = .bool true := hk.here
        clear hk
        simp only [fr, fill, Nat.reduceAdd, Act.put, List.setIfInBounds_toArray, List.set_cons_zero, List.set_cons_succ] at hK ⊢
        generalize s 148 = x148 at *
        subst h148
        have hc := T2.out.bx.new hn
        obtain ⟨c0, c1, c2, c3⟩ := hc.cells4
        clear hc
        refine ⟨true, rfl, ?_⟩
        show Oper.wp _ _ _ _ _ _
        (first | go_big_op | go_simp)
        exact hK _ _ (New.refl _) rfl
      case o58 =>
        intro s w' K hn hk hK
        have h149 : (s 149) = .agg #[.slice A1 l1 c1, .bool b1, .slice A1' l1' c1', .bool b1'] := hk.here
        have h150 : (s 150) = .agg #[.slice A2 l2 c2, .bool b2, .slice A2' l2' c2', .bool b2'] := hk.next.here
        have h148 : (s 148) = .bool true := hk.next.next.here
        clear hk
        simp only [fr, fill, Nat.reduceAdd, Act.put, List.setIfInBounds_toArray, List.set_cons_zero, List.set_cons_succ] at hK ⊢
        generalize s 149 = x149 at *
        generalize s 150 = x150 at *
        generalize s 148 = x148 at *
        subst h149
        subst h150
        subst h148
        refine ⟨true, rfl, ?_⟩
        show Oper.wp _ _ _ _ _ _
        (first | go_big_op | go_simp)
        refine (HK1.out _ _ _ (T1.out.rv.new hn) (T2.out.rv.new hn)).mono ?_
        rintro e' w'' ⟨rfl, hn'⟩
        exact hK _ _ hn' rfl
      case o59 =>
        intro s w' K hn hk hK
        have h148 : (s 148) = .bool true := hk.here
        clear hk
        simp only [fr, fill, Nat.reduceAdd, Act.put, List.setIfInBounds_toArray, List.set_cons_zero, List.set_cons_succ] at hK ⊢
        generalize s 148 = x148 at *
        subst h148
        have hc := T2.out.bx.new hn
        obtain ⟨c0, c1, c2, c3⟩ := hc.cells4
        clear hc
        refine ⟨true, rfl, ?_⟩
        show Oper.wp _ _ _ _ _ _
        (first | go_big_op | go_simp)
        exact hK _ _ (New.refl _) rfl
      case o60 =>
        intro s w' K hn hk hK
        have h148 : (s 148) = .bool true := hk.here
        clear hk
        simp only [fr, fill, Nat.reduceAdd, Act.put, List.setIfInBounds_toArray, List.set_cons_zero, List.set_cons_succ] at hK ⊢
        generalize s 148 = x148 at *
        subst h148
        have hc := T1.out.bx.new hn
        obtain ⟨c0, c1, c2, c3⟩ := hc.cells4
        clear hc
        refine ⟨true, rfl, ?_⟩
        show Oper.wp _ _ _ _ _ _
        (first | go_big_op | go_simp)
        exact hK _ _ (New.refl _) rfl
      case o61 =>
        intro s w' K hn hk hK
        have h152 : (s 152) = .agg #[.slice A2 l2 c2, .bool b2, .slice A2' l2' c2', .bool b2'] := hk.here
        have h153 : (s 153) = .agg #[.slice A1 l1 c1, .bool b1, .slice A1' l1' c1', .bool b1'] := hk.next.here
        have h148 : (s 148) = .bool true := hk.next.next.here
        clear hk
        simp only [fr, fill, Nat.reduceAdd, Act.put, List.setIfInBounds_toArray, List.set_cons_zero, List.set_cons_succ] at hK ⊢
        generalize s 152 = x152 at *
        generalize s 153 = x153 at *
        generalize s 148 = x148 at *
        subst h152
        subst h153
        subst h148
        refine ⟨true, rfl, ?_⟩
        show Oper.wp _ _ _ _ _ _
        (first | go_big_op | go_simp)
        refine (HK2.out _ _ _ (T2.out.rv.new hn) (T1.out.rv.new hn)).mono ?_
        rintro e' w'' ⟨rfl, hn'⟩
        exact hK _ _ hn' rfl
      case o62 =>
        intro s w' K hn hk hK
        have h154 : (s 154) = .int .i64 (-cc) := hk.here
        have h148 : (s 148) = .bool true := hk.next.here
        clear hk
        simp only [fr, fill, Nat.reduceAdd, Act.put, List.setIfInBounds_toArray, List.set_cons_zero, List.set_cons_succ] at hK ⊢
        generalize s 154 = x154 at *
        generalize s 148 = x148 at *
        subst h154
        subst h148
        refine ⟨true, rfl, ?_⟩
        show Oper.wp _ _ _ _ _ _
        (first | go_big_op | go_simp)
        first | exact hK _ _ (New.refl _) rfl | exact hK _ _ (New.refl _) (congrArg _ hwr2) | exact hK _ _ (New.refl _) (congrArg _ hwr) | (simp only [hwr, hwr2, hwr3, Int.neg_neg] at *; exact hK _ _ (New.refl _) rfl)
      case o63 =>
        intro s w' K hn hk hK
        have h151 : (s 151) = .int .i64 cc := hk.here
        have h155 : (s 155) = .int .i64 cc := hk.next.here
        have h148 : (s 148) = .bool true := hk.next.next.here
        clear hk
        simp only [fr, fill, Nat.reduceAdd, Act.put, List.setIfInBounds_toArray, List.set_cons_zero, List.set_cons_succ] at hK ⊢
        generalize s 151 = x151 at *
        generalize s 155 = x155 at *
        generalize s 148 = x148 at *
        subst h151
        subst h155
        subst h148
        refine ⟨true, rfl, ?_⟩
        show Oper.wp _ _ _ _ _ _
        (first | go_big_op | go_simp)
        exact hK _ _ (New.refl _) rfl
      case o64 =>
        intro s w' K hn hk hK
        have h148 : (s 148) = .bool true := hk.here
        have h156 : (s 156) = .bool true := hk.next.here
        clear hk
        simp only [fr, fill, Nat.reduceAdd, Act.put, List.setIfInBounds_toArray, List.set_cons_zero, List.set_cons_succ] at hK ⊢
        generalize s 148 = x148 at *
        generalize s 156 = x156 at *
        subst h148
        subst h156
        refine ⟨true, rfl, ?_⟩
        show Oper.wp _ _ _ _ _ _
        (first | go_big_op | go_simp)
        exact hK _ _ (New.refl _) rfl
      case o65 =>
        intro s w' K hn hk hK
        have h157 : (s 157) = .bool true := hk.here
        clear hk
        simp only [fr, fill, Nat.reduceAdd, Act.put, List.setIfInBounds_toArray, List.set_cons_zero, List.set_cons_succ] at hK ⊢
        generalize s 157 = x157 at *
        subst h157
        refine ⟨true, rfl, ?_⟩
        show Oper.wp _ _ _ _ _ _
        (first | go_big_op | go_simp)
        exact hK _ _ (New.refl _) rfl
      case o66 =>
        intro s w' K hn hk hK
        have h158 : (s 158) = .bool true := hk.here
        clear hk
        simp only [fr, fill, Nat.reduceAdd, Act.put, List.setIfInBounds_toArray, List.set_cons_zero, List.set_cons_succ] at hK ⊢
        generalize s 158 = x158 at *
        subst h158
        have hc := T1.out.bx.new hn
        obtain ⟨c0, c1, c2, c3⟩ := hc.cells4
        clear hc
        refine ⟨true, rfl, ?_⟩
        show Oper.wp _ _ _ _ _ _
        (first | go_big_op | go_simp)
        exact hK _ _ (New.refl _) rfl
      case o67 =>
        intro s w' K hn hk hK
        have h158 : (s 158) = .bool true := hk.here
        clear hk
        simp only [fr, fill, Nat.reduceAdd, Act.put, List.setIfInBounds_toArray, List.set_cons_zero, List.set_cons_succ] at hK ⊢
        generalize s 158 = x158 at *
        subst h158
        have hc := T2.out.bx.new hn
        obtain ⟨c0, c1, c2, c3⟩ := hc.cells4
        clear hc
        refine ⟨true, rfl, ?_⟩
        show Oper.wp _ _ _ _ _ _
        (first | go_big_op | go_simp)
        exact hK _ _ (New.refl _) rfl
      case o68 =>
        intro s w' K hn hk hK
        have h159 : (s 159) = .agg #[.slice A1 l1 c1, .bool b1, .slice A1' l1' c1', .bool b1'] := hk.here
        have h160 : (s 160) = .agg #[.slice A2 l2 c2, .bool b2, .slice A2' l2' c2', .bool b2'] := hk.next.here
        have h158 : (s 158) = .bool true := hk.next.next.here
        clear hk
        simp only [fr, fill, Nat.reduceAdd, Act.put, List.setIfInBounds_toArray, List.set_cons_zero, List.set_cons_succ] at hK ⊢
        generalize s 159 = x159 at *
        generalize s 160 = x160 at *
        generalize s 158 = x158 at *
        subst h159
        subst h160
        subst h158
        refine ⟨true, rfl, ?_⟩
        show Oper.wp _ _ _ _ _ _
        (first | go_big_op | go_simp)
        refine (HCdab.out _ _ _ (T1.out.rv.new hn) (T2.out.rv.new hn)).mono ?_
        rintro e' w'' ⟨v', rfl, hv', hn'⟩
        exact hK _ _ hn' hv'
      case o69 =>
        intro s w' K hn hk hK
        have h161 : RatB w' (s 161) ndab ddab 1025 := hk.here
        have h158 : (s 158) = .bool true := hk.next.here
        clear hk
        simp only [fr, fill, Nat.reduceAdd, Act.put, List.setIfInBounds_toArray, List.set_cons_zero, List.set_cons_succ] at hK ⊢
        generalize s 161 = x161 at *
        generalize s 158 = x158 at *
        subst h158
        refine ⟨true, rfl, ?_⟩
        show Oper.wp _ _ _ _ _ _
        (first | go_big_op | go_simp)
        refine (HSG.out _ _ h161).mono ?_
        rintro e' w'' ⟨rfl, hn'⟩
        exact hK _ _ hn' rfl
      case o70 =>
        intro s w' K hn hk hK
        have h158 : (s 158) = .bool true := hk.here
        clear hk
        simp only [fr, fill, Nat.reduceAdd, Act.put, List.setIfInBounds_toArray, List.set_cons_zero, List.set_cons_succ] at hK ⊢
        generalize s 158 = x158 at *
        subst h158
        have hc := T1.out.bx.new hn
        obtain ⟨c0, c1, c2, c3⟩ := hc.cells4
        clear hc
        refine ⟨true, rfl, ?_⟩
        show Oper.wp _ _ _ _ _ _
        (first | go_big_op | go_simp)
        exact hK _ _ (New.refl _) rfl
      case o71 =>
        intro s w' K hn hk hK
        have h158 : (s 158) = .bool true := hk.here
        clear hk
        simp only [fr, fill, Nat.reduceAdd, Act.put, List.setIfInBounds_toArray, List.set_cons_zero, List.set_cons_succ] at hK ⊢
        generalize s 158 = x158 at *
        subst h158
        have hc := T2.out.bx.new hn
        obtain ⟨c0, c1, c2, c3⟩ := hc.cells4
        clear hc
        refine ⟨true, rfl, ?_⟩
        show Oper.wp _ _ _ _ _ _
        (first | go_big_op | go_simp)
        exact hK _ _ (New.refl _) rfl
      case o72 =>
        intro s w' K hn hk hK
        have h163 : (s 163) = .agg #[.slice A1 l1 c1, .bool b1, .slice A1' l1' c1', .bool b1'] := hk.here
        have h164 : (s 164) = .agg #[.slice A2 l2 c2, .bool b2, .slice A2' l2' c2', .bool b2'] := hk.next.here
        have h158 : (s 158) = .bool true := hk.next.next.here
        clear hk
        simp only [fr, fill, Nat.reduceAdd, Act.put, List.setIfInBounds_toArray, List.set_cons_zero, List.set_cons_succ] at hK ⊢
        generalize s 163 = x163 at *
        generalize s 164 = x164 at *
        generalize s 158 = x158 at *
        subst h163
        subst h164
        subst h158
        refine ⟨true, rfl, ?_⟩
        show Oper.wp _ _ _ _ _ _
        (first | go_big_op | go_simp)
        refine (HK1.out _ _ _ (T1.out.rv.new hn) (T2.out.rv.new hn)).mono ?_
        rintro e' w'' ⟨rfl, hn'⟩
        exact hK _ _ hn' rfl
      case o73 =>
        intro s w' K hn hk hK
        have h162 : (s 162) = .int .i64 cc := hk.here
        have h165 : (s 165) = .int .i64 cc := hk.next.here
        have h158 : (s 158) = .bool true := hk.next.next.here
        clear hk
        simp only [fr, fill, Nat.reduceAdd, Act.put, List.setIfInBounds_toArray, List.set_cons_zero, List.set_cons_succ] at hK ⊢
        generalize s 162 = x162 at *
        generalize s 165 = x165 at *
        generalize s 158 = x158 at *
        subst h162
        subst h165
        subst h158
        refine ⟨true, rfl, ?_⟩
        show Oper.wp _ _ _ _ _ _
        (first | go_big_op | go_simp)
        exact hK _ _ (New.refl _) rfl
      case o74 =>
        intro s w' K hn hk hK
        have h158 : (s 158) = .bool true := hk.here
        have h166 : (s 166) = .bool true := hk.next.here
        clear hk
        simp only [fr, fill, Nat.reduceAdd, Act.put, List.setIfInBounds_toArray, List.set_cons_zero, List.set_cons_succ] at hK ⊢
        generalize s 158 = x158 at *
        generalize s 166 = x166 at *
        subst h158
        subst h166
        refine ⟨true, rfl, ?_⟩
        show Oper.wp _ _ _ _ _ _
        (first | go_big_op | go_simp)
        exact hK _ _ (New.refl _) rfl
      case last =>
        intro s V0 hn hk
        have h93 : (s 93) = .agg #[.slice A1 l1 c1, .bool b1, .slice A1' l1' c1', .bool b1'] := hk.here
        have h94 : (s 94) = .agg #[.slice A2 l2 c2, .bool b2, .slice A2' l2' c2', .bool b2'] := hk.next.here
        have h95 : RatB V0 (s 95) nab dab 1025 := hk.next.next.here
        have h96 : (s 96) = .agg #[.slice A2 l2 c2, .bool b2, .slice A2' l2' c2', .bool b2'] := hk.next.next.next.here
        have h97 : RatB V0 (s 97) nabb dabb 4101 := hk.next.next.next.next.here
        have h98 : (s 98) = .string a := hk.next.next.next.next.next.here
        have h99 : (s 99) = .string a := hk.next.next.next.next.next.next.here
        have h100 : (s 100) = .bool true := hk.next.next.next.next.next.next.next.here
        have h101 : (s 101) = .bool true := hk.next.next.next.next.next.next.next.next.here
        have h102 : (s 102) = .agg #[.slice A1 l1 c1, .bool b1, .slice A1' l1' c1', .bool b1'] := hk.next.next.next.next.next.next.next.next.next.here
        have h103 : (s 103) = .agg #[.slice A2 l2 c2, .bool b2, .slice A2' l2' c2', .bool b2'] := hk.next.next.next.next.next.next.next.next.next.next.here
        have h104 : (s 104) = .agg #[.slice A3 l3 c3, .bool b3, .slice A3' l3' c3', .bool b3'] := hk.next.next.next.next.next.next.next.next.next.next.next.here
        have h105 : RatB V0 (s 105) nbc dbc 1025 := hk.next.next.next.next.next.next.next.next.next.next.next.next.here
        have h106 : RatB V0 (s 106) nabc dabc 2050 := hk.next.next.next.next.next.next.next.next.next.next.next.next.next.here
        have h107 : (s 107) = .string tA := hk.next.next.next.next.next.next.next.next.next.next.next.next.next.next.here
        have h108 : (s 108) = .agg #[.slice A1 l1 c1, .bool b1, .slice A1' l1' c1', .bool b1'] := hk.next.next.next.next.next.next.next.next.next.next.next.next.next.next.next.here
        have h109 : (s 109) = .agg #[.slice A2 l2 c2, .bool b2, .slice A2' l2' c2', .bool b2'] := hk.next.next.next.next.next.next.next.next.next.next.next.next.next.next.next.next.here
        have h110 : RatB V0 (s 110) nmab dmab 512 := hk.next.next.next.next.next.next.next.next.next.next.next.next.next.next.next.next.next.here
        have h111 : (s 111) = .agg #[.slice A1 l1 c1, .bool b1, .slice A1' l1' c1', .bool b1'] := hk.next.next.next.next.next.next.next.next.next.next.next.next.next.next.next.next.next.next.here
        have h112 : (s 112) = .agg #[.slice A3 l3 c3, .bool b3, .slice A3' l3' c3', .bool b3'] := hk.next.next.next.next.next.next.next.next.next.next.next.next.next.next.next.next.next.next.next.here
        have h113 : RatB V0 (s 113) nmac dmac 512 := hk.next.next.next.next.next.next.next.next.next.next.next.next.next.next.next.next.next.next.next.next.here
        have h114 : RatB V0 (s 114) ns2 ds2 2049 := hk.next.next.next.next.next.next.next.next.next.next.next.next.next.next.next.next.next.next.next.next.next.here
        have h115 : (s 115) = .string tA := hk.next.next.next.next.next.next.next.next.next.next.next.next.next.next.next.next.next.next.next.next.next.next.here
        have h116 : (s 116) = .bool true := hk.next.next.next.next.next.next.next.next.next.next.next.next.next.next.next.next.next.next.next.next.next.next.next.here
        have h117 : (s 117) = .bool true := hk.next.next.next.next.next.next.next.next.next.next.next.next.next.next.next.next.next.next.next.next.next.next.next.next.here
        have h118 : (s 118) = .bool true := hk.next.next.next.next.next.next.next.next.next.next.next.next.next.next.next.next.next.next.next.next.next.next.next.next.next.here
        have h119 : (s 119) = .agg #[.slice A1 l1 c1, .bool b1, .slice A1' l1' c1', .bool b1'] := hk.next.next.next.next.next.next.next.next.next.next.next.next.next.next.next.next.next.next.next.next.next.next.next.next.next.next.here
        have h120 : (s 120) = .agg #[.slice A2 l2 c2, .bool b2, .slice A2' l2' c2', .bool b2'] := hk.next.next.next.next.next.next.next.next.next.next.next.next.next.next.next.next.next.next.next.next.next.next.next.next.next.next.next.here
        have h121 : RatB V0 (s 121) nab dab 1025 := hk.next.next.next.next.next.next.next.next.next.next.next.next.next.next.next.next.next.next.next.next.next.next.next.next.next.next.next.next.here
        have h122 : (s 122) = .agg #[.slice A3 l3 c3, .bool b3, .slice A3' l3' c3', .bool b3'] := hk.next.next.next.next.next.next.next.next.next.next.next.next.next.next.next.next.next.next.next.next.next.next.next.next.next.next.next.next.next.here
        have h123 : RatB V0 (s 123) nt1 dt1 4101 := hk.next.next.next.next.next.next.next.next.next.next.next.next.next.next.next.next.next.next.next.next.next.next.next.next.next.next.next.next.next.next.here
        have h124 : (s 124) = .string tB := hk.next.next.next.next.next.next.next.next.next.next.next.next.next.next.next.next.next.next.next.next.next.next.next.next.next.next.next.next.next.next.next.here
        have h125 : (s 125) = .agg #[.slice A3 l3 c3, .bool b3, .slice A3' l3' c3', .bool b3'] := hk.next.next.next.next.next.next.next.next.next.next.next.next.next.next.next.next.next.next.next.next.next.next.next.next.next.next.next.next.next.next.next.next.here
        have h126 : (s 126) = .agg #[.slice A1 l1 c1, .bool b1, .slice A1' l1' c1', .bool b1'] := hk.next.next.next.next.next.next.next.next.next.next.next.next.next.next.next.next.next.next.next.next.next.next.next.next.next.next.next.next.next.next.next.next.next.here
        have h127 : RatB V0 (s 127) nca dca 1025 := hk.next.next.next.next.next.next.next.next.next.next.next.next.next.next.next.next.next.next.next.next.next.next.next.next.next.next.next.next.next.next.next.next.next.next.here
        have h128 : (s 128) = .agg #[.slice A2 l2 c2, .bool b2, .slice A2' l2' c2', .bool b2'] := hk.next.next.next.next.next.next.next.next.next.next.next.next.next.next.next.next.next.next.next.next.next.next.next.next.next.next.next.next.next.next.next.next.next.next.next.here
        have h129 : RatB V0 (s 129) nt2 dt2 4101 := hk.next.next.next.next.next.next.next.next.next.next.next.next.next.next.next.next.next.next.next.next.next.next.next.next.next.next.next.next.next.next.next.next.next.next.next.next.here
        have h130 : (s 130) = .string tB := hk.next.next.next.next.next.next.next.next.next.next.next.next.next.next.next.next.next.next.next.next.next.next.next.next.next.next.next.next.next.next.next.next.next.next.next.next.next.here
        have h131 : (s 131) = .bool true := hk.next.next.next.next.next.next.next.next.next.next.next.next.next.next.next.next.next.next.next.next.next.next.next.next.next.next.next.next.next.next.next.next.next.next.next.next.next.next.here
        have h132 : (s 132) = .bool true := hk.next.next.next.next.next.next.next.next.next.next.next.next.next.next.next.next.next.next.next.next.next.next.next.next.next.next.next.next.next.next.next.next.next.next.next.next.next.next.next.here
        have h133 : (s 133) = .bool true := hk.next.next.next.next.next.next.next.next.next.next.next.next.next.next.next.next.next.next.next.next.next.next.next.next.next.next.next.next.next.next.next.next.next.next.next.next.next.next.next.next.here
        have h134 : (s 134) = .agg #[.slice A1 l1 c1, .bool b1, .slice A1' l1' c1', .bool b1'] := hk.next.next.next.next.next.next.next.next.next.next.next.next.next.next.next.next.next.next.next.next.next.next.next.next.next.next.next.next.next.next.next.next.next.next.next.next.next.next.next.next.next.here
        have h135 : (s 135) = .agg #[.slice A2 l2 c2, .bool b2, .slice A2' l2' c2', .bool b2'] := hk.next.next.next.next.next.next.next.next.next.next.next.next.next.next.next.next.next.next.next.next.next.next.next.next.next.next.next.next.next.next.next.next.next.next.next.next.next.next.next.next.next.next.here
        have h136 : RatB V0 (s 136) nmab dmab 512 := hk.next.next.next.next.next.next.next.next.next.next.next.next.next.next.next.next.next.next.next.next.next.next.next.next.next.next.next.next.next.next.next.next.next.next.next.next.next.next.next.next.next.next.next.here
        have h137 : (s 137) = .agg #[.slice A3 l3 c3, .bool b3, .slice A3' l3' c3', .bool b3'] := hk.next.next.next.next.next.next.next.next.next.next.next.next.next.next.next.next.next.next.next.next.next.next.next.next.next.next.next.next.next.next.next.next.next.next.next.next.next.next.next.next.next.next.next.next.here
        have h138 : RatB V0 (s 138) nu1 du1 1024 := hk.next.next.next.next.next.next.next.next.next.next.next.next.next.next.next.next.next.next.next.next.next.next.next.next.next.next.next.next.next.next.next.next.next.next.next.next.next.next.next.next.next.next.next.next.next.here
        have h139 : (s 139) = .string tC := hk.next.next.next.next.next.next.next.next.next.next.next.next.next.next.next.next.next.next.next.next.next.next.next.next.next.next.next.next.next.next.next.next.next.next.next.next.next.next.next.next.next.next.next.next.next.next.here
        have h140 : (s 140) = .agg #[.slice A3 l3 c3, .bool b3, .slice A3' l3' c3', .bool b3'] := hk.next.next.next.next.next.next.next.next.next.next.next.next.next.next.next.next.next.next.next.next.next.next.next.next.next.next.next.next.next.next.next.next.next.next.next.next.next.next.next.next.next.next.next.next.next.next.next.here
        have h141 : (s 141) = .agg #[.slice A1 l1 c1, .bool b1, .slice A1' l1' c1', .bool b1'] := hk.next.next.next.next.next.next.next.next.next.next.next.next.next.next.next.next.next.next.next.next.next.next.next.next.next.next.next.next.next.next.next.next.next.next.next.next.next.next.next.next.next.next.next.next.next.next.next.next.here
        have h142 : RatB V0 (s 142) nmca dmca 512 := hk.next.next.next.next.next.next.next.next.next.next.next.next.next.next.next.next.next.next.next.next.next.next.next.next.next.next.next.next.next.next.next.next.next.next.next.next.next.next.next.next.next.next.next.next.next.next.next.next.next.here
        have h143 : (s 143) = .agg #[.slice A2 l2 c2, .bool b2, .slice A2' l2' c2', .bool b2'] := hk.next.next.next.next.next.next.next.next.next.next.next.next.next.next.next.next.next.next.next.next.next.next.next.next.next.next.next.next.next.next.next.next.next.next.next.next.next.next.next.next.next.next.next.next.next.next.next.next.next.next.here
        have h144 : RatB V0 (s 144) nu2 du2 1024 := hk.next.next.next.next.next.next.next.next.next.next.next.next.next.next.next.next.next.next.next.next.next.next.next.next.next.next.next.next.next.next.next.next.next.next.next.next.next.next.next.next.next.next.next.next.next.next.next.next.next.next.next.here
        have h145 : (s 145) = .string tC := hk.next.next.next.next.next.next.next.next.next.next.next.next.next.next.next.next.next.next.next.next.next.next.next.next.next.next.next.next.next.next.next.next.next.next.next.next.next.next.next.next.next.next.next.next.next.next.next.next.next.next.next.next.here
        have h146 : (s 146) = .bool true := hk.next.next.next.next.next.next.next.next.next.next.next.next.next.next.next.next.next.next.next.next.next.next.next.next.next.next.next.next.next.next.next.next.next.next.next.next.next.next.next.next.next.next.next.next.next.next.next.next.next.next.next.next.next.here
        have h147 : (s 147) = .bool true := hk.next.next.next.next.next.next.next.next.next.next.next.next.next.next.next.next.next.next.next.next.next.next.next.next.next.next.next.next.next.next.next.next.next.next.next.next.next.next.next.next.next.next.next.next.next.next.next.next.next.next.next.next.next.next.here
        have h148 : (s 148) = .bool true := hk.next.next.next.next.next.next.next.next.next.next.next.next.next.next.next.next.next.next.next.next.next.next.next.next.next.next.next.next.next.next.next.next.next.next.next.next.next.next.next.next.next.next.next.next.next.next.next.next.next.next.next.next.next.next.next.here
        have h149 : (s 149) = .agg #[.slice A1 l1 c1, .bool b1, .slice A1' l1' c1', .bool b1'] := hk.next.next.next.next.next.next.next.next.next.next.next.next.next.next.next.next.next.next.next.next.next.next.next.next.next.next.next.next.next.next.next.next.next.next.next.next.next.next.next.next.next.next.next.next.next.next.next.next.next.next.next.next.next.next.next.next.here
        have h150 : (s 150) = .agg #[.slice A2 l2 c2, .bool b2, .slice A2' l2' c2', .bool b2'] := hk.next.next.next.next.next.next.next.next.next.next.next.next.next.next.next.next.next.next.next.next.next.next.next.next.next.next.next.next.next.next.next.next.next.next.next.next.next.next.next.next.next.next.next.next.next.next.next.next.next.next.next.next.next.next.next.next.next.here
        have h151 : (s 151) = .int .i64 cc := hk.next.next.next.next.next.next.next.next.next.next.next.next.next.next.next.next.next.next.next.next.next.next.next.next.next.next.next.next.next.next.next.next.next.next.next.next.next.next.next.next.next.next.next.next.next.next.next.next.next.next.next.next.next.next.next.next.next.next.here
        have h152 : (s 152) = .agg #[.slice A2 l2 c2, .bool b2, .slice A2' l2' c2', .bool b2'] := hk.next.next.next.next.next.next.next.next.next.next.next.next.next.next.next.next.next.next.next.next.next.next.next.next.next.next.next.next.next.next.next.next.next.next.next.next.next.next.next.next.next.next.next.next.next.next.next.next.next.next.next.next.next.next.next.next.next.next.next.here
        have h153 : (s 153) = .agg #[.slice A1 l1 c1, .bool b1, .slice A1' l1' c1', .bool b1'] := hk.next.next.next.next.next.next.next.next.next.next.next.next.next.next.next.next.next.next.next.next.next.next.next.next.next.next.next.next.next.next.next.next.next.next.next.next.next.next.next.next.next.next.next.next.next.next.next.next.next.next.next.next.next.next.next.next.next.next.next.next.here
        have h154 : (s 154) = .int .i64 (-cc) := hk.next.next.next.next.next.next.next.next.next.next.next.next.next.next.next.next.next.next.next.next.next.next.next.next.next.next.next.next.next.next.next.next.next.next.next.next.next.next.next.next.next.next.next.next.next.next.next.next.next.next.next.next.next.next.next.next.next.next.next.next.next.here
        have h155 : (s 155) = .int .i64 cc := hk.next.next.next.next.next.next.next.next.next.next.next.next.next.next.next.next.next.next.next.next.next.next.next.next.next.next.next.next.next.next.next.next.next.next.next.next.next.next.next.next.next.next.next.next.next.next.next.next.next.next.next.next.next.next.next.next.next.next.next.next.next.next.here
        have h156 : (s 156) = .bool true := hk.next.next.next.next.next.next.next.next.next.next.next.next.next.next.next.next.next.next.next.next.next.next.next.next.next.next.next.next.next.next.next.next.next.next.next.next.next.next.next.next.next.next.next.next.next.next.next.next.next.next.next.next.next.next.next.next.next.next.next.next.next.next.next.here
        have h157 : (s 157) = .bool true := hk.next.next.next.next.next.next.next.next.next.next.next.next.next.next.next.next.next.next.next.next.next.next.next.next.next.next.next.next.next.next.next.next.next.next.next.next.next.next.next.next.next.next.next.next.next.next.next.next.next.next.next.next.next.next.next.next.next.next.next.next.next.next.next.next.here
        have h158 : (s 158) = .bool true := hk.next.next.next.next.next.next.next.next.next.next.next.next.next.next.next.next.next.next.next.next.next.next.next.next.next.next.next.next.next.next.next.next.next.next.next.next.next.next.next.next.next.next.next.next.next.next.next.next.next.next.next.next.next.next.next.next.next.next.next.next.next.next.next.next.next.here
        have h159 : (s 159) = .agg #[.slice A1 l1 c1, .bool b1, .slice A1' l1' c1', .bool b1'] := hk.next.next.next.next.next.next.next.next.next.next.next.next.next.next.next.next.next.next.next.next.next.next.next.next.next.next.next.next.next.next.next.next.next.next.next.next.next.next.next.next.next.next.next.next.next.next.next.next.next.next.next.next.next.next.next.next.next.next.next.next.next.next.next.next.next.next.here
        have h160 : (s 160) = .agg #[.slice A2 l2 c2, .bool b2, .slice A2' l2' c2', .bool b2'] := hk.next.next.next.next.next.next.next.next.next.next.next.next.next.next.next.next.next.next.next.next.next.next.next.next.next.next.next.next.next.next.next.next.next.next.next.next.next.next.next.next.next.next.next.next.next.next.next.next.next.next.next.next.next.next.next.next.next.next.next.next.next.next.next.next.next.next.next.here
        have h161 : RatB V0 (s 161) ndab ddab 1025 := hk.next.next.next.next.next.next.next.next.next.next.next.next.next.next.next.next.next.next.next.next.next.next.next.next.next.next.next.next.next.next.next.next.next.next.next.next.next.next.next.next.next.next.next.next.next.next.next.next.next.next.next.next.next.next.next.next.next.next.next.next.next.next.next.next.next.next.next.next.here
        have h162 : (s 162) = .int .i64 cc := hk.next.next.next.next.next.next.next.next.next.next.next.next.next.next.next.next.next.next.next.next.next.next.next.next.next.next.next.next.next.next.next.next.next.next.next.next.next.next.next.next.next.next.next.next.next.next.next.next.next.next.next.next.next.next.next.next.next.next.next.next.next.next.next.next.next.next.next.next.next.here
        have h163 : (s 163) = .agg #[.slice A1 l1 c1, .bool b1, .slice A1' l1' c1', .bool b1'] := hk.next.next.next.next.next.next.next.next.next.next.next.next.next.next.next.next.next.next.next.next.next.next.next.next.next.next.next.next.next.next.next.next.next.next.next.next.next.next.next.next.next.next.next.next.next.next.next.next.next.next.next.next.next.next.next.next.next.next.next.next.next.next.next.next.next.next.next.next.next.next.here
        have h164 : (s 164) = .agg #[.slice A2 l2 c2, .bool b2, .slice A2' l2' c2', .bool b2'] := hk.next.next.next.next.next.next.next.next.next.next.next.next.next.next.next.next.next.next.next.next.next.next.next.next.next.next.next.next.next.next.next.next.next.next.next.next.next.next.next.next.next.next.next.next.next.next.next.next.next.next.next.next.next.next.next.next.next.next.next.next.next.next.next.next.next.next.next.next.next.next.next.here
        have h165 : (s 165) = .int .i64 cc := hk.next.next.next.next.next.next.next.next.next.next.next.next.next.next.next.next.next.next.next.next.next.next.next.next.next.next.next.next.next.next.next.next.next.next.next.next.next.next.next.next.next.next.next.next.next.next.next.next.next.next.next.next.next.next.next.next.next.next.next.next.next.next.next.next.next.next.next.next.next.next.next.next.here
        have h166 : (s 166) = .bool true := hk.next.next.next.next.next.next.next.next.next.next.next.next.next.next.next.next.next.next.next.next.next.next.next.next.next.next.next.next.next.next.next.next.next.next.next.next.next.next.next.next.next.next.next.next.next.next.next.next.next.next.next.next.next.next.next.next.next.next.next.next.next.next.next.next.next.next.next.next.next.next.next.next.next.here
        have h167 : (s 167) = .bool true := hk.next.next.next.next.next.next.next.next.next.next.next.next.next.next.next.next.next.next.next.next.next.next.next.next.next.next.next.next.next.next.next.next.next.next.next.next.next.next.next.next.next.next.next.next.next.next.next.next.next.next.next.next.next.next.next.next.next.next.next.next.next.next.next.next.next.next.next.next.next.next.next.next.next.next.here
        clear hk
        simp only [fr, fill, Nat.reduceAdd, Act.put, List.setIfInBounds_toArray, List.set_cons_zero, List.set_cons_succ]
        generalize s 93 = x93 at *
        generalize s 94 = x94 at *
        generalize s 95 = x95 at *
        generalize s 96 = x96 at *
        generalize s 97 = x97 at *
        generalize s 98 = x98 at *
        generalize s 99 = x99 at *
        generalize s 100 = x100 at *
        generalize s 101 = x101 at *
        generalize s 102 = x102 at *
        generalize s 103 = x103 at *
        generalize s 104 = x104 at *
        generalize s 105 = x105 at *
        generalize s 106 = x106 at *
        generalize s 107 = x107 at *
        generalize s 108 = x108 at *
        generalize s 109 = x109 at *
        generalize s 110 = x110 at *
        generalize s 111 = x111 at *
        generalize s 112 = x112 at *
        generalize s 113 = x113 at *
        generalize s 114 = x114 at *
        generalize s 115 = x115 at *
        generalize s 116 = x116 at *
        generalize s 117 = x117 at *
        generalize s 118 = x118 at *
        generalize s 119 = x119 at *
        generalize s 120 = x120 at *
        generalize s 121 = x121 at *
        generalize s 122 = x122 at *
        generalize s 123 = x123 at *
        generalize s 124 = x124 at *
        generalize s 125 = x125 at *
        generalize s 126 = x126 at *
        generalize s 127 = x127 at *
        generalize s 128 = x128 at *
        generalize s 129 = x129 at *
        generalize s 130 = x130 at *
        generalize s 131 = x131 at *
        generalize s 132 = x132 at *
        generalize s 133 = x133 at *
        generalize s 134 = x134 at *
        generalize s 135 = x135 at *
        generalize s 136 = x136 at *
        generalize s 137 = x137 at *
        generalize s 138 = x138 at *
        generalize s 139 = x139 at *
        generalize s 140 = x140 at *
        generalize s 141 = x141 at *
        generalize s 142 = x142 at *
        generalize s 143 = x143 at *
        generalize s 144 = x144 at *
        generalize s 145 = x145 at *
        generalize s 146 = x146 at *
        generalize s 147 = x147 at *
        generalize s 148 = x148 at *
        generalize s 149 = x149 at *
        generalize s 150 = x150 at *
        generalize s 151 = x151 at *
        generalize s 152 = x152 at *
        generalize s 153 = x153 at *
        generalize s 154 = x154 at *
        generalize s 155 = x155 at *
        generalize s 156 = x156 at *
        generalize s 157 = x157 at *
        generalize s 158 = x158 at *
        generalize s 159 = x159 at *
        generalize s 160 = x160 at *
        generalize s 161 = x161 at *
        generalize s 162 = x162 at *
        generalize s 163 = x163 at *
        generalize s 164 = x164 at *
        generalize s 165 = x165 at *
        generalize s 166 = x166 at *
        generalize s 167 = x167 at *
        subst h93
        subst h94
        subst h96
        subst h98
        subst h99
        subst h100
        subst h101
        subst h102
        subst h103
        subst h104
        subst h107
        subst h108
        subst h109
        subst h111
        subst h112
        subst h115
        subst h116
        subst h117
        subst h118
        subst h119
        subst h120
        subst h122
        subst h124
        subst h125
        subst h126
        subst h128
        subst h130
        subst h131
        subst h132
        subst h133
        subst h134
        subst h135
        subst h137
        subst h139
        subst h140
        subst h141
        subst h143
        subst h145
        subst h146
        subst h147
        subst h148
        subst h149
        subst h150
        subst h151
        subst h152
        subst h153
        subst h154
        subst h155
        subst h156
        subst h157
        subst h158
        subst h159
        subst h160
        subst h162
        subst h163
        subst h164
        subst h165
        subst h166
        subst h167
        refine wpAny_chain [75] _ _ _ (by kernel_rfl) ?_
        change wpList _ _ _ [_] _ _
        have HNF := Lib.hid (HN8.out.trans hn)
        clear hn h95 h97 h105 h106 h110 h113 h114 h121 h123 h127 h129 h136 h138 h142 h144 h161 
        refine wpList_plain rfl fun K75 hK75 => ?_
        go_simp
        refine hK75 _ _ ?_
        clear hK75
        change Exit.then _ _ .normal _ _
        simp only [Exit.then]
        go_wp2_with fail
        go_ret
        exact ⟨rfl, HNF.out⟩
end Go.Proofs.YtkjlmibleoecgaaGreatDoor
