/- The laws of 02: NumMakes, walked. (Printed by mkn3.py.) -/
import Derived.Test.YtfeljdlhapikmaaDoorZ3
import Derived.Test.YtfeljdlhapikmaaDoorZ7
namespace Go.Proofs.YtfeljdlhapikmaaDoor
set_option linter.unusedSimpArgs false
set_option linter.unusedVariables false
open Go.RowKit
theorem decS_zero' : decS 0 = ⟨#[48]⟩ := by unfold decS; rw [dec_small (by omega)]; rfl
theorem numS_zero : numS 0 = ⟨#[48]⟩ := by unfold numS; rw [if_neg (by omega)]; exact decS_zero'
theorem zero_text {s : ByteArray} (h : s.toList = [48]) : s = decS 0 := by
  rw [decS_zero']
  have h2 : s.data.toList = [48] := by rw [← Lib.toList_data]; exact h
  obtain ⟨⟨l⟩⟩ := s
  simp only at h2
  rw [h2]
/-- What NumMakes wants. -/
def wantS (b : Bool) (x : Nat) (s : ByteArray) : ByteArray := if b = true ∧ 0 < x then (⟨#[45]⟩ : ByteArray) ++ s else s
theorem want_text {b : Bool} {x : Nat} {s : ByteArray} (h : decS x = s) : numS (sgn b x) = wantS b x s := by
  unfold numS wantS sgn
  cases b
  · simp; exact h
  · simp only [if_true, true_and]
    by_cases hx : 0 < x
    · rw [if_pos (by omega), if_pos hx, show (-(x : Int)).natAbs = x by omega, h]
    · rw [if_neg (by omega), if_neg hx, show (-(x : Int)).natAbs = x by omega, h]
set_option maxRecDepth 100000 in
set_option maxHeartbeats 8000000 in
theorem numMakes_walk (b : Bool) (s : ByteArray) (w : World) (L : Lib.TabIs Tryd.prog w "internal/strconv.uint64pow10" .u64 Lib.pow10Tab) :
    Calls Tryd.prog 5 #[.bool b, .string s] w fun e w' => e = .returned (.bool true) ∧ Below w.heap.size w w' := by
  have HTAB := Lib.hid L
  clear L
  by_cases hs : 512 < s.size
  · have hs2 : (512 : Int) < (s.size : Int) := by omega
    go_enter Tryd.func5, Tryd.ntmps5
    go_wp2
    go_ret
    exact ⟨rfl, New.refl w⟩
  · have hs2 : ¬ (512 : Int) < (s.size : Int) := by omega
    have HP := Lib.hid (fun W => parse_c s W (by omega))
    have HQ := Lib.hid (fun W => rparse_n s W (by omega))
    have hln : (dg B32 (pNum s.data.toList)).length ≤ 4096 := Nat.le_trans isNum_len' (by rw [← Lib.size_eq]; omega)
    have HLN := Lib.hid hln
    clear hln
    cases hi : isNum s.data.toList
    · have hpe : pErr s.data.toList = 10 := by unfold pErr; rw [hi]; rfl
      rw [hpe] at HP
      clear hpe
      have hez : errZ s.data.toList = 10 ∨ (errZ s.data.toList = 0 ∧ ∃ h : 0 < s.size, (s[0]'h).toNat = 45) := by
        by_cases hz : isZ s.data.toList = true
        · right
          refine ⟨by unfold errZ; rw [if_pos hz], ?_⟩
          unfold isZ at hz
          by_cases hh : s.data.toList.head? = some 45
          · have h0 : 0 < s.size := by
              rw [Lib.size_eq]
              refine List.length_pos_iff.2 fun e => ?_
              rw [e] at hh; cases hh
            have h2 := head_get h0
            rw [hh] at h2
            exact ⟨h0, by rw [← Option.some.inj h2]; rfl⟩
          · rw [if_neg hh, hi] at hz; cases hz
        · exact .inl (by unfold errZ; rw [if_neg hz])
      rcases hez with he | ⟨he, h0, h45⟩
      · rw [he] at HQ
        clear he hi HLN
        go_enter Tryd.func5, Tryd.ntmps5
        go_wp2_with fail
        refine (HP.out _).mono ?_
        rintro e w1 ⟨v1, rfl, hv1, hn1⟩
        obtain ⟨A1, l1, c1, rfl⟩ := hv1.form
        have hn1' := hn1.alloc (.cells #[.slice A1 l1 c1] NNat)
        have HN1 := Lib.hid hn1'
        clear hv1 hn1 hn1'
        go_wp2_with fail
        refine (HQ.out _).mono ?_
        rintro e w2 ⟨v2, rfl, hv2, hn2⟩
        obtain ⟨b2, A2, l2, c2, rfl⟩ := hv2.form
        have HN2 := Lib.hid ((HN1.out.trans hn2).alloc (.cells #[.bool b2, .slice A2 l2 c2] RNum))
        clear hv2 hn2
        go_wp2_with fail
        go_ret
        exact ⟨rfl, HN2.out⟩
      · rw [he] at HQ
        have h2 : (((s[0]'h0).toNat : Int) == 45) = true := by rw [h45]; rfl
        clear he hi HLN
        go_enter Tryd.func5, Tryd.ntmps5
        go_wp2_with fail
        refine (HP.out _).mono ?_
        rintro e w1 ⟨v1, rfl, hv1, hn1⟩
        obtain ⟨A1, l1, c1, rfl⟩ := hv1.form
        have hn1' := hn1.alloc (.cells #[.slice A1 l1 c1] NNat)
        have HN1 := Lib.hid hn1'
        clear hv1 hn1 hn1'
        go_wp2_with fail
        refine (HQ.out _).mono ?_
        rintro e w2 ⟨v2, rfl, hv2, hn2⟩
        obtain ⟨b2, A2, l2, c2, rfl⟩ := hv2.form
        have HN2 := Lib.hid ((HN1.out.trans hn2).alloc (.cells #[.bool b2, .slice A2 l2 c2] RNum))
        clear hv2 hn2
        go_wp2_with fail
        go_ret
        exact ⟨rfl, HN2.out⟩
    · have hpe : pErr s.data.toList = 0 := by unfold pErr; rw [hi]; rfl
      rw [hpe] at HP
      have hp : pNum s.data.toList = numL s.data.toList := by unfold pNum; rw [if_pos hi]
      have hds : decS (pNum s.data.toList) = s := decS_of (by rw [hp]; exact dec_num hi)
      have hsz : s.size ≤ 512 := by omega
      clear hpe hp hi
      generalize pNum s.data.toList = x at *
      generalize errZ s.data.toList = ez at *
      have HDS := Lib.hid hds
      have hwt := want_text (b := b) hds
      have HWT := Lib.hid hwt
      have hsg : sgZ (sgn b x) = 0 ↔ x = 0 := by unfold sgZ sgn; cases b <;> simp <;> (repeat' split) <;> omega
      have HSG := Lib.hid hsg
      have hna : (sgn b x).natAbs = x := sgn_abs b x
      have HNA := Lib.hid hna
      clear hds hwt hsg hna
      have hx : x = 0 ∨ 0 < x := by omega
      rcases hx with hx | hx
      · have hd : s.toList = [48] := by rw [← HDS.out, hx, decS_zero', Lib.toList_data]
        have hsg : ((sgZ (sgn b x) : Int) == 0) = true := by rw [HSG.out.2 hx]; rfl
        have hw : wantS b x s = s := by unfold wantS; rw [if_neg (by omega)]
        rw [hw] at HWT
        have HX := Lib.hid hx
        clear hx hw
        cases b
        · skip
          go_enter Tryd.func5, Tryd.ntmps5
          go_wp2_with fail
          refine (HP.out _).mono ?_
          rintro e w1 ⟨v1, rfl, hv1, hn1⟩
          obtain ⟨A1, l1, c1, rfl⟩ := hv1.form
          have hn1' := hn1.alloc (.cells #[.slice A1 l1 c1] NNat)
          have HN1 := Lib.hid hn1'
          have HV1 := Lib.hid (show NatB _ (.agg #[.slice A1 l1 c1]) x 4096 from ⟨hv1.new ((New.refl w1).alloc (.cells #[.slice A1 l1 c1] NNat)), HLN.out⟩)
          have c5 : (w1.alloc (.cells #[.slice A1 l1 c1] NNat)).cell? ⟨w1.heap.size, 0, none⟩ = some (.slice A1 l1 c1) := (Box.last w1 #[.slice A1 l1 c1] NNat).cell 0
          clear hv1 hn1 hn1'
          go_wp2_with fail
          refine (HQ.out _).mono ?_
          rintro e w2 ⟨v2, rfl, hv2, hn2⟩
          obtain ⟨b2, A2, l2, c2, rfl⟩ := hv2.form
          have hn2' := hn2.alloc (.cells #[.bool b2, .slice A2 l2 c2] RNum)
          have HN2 := Lib.hid (HN1.out.trans hn2')
          have HV2 := Lib.hid (HV1.out.new hn2')
          have c6 := hn2'.still c5
          clear hv2 hn2 hn2' c5
          go_wp2_with fail
          refine (make_n false HV2.out (by omega)).mono ?_
          rintro e w3 ⟨v3, rfl, hv3, hn3⟩
          obtain ⟨A3, l3, c3, rfl, _⟩ := hv3.form
          generalize decide (sgn false x < 0) = b3 at *
          have hn3' := hn3.alloc (.cells #[.slice A3 l3 c3, .bool b3] NNum)
          have HN3 := Lib.hid (HN2.out.trans hn3')
          have HV3 := Lib.hid (hv3.new ((New.refl w3).alloc (.cells #[.slice A3 l3 c3, .bool b3] NNum)))
          have HB3 := Lib.hid (Box.last w3 #[.slice A3 l3 c3, .bool b3] NNum)
          obtain ⟨c7, c8, _, _⟩ := HB3.out.two
          clear hv3 hn3 hn3' c6
          go_wp2_with fail
          obtain ⟨W3, hW3⟩ : ∃ X : World, X = w3.alloc (.cells #[.slice A3 l3 c3, .bool b3] NNum) := ⟨_, rfl⟩
          rw [← hW3] at HN3 HV3 HB3 c7 c8 ⊢
          clear hW3
          generalize w3.heap.size = p3 at *
          have htx := text_n HV3.out (by omega) (tabIs_new HN3.out HTAB.out)
          rw [HWT.out] at htx
          refine htx.mono ?_
          rintro e w4 ⟨rfl, hn4⟩
          have d7 := hn4.still c7
          have d8 := hn4.still c8
          have HN4 := Lib.hid (HN3.out.trans hn4)
          have HV4 := Lib.hid (HV3.out.new hn4)
          clear hn4 htx c7 c8
          go_wp2_with fail
          have hab := abs_n HV4.out
          rw [HNA.out] at hab
          refine hab.mono ?_
          rintro e w5 ⟨v5, rfl, hv5, hn5⟩
          have e7 := hn5.still d7
          have e8 := hn5.still d8
          have HN5 := Lib.hid (HN4.out.trans hn5)
          have HV5 := Lib.hid (HV4.out.new hn5)
          have HA5 := Lib.hid (text_s hv5 (by omega) (tabIs_new HN5.out HTAB.out) HDS.out)
          clear hn5 hab d7 d8 hv5
          go_wp2_with fail
          refine HA5.out.mono ?_
          rintro e w6 ⟨rfl, hn6⟩
          have f7 := hn6.still e7
          have f8 := hn6.still e8
          have HN6 := Lib.hid (HN5.out.trans hn6)
          have HV6 := Lib.hid (HV5.out.new hn6)
          clear hn6 e7 e8 HA5
          go_wp2_with fail
          refine (sign_n HV6.out (by omega)).mono ?_
          rintro e w7 ⟨rfl, hn7⟩
          have HN7 := Lib.hid (HN6.out.trans hn7)
          have HT7 := Lib.hid (text_n (z := 0) (k := 0) (v := .agg #[.slice none 0 0, .bool false]) ⟨⟨none, 0, 0, rfl, NatV.zero w7⟩, by rw [show (0 : Int).natAbs = 0 from rfl, dg_zero]; simp⟩ (by omega) (tabIs_new HN7.out HTAB.out))
          rw [numS_zero] at HT7
          generalize sgZ (sgn false x) = sg at *
          clear hn7 f7 f8
          go_wp2_with fail
          refine HT7.out.mono ?_
          rintro e w8 ⟨rfl, hn8⟩
          have HN8 := Lib.hid (HN7.out.trans hn8)
          clear hn8
          go_wp2_with fail
          go_ret
          first | exact ⟨rfl, HN8.out⟩ | exact ⟨by simp, HN8.out⟩
        · skip
          go_enter Tryd.func5, Tryd.ntmps5
          go_wp2_with fail
          refine (HP.out _).mono ?_
          rintro e w1 ⟨v1, rfl, hv1, hn1⟩
          obtain ⟨A1, l1, c1, rfl⟩ := hv1.form
          have hn1' := hn1.alloc (.cells #[.slice A1 l1 c1] NNat)
          have HN1 := Lib.hid hn1'
          have HV1 := Lib.hid (show NatB _ (.agg #[.slice A1 l1 c1]) x 4096 from ⟨hv1.new ((New.refl w1).alloc (.cells #[.slice A1 l1 c1] NNat)), HLN.out⟩)
          have c5 : (w1.alloc (.cells #[.slice A1 l1 c1] NNat)).cell? ⟨w1.heap.size, 0, none⟩ = some (.slice A1 l1 c1) := (Box.last w1 #[.slice A1 l1 c1] NNat).cell 0
          clear hv1 hn1 hn1'
          go_wp2_with fail
          refine (HQ.out _).mono ?_
          rintro e w2 ⟨v2, rfl, hv2, hn2⟩
          obtain ⟨b2, A2, l2, c2, rfl⟩ := hv2.form
          have hn2' := hn2.alloc (.cells #[.bool b2, .slice A2 l2 c2] RNum)
          have HN2 := Lib.hid (HN1.out.trans hn2')
          have HV2 := Lib.hid (HV1.out.new hn2')
          have c6 := hn2'.still c5
          clear hv2 hn2 hn2' c5
          go_wp2_with fail
          refine (make_n true HV2.out (by omega)).mono ?_
          rintro e w3 ⟨v3, rfl, hv3, hn3⟩
          obtain ⟨A3, l3, c3, rfl, _⟩ := hv3.form
          generalize decide (sgn true x < 0) = b3 at *
          have hn3' := hn3.alloc (.cells #[.slice A3 l3 c3, .bool b3] NNum)
          have HN3 := Lib.hid (HN2.out.trans hn3')
          have HV3 := Lib.hid (hv3.new ((New.refl w3).alloc (.cells #[.slice A3 l3 c3, .bool b3] NNum)))
          have HB3 := Lib.hid (Box.last w3 #[.slice A3 l3 c3, .bool b3] NNum)
          obtain ⟨c7, c8, _, _⟩ := HB3.out.two
          clear hv3 hn3 hn3' c6
          go_wp2_with fail
          obtain ⟨W3, hW3⟩ : ∃ X : World, X = w3.alloc (.cells #[.slice A3 l3 c3, .bool b3] NNum) := ⟨_, rfl⟩
          rw [← hW3] at HN3 HV3 HB3 c7 c8 ⊢
          clear hW3
          generalize w3.heap.size = p3 at *
          have htx := text_n HV3.out (by omega) (tabIs_new HN3.out HTAB.out)
          rw [HWT.out] at htx
          refine htx.mono ?_
          rintro e w4 ⟨rfl, hn4⟩
          have d7 := hn4.still c7
          have d8 := hn4.still c8
          have HN4 := Lib.hid (HN3.out.trans hn4)
          have HV4 := Lib.hid (HV3.out.new hn4)
          clear hn4 htx c7 c8
          go_wp2_with fail
          have hab := abs_n HV4.out
          rw [HNA.out] at hab
          refine hab.mono ?_
          rintro e w5 ⟨v5, rfl, hv5, hn5⟩
          have e7 := hn5.still d7
          have e8 := hn5.still d8
          have HN5 := Lib.hid (HN4.out.trans hn5)
          have HV5 := Lib.hid (HV4.out.new hn5)
          have HA5 := Lib.hid (text_s hv5 (by omega) (tabIs_new HN5.out HTAB.out) HDS.out)
          clear hn5 hab d7 d8 hv5
          go_wp2_with fail
          refine HA5.out.mono ?_
          rintro e w6 ⟨rfl, hn6⟩
          have f7 := hn6.still e7
          have f8 := hn6.still e8
          have HN6 := Lib.hid (HN5.out.trans hn6)
          have HV6 := Lib.hid (HV5.out.new hn6)
          clear hn6 e7 e8 HA5
          go_wp2_with fail
          refine (sign_n HV6.out (by omega)).mono ?_
          rintro e w7 ⟨rfl, hn7⟩
          have HN7 := Lib.hid (HN6.out.trans hn7)
          have HT7 := Lib.hid (text_n (z := 0) (k := 0) (v := .agg #[.slice none 0 0, .bool false]) ⟨⟨none, 0, 0, rfl, NatV.zero w7⟩, by rw [show (0 : Int).natAbs = 0 from rfl, dg_zero]; simp⟩ (by omega) (tabIs_new HN7.out HTAB.out))
          rw [numS_zero] at HT7
          generalize sgZ (sgn true x) = sg at *
          clear hn7 f7 f8
          go_wp2_with fail
          refine HT7.out.mono ?_
          rintro e w8 ⟨rfl, hn8⟩
          have HN8 := Lib.hid (HN7.out.trans hn8)
          clear hn8
          go_wp2_with fail
          go_ret
          first | exact ⟨rfl, HN8.out⟩ | exact ⟨by simp, HN8.out⟩
      · have hd : (s.toList == [48]) = false := by
          rw [beq_eq_false_iff_ne]; intro h
          have e : x = 0 := decS_inj (by rw [HDS.out]; exact zero_text h)
          omega
        have hsg : ((sgZ (sgn b x) : Int) == 0) = false := by rw [beq_eq_false_iff_ne]; intro h; have := HSG.out.1 h; omega
        have hx2 := hx
        have HX := Lib.hid hx
        clear hx hx2
        have hcat : ¬ 9223372036854775807 < 1 + s.size := by omega
        cases b
        · have hw : wantS false x s = s := by unfold wantS; rw [if_neg (by simp)]
          rw [hw] at HWT
          clear hw
          go_enter Tryd.func5, Tryd.ntmps5
          go_wp2_with fail
          refine (HP.out _).mono ?_
          rintro e w1 ⟨v1, rfl, hv1, hn1⟩
          obtain ⟨A1, l1, c1, rfl⟩ := hv1.form
          have hn1' := hn1.alloc (.cells #[.slice A1 l1 c1] NNat)
          have HN1 := Lib.hid hn1'
          have HV1 := Lib.hid (show NatB _ (.agg #[.slice A1 l1 c1]) x 4096 from ⟨hv1.new ((New.refl w1).alloc (.cells #[.slice A1 l1 c1] NNat)), HLN.out⟩)
          have c5 : (w1.alloc (.cells #[.slice A1 l1 c1] NNat)).cell? ⟨w1.heap.size, 0, none⟩ = some (.slice A1 l1 c1) := (Box.last w1 #[.slice A1 l1 c1] NNat).cell 0
          clear hv1 hn1 hn1'
          go_wp2_with fail
          refine (HQ.out _).mono ?_
          rintro e w2 ⟨v2, rfl, hv2, hn2⟩
          obtain ⟨b2, A2, l2, c2, rfl⟩ := hv2.form
          have hn2' := hn2.alloc (.cells #[.bool b2, .slice A2 l2 c2] RNum)
          have HN2 := Lib.hid (HN1.out.trans hn2')
          have HV2 := Lib.hid (HV1.out.new hn2')
          have c6 := hn2'.still c5
          clear hv2 hn2 hn2' c5
          go_wp2_with fail
          refine (make_n false HV2.out (by omega)).mono ?_
          rintro e w3 ⟨v3, rfl, hv3, hn3⟩
          obtain ⟨A3, l3, c3, rfl, _⟩ := hv3.form
          generalize decide (sgn false x < 0) = b3 at *
          have hn3' := hn3.alloc (.cells #[.slice A3 l3 c3, .bool b3] NNum)
          have HN3 := Lib.hid (HN2.out.trans hn3')
          have HV3 := Lib.hid (hv3.new ((New.refl w3).alloc (.cells #[.slice A3 l3 c3, .bool b3] NNum)))
          have HB3 := Lib.hid (Box.last w3 #[.slice A3 l3 c3, .bool b3] NNum)
          obtain ⟨c7, c8, _, _⟩ := HB3.out.two
          clear hv3 hn3 hn3' c6
          go_wp2_with fail
          obtain ⟨W3, hW3⟩ : ∃ X : World, X = w3.alloc (.cells #[.slice A3 l3 c3, .bool b3] NNum) := ⟨_, rfl⟩
          rw [← hW3] at HN3 HV3 HB3 c7 c8 ⊢
          clear hW3
          generalize w3.heap.size = p3 at *
          have htx := text_n HV3.out (by omega) (tabIs_new HN3.out HTAB.out)
          rw [HWT.out] at htx
          refine htx.mono ?_
          rintro e w4 ⟨rfl, hn4⟩
          have d7 := hn4.still c7
          have d8 := hn4.still c8
          have HN4 := Lib.hid (HN3.out.trans hn4)
          have HV4 := Lib.hid (HV3.out.new hn4)
          clear hn4 htx c7 c8
          go_wp2_with fail
          have hab := abs_n HV4.out
          rw [HNA.out] at hab
          refine hab.mono ?_
          rintro e w5 ⟨v5, rfl, hv5, hn5⟩
          have e7 := hn5.still d7
          have e8 := hn5.still d8
          have HN5 := Lib.hid (HN4.out.trans hn5)
          have HV5 := Lib.hid (HV4.out.new hn5)
          have HA5 := Lib.hid (text_s hv5 (by omega) (tabIs_new HN5.out HTAB.out) HDS.out)
          clear hn5 hab d7 d8 hv5
          go_wp2_with fail
          refine HA5.out.mono ?_
          rintro e w6 ⟨rfl, hn6⟩
          have f7 := hn6.still e7
          have f8 := hn6.still e8
          have HN6 := Lib.hid (HN5.out.trans hn6)
          have HV6 := Lib.hid (HV5.out.new hn6)
          clear hn6 e7 e8 HA5
          go_wp2_with fail
          refine (sign_n HV6.out (by omega)).mono ?_
          rintro e w7 ⟨rfl, hn7⟩
          have HN7 := Lib.hid (HN6.out.trans hn7)
          have HT7 := Lib.hid (text_n (z := 0) (k := 0) (v := .agg #[.slice none 0 0, .bool false]) ⟨⟨none, 0, 0, rfl, NatV.zero w7⟩, by rw [show (0 : Int).natAbs = 0 from rfl, dg_zero]; simp⟩ (by omega) (tabIs_new HN7.out HTAB.out))
          rw [numS_zero] at HT7
          generalize sgZ (sgn false x) = sg at *
          clear hn7 f7 f8
          go_wp2_with fail
          refine HT7.out.mono ?_
          rintro e w8 ⟨rfl, hn8⟩
          have HN8 := Lib.hid (HN7.out.trans hn8)
          clear hn8
          go_wp2_with fail
          go_ret
          first | exact ⟨rfl, HN8.out⟩ | exact ⟨by simp, HN8.out⟩
        · have hw : wantS true x s = (⟨#[45]⟩ : ByteArray) ++ s := by unfold wantS; rw [if_pos ⟨rfl, HX.out⟩]
          rw [hw] at HWT
          clear hw
          go_enter Tryd.func5, Tryd.ntmps5
          go_wp2_with fail
          refine (HP.out _).mono ?_
          rintro e w1 ⟨v1, rfl, hv1, hn1⟩
          obtain ⟨A1, l1, c1, rfl⟩ := hv1.form
          have hn1' := hn1.alloc (.cells #[.slice A1 l1 c1] NNat)
          have HN1 := Lib.hid hn1'
          have HV1 := Lib.hid (show NatB _ (.agg #[.slice A1 l1 c1]) x 4096 from ⟨hv1.new ((New.refl w1).alloc (.cells #[.slice A1 l1 c1] NNat)), HLN.out⟩)
          have c5 : (w1.alloc (.cells #[.slice A1 l1 c1] NNat)).cell? ⟨w1.heap.size, 0, none⟩ = some (.slice A1 l1 c1) := (Box.last w1 #[.slice A1 l1 c1] NNat).cell 0
          clear hv1 hn1 hn1'
          go_wp2_with fail
          refine (HQ.out _).mono ?_
          rintro e w2 ⟨v2, rfl, hv2, hn2⟩
          obtain ⟨b2, A2, l2, c2, rfl⟩ := hv2.form
          have hn2' := hn2.alloc (.cells #[.bool b2, .slice A2 l2 c2] RNum)
          have HN2 := Lib.hid (HN1.out.trans hn2')
          have HV2 := Lib.hid (HV1.out.new hn2')
          have c6 := hn2'.still c5
          clear hv2 hn2 hn2' c5
          go_wp2_with fail
          refine (make_n true HV2.out (by omega)).mono ?_
          rintro e w3 ⟨v3, rfl, hv3, hn3⟩
          obtain ⟨A3, l3, c3, rfl, _⟩ := hv3.form
          generalize decide (sgn true x < 0) = b3 at *
          have hn3' := hn3.alloc (.cells #[.slice A3 l3 c3, .bool b3] NNum)
          have HN3 := Lib.hid (HN2.out.trans hn3')
          have HV3 := Lib.hid (hv3.new ((New.refl w3).alloc (.cells #[.slice A3 l3 c3, .bool b3] NNum)))
          have HB3 := Lib.hid (Box.last w3 #[.slice A3 l3 c3, .bool b3] NNum)
          obtain ⟨c7, c8, _, _⟩ := HB3.out.two
          clear hv3 hn3 hn3' c6
          go_wp2_with fail
          obtain ⟨W3, hW3⟩ : ∃ X : World, X = w3.alloc (.cells #[.slice A3 l3 c3, .bool b3] NNum) := ⟨_, rfl⟩
          rw [← hW3] at HN3 HV3 HB3 c7 c8 ⊢
          clear hW3
          generalize w3.heap.size = p3 at *
          have htx := text_n HV3.out (by omega) (tabIs_new HN3.out HTAB.out)
          rw [HWT.out] at htx
          refine htx.mono ?_
          rintro e w4 ⟨rfl, hn4⟩
          have d7 := hn4.still c7
          have d8 := hn4.still c8
          have HN4 := Lib.hid (HN3.out.trans hn4)
          have HV4 := Lib.hid (HV3.out.new hn4)
          clear hn4 htx c7 c8
          go_wp2_with fail
          have hab := abs_n HV4.out
          rw [HNA.out] at hab
          refine hab.mono ?_
          rintro e w5 ⟨v5, rfl, hv5, hn5⟩
          have e7 := hn5.still d7
          have e8 := hn5.still d8
          have HN5 := Lib.hid (HN4.out.trans hn5)
          have HV5 := Lib.hid (HV4.out.new hn5)
          have HA5 := Lib.hid (text_s hv5 (by omega) (tabIs_new HN5.out HTAB.out) HDS.out)
          clear hn5 hab d7 d8 hv5
          go_wp2_with fail
          refine HA5.out.mono ?_
          rintro e w6 ⟨rfl, hn6⟩
          have f7 := hn6.still e7
          have f8 := hn6.still e8
          have HN6 := Lib.hid (HN5.out.trans hn6)
          have HV6 := Lib.hid (HV5.out.new hn6)
          clear hn6 e7 e8 HA5
          go_wp2_with fail
          refine (sign_n HV6.out (by omega)).mono ?_
          rintro e w7 ⟨rfl, hn7⟩
          have HN7 := Lib.hid (HN6.out.trans hn7)
          have HT7 := Lib.hid (text_n (z := 0) (k := 0) (v := .agg #[.slice none 0 0, .bool false]) ⟨⟨none, 0, 0, rfl, NatV.zero w7⟩, by rw [show (0 : Int).natAbs = 0 from rfl, dg_zero]; simp⟩ (by omega) (tabIs_new HN7.out HTAB.out))
          rw [numS_zero] at HT7
          generalize sgZ (sgn true x) = sg at *
          clear hn7 f7 f8
          go_wp2_with fail
          refine HT7.out.mono ?_
          rintro e w8 ⟨rfl, hn8⟩
          have HN8 := Lib.hid (HN7.out.trans hn8)
          clear hn8
          go_wp2_with fail
          go_ret
          first | exact ⟨rfl, HN8.out⟩ | exact ⟨by simp, HN8.out⟩
end Go.Proofs.YtfeljdlhapikmaaDoor
