/- The laws of 01: NatDivides, walked. (Printed by mklaw11.py.) (Printed by lawgen.py.) -/
import Derived.Test.YtkjlmibleoecgaaGreatDoorLaw4a
import Derived.Test.YtkjlmibleoecgaaGreatDoorConD
import Derived.Test.YtkjlmibleoecgaaGreatDoorRef16
import Derived.Deep.RegionHeld3
namespace Go.Proofs.YtkjlmibleoecgaaGreatDoor
set_option linter.unusedSimpArgs false
set_option linter.unusedVariables false
open Go.RowKit
section
variable {w : World} {u v : Value} {x y k j : Nat}
theorem rdivmod_b (hu : RefB w u x k) (hv : RefB w v y j) (hk : k ≤ 100000) (hj : j ≤ 100000) :
    Calls Tryz.prog 15 #[u, v] w fun e w' => ∃ q r, e = .returned (.tuple #[q, r, .int .i64 (divE y)]) ∧ RefB w' q (x / y) k ∧ RefB w' r (remZ x y) k ∧ New w w' :=
  (rdivmod_c hu.v hv.v (by have := hu.k; omega) (by have := hv.k; omega)).mono fun e w' ⟨q, r, h1, h2, h3, h4⟩ => ⟨q, r, h1, ⟨h2, Nat.le_trans (dg_len_mono B9_2 (Nat.div_le_self x y)) hu.k⟩, ⟨h3, Nat.le_trans (dg_len_mono B9_2 (remZ_le x y)) hu.k⟩, h4⟩
theorem rgcd_b (hu : RefB w u x k) (hv : RefB w v y j) (hk : k ≤ 100000) (hj : j ≤ 100000) :
    Calls Tryz.prog 19 #[u, v] w fun e w' => ∃ v, e = .returned v ∧ RefB w' v (Nat.gcd x y) (k + j) ∧ New w w' :=
  (rgcd_c hu.v hv.v (by have := hu.k; omega) (by have := hv.k; omega)).mono fun e w' ⟨v, h1, h2, h3⟩ => ⟨v, h1, ⟨h2, by
    have h4 := dg_len_mono B9_2 (gcd_le_max x y)
    have h5 := hu.k
    have h6 := hv.k
    rcases Nat.le_total x y with h | h
    · rw [Nat.max_eq_right h] at h4; omega
    · rw [Nat.max_eq_left h] at h4; omega⟩, h3⟩
theorem rbits_b (hu : RefB w u x k) (hk : k ≤ 100000) : Calls Tryz.prog 23 #[u] w fun e w' => e = .returned (.int .i64 (bitsN x)) ∧ New w w' :=
  rbits_c hu.v (by have := hu.k; omega)
theorem bits_b2 (hu : NatB w u x k) (hk : k ≤ 100000) : Calls Tryz.prog 22 #[u] w fun e w' => e = .returned (.int .i64 (bitsN x)) ∧ New w w' :=
  bits_c hu.v (by have := hu.k; omega)
end
set_option maxRecDepth 1000000 in
set_option maxHeartbeats 8000000 in
theorem natDivides_walk (a b : ByteArray) (w : World) (L : Lib.TabIs Tryz.prog w "internal/strconv.uint64pow10" .u64 Lib.pow10Tab) :
    Calls Tryz.prog 3 #[.string a, .string b] w fun e w' => e = .returned (.bool true) ∧ Below w.heap.size w w' := by
  have HTAB := Lib.hid L
  clear L
  go_enter Tryz.func3, Tryz.ntmps3
  go_wp2_with fail
  have hbx := Box.last w #[.string a, .string b] 9
  refine (long_c [a, b] _ 2 2 _ rfl (fun i hi => by
    rw [hbx.cell]
    match i, hi with
    | 0, _ => rfl
    | 1, _ => rfl) hbx.lt (by decide) (by decide)).mono ?_
  rintro e w1 ⟨r, rfl, hr, hn1⟩
  have hn1' : New w w1 := ((New.refl w).alloc _).trans hn1
  clear hbx hn1
  cases r with
  | true =>
    go_wp2
    go_ret
    exact ⟨rfl, hn1'⟩
  | false =>
    have hz := hr rfl
    have ha : a.size ≤ 256 := hz a (by simp)
    have hb : b.size ≤ 256 := hz b (by simp)
    have H1 := Lib.hid (fun W => number_c a W (by omega))
    have H2 := Lib.hid (fun W => number_c b W (by omega))
    have HN1 := Lib.hid hn1'
    clear hz hr hn1'
    go_wp2_with fail
    refine (H1.out _).mono ?_
    rintro e w2 ⟨v1, u1, rfl, hv1, hu1, hn2⟩
    obtain ⟨A1, l1, c1, rfl⟩ := hv1.form
    obtain ⟨B1, m1, d1, rfl⟩ := hu1.form
    have T1 := Lib.hid (Two.last hv1 hu1)
    have HN2 := Lib.hid ((HN1.out.trans hn2).alloc (.cells #[.slice A1 l1 c1] 26) |>.alloc (.cells #[.slice B1 m1 d1] 29))
    clear hv1 hu1 hn2 HN1
    go_wp2_with fail
    refine (H2.out _).mono ?_
    rintro e w3 ⟨v2, u2, rfl, hv2, hu2, hn3⟩
    obtain ⟨A2, l2, c2, rfl⟩ := hv2.form
    obtain ⟨B2, m2, d2, rfl⟩ := hu2.form
    have T2 := Lib.hid (Two.last hv2 hu2)
    have T1' := Lib.hid (T1.out.new (hn3.alloc (.cells #[.slice A2 l2 c2] 26) |>.alloc (.cells #[.slice B2 m2 d2] 29)))
    have HN3 := Lib.hid ((HN2.out.trans hn3).alloc (.cells #[.slice A2 l2 c2] 26) |>.alloc (.cells #[.slice B2 m2 d2] 29))
    clear hv2 hu2 hn3 HN2 T1 H1 H2
    have hx6 := T1'.out.bx.cell 0
    have hr6 := T1'.out.dx.cell 0
    have hx10 := T2.out.bx.cell 0
    have hr10 := T2.out.dx.cell 0
    cases i1 : isNum a.data.toList with
    | false => go_wp2_with fail; go_ret; exact ⟨rfl, HN3.out⟩
    | true =>
    cases i2 : isNum b.data.toList with
    | false => go_wp2_with fail; go_ret; exact ⟨rfl, HN3.out⟩
    | true =>
      obtain ⟨L1, E1⟩ := num_facts ha i1
      obtain ⟨L2, E2⟩ := num_facts hb i2
      have R1 := num_ref ha i1
      have R2 := num_ref hb i2
      generalize pNum a.data.toList = x at *
      generalize pNum b.data.toList = y at *
      have hE1 : decS x = a := decS_of E1
      have hE2 : decS y = b := decS_of E2
      have HE1 := Lib.hid hE1
      have HE2 := Lib.hid hE2
      clear E1 E2 i1 i2 hE1 hE2
      go_wp2_with fail
      generalize hW : (w3.alloc (.cells #[.slice A2 l2 c2] 26)).alloc (.cells #[.slice B2 m2 d2] 29) = W at *
      generalize hp6 : w2.heap.size = p6 at *
      generalize hp10 : w3.heap.size = p10 at *
      generalize hq6 : p6 + 1 = q6 at *
      generalize hq10 : p10 + 1 = q10 at *
      clear hW hp6 hp10 hq6 hq10
      have nb1 : NatB W (.agg #[.slice A1 l1 c1]) x 1024 := ⟨T1'.out.nx, L1⟩
      have nb2 : NatB W (.agg #[.slice A2 l2 c2]) y 1024 := ⟨T2.out.nx, L2⟩
      have rb1 : RefB W (.agg #[.slice B1 m1 d1]) x 1024 := ⟨T1'.out.rx, R1⟩
      have rb2 : RefB W (.agg #[.slice B2 m2 d2]) y 1024 := ⟨T2.out.rx, R2⟩
      have HX6 := Lib.hid T1'.out.bx
      have HR6 := Lib.hid T1'.out.dx
      have HX10 := Lib.hid T2.out.bx
      have HR10 := Lib.hid T2.out.dx
      clear T1' T2 L1 L2 R1 R2
      simp only [List.getElem?_toArray, List.getElem?_cons_zero] at hx6 hr6 hx10 hr10
      clear HX6 HR6 HX10 HR10
      refine (divmod_b nb1 nb2 (by omega) (by omega)).mono ?_
      rintro e w4 ⟨v4, v5, rfl, hv4, hv5, hn⟩
      obtain ⟨A4, l4, c4, rfl⟩ := hv4.form
      obtain ⟨A5, l5, c5, rfl⟩ := hv5.form
      have hnn := (hn.alloc (.cells #[.slice A4 l4 c4] 26)).alloc (.cells #[.slice A5 l5 c5] 26)
      have hnn' := ((New.refl w4).alloc (.cells #[.slice A4 l4 c4] 26)).alloc (.cells #[.slice A5 l5 c5] 26)
      have hz4 := ((Box.last w4 #[.slice A4 l4 c4] 26).alloc (.cells #[.slice A5 l5 c5] 26)).cell 0
      have hz5 := (Box.last2 w4 (.cells #[.slice A4 l4 c4] 26) #[.slice A5 l5 c5] 26).cell 0
      simp only [List.getElem?_toArray, List.getElem?_cons_zero] at hz4 hz5
      have nv4 := hv4.new hnn'
      have nv5 := hv5.new hnn'
      replace hx6 := hnn.still hx6
      replace hr6 := hnn.still hr6
      replace hx10 := hnn.still hx10
      replace hr10 := hnn.still hr10
      replace nb1 := nb1.new hnn
      replace nb2 := nb2.new hnn
      replace rb1 := rb1.new hnn
      replace rb2 := rb2.new hnn
      replace HN3 := Lib.hid (HN3.out.trans hnn)
      clear hn hnn hnn' hv4 hv5
      go_wp2_with fail
      refine (rdivmod_b rb1 rb2 (by omega) (by omega)).mono ?_
      rintro e w5 ⟨v7, v8, rfl, hv7, hv8, hn⟩
      obtain ⟨A7, l7, c7, rfl⟩ := hv7.form
      obtain ⟨A8, l8, c8, rfl⟩ := hv8.form
      have hnn := (hn.alloc (.cells #[.slice A7 l7 c7] 29)).alloc (.cells #[.slice A8 l8 c8] 29)
      have hnn' := ((New.refl w5).alloc (.cells #[.slice A7 l7 c7] 29)).alloc (.cells #[.slice A8 l8 c8] 29)
      have hz7 := ((Box.last w5 #[.slice A7 l7 c7] 29).alloc (.cells #[.slice A8 l8 c8] 29)).cell 0
      have hz8 := (Box.last2 w5 (.cells #[.slice A7 l7 c7] 29) #[.slice A8 l8 c8] 29).cell 0
      simp only [List.getElem?_toArray, List.getElem?_cons_zero] at hz7 hz8
      have nv7 := hv7.new hnn'
      have nv8 := hv8.new hnn'
      replace hx6 := hnn.still hx6
      replace hr6 := hnn.still hr6
      replace hx10 := hnn.still hx10
      replace hr10 := hnn.still hr10
      replace hz4 := hnn.still hz4
      replace hz5 := hnn.still hz5
      replace nb1 := nb1.new hnn
      replace nb2 := nb2.new hnn
      replace rb1 := rb1.new hnn
      replace rb2 := rb2.new hnn
      replace nv4 := nv4.new hnn
      replace nv5 := nv5.new hnn
      replace HN3 := Lib.hid (HN3.out.trans hnn)
      clear hn hnn hnn' hv7 hv8
      go_wp2_with fail
      generalize hW : (w5.alloc (.cells #[.slice A7 l7 c7] 29)).alloc (.cells #[.slice A8 l8 c8] 29) = W5 at *
      generalize w4.heap.size = p14 at *
      generalize w5.heap.size = p17 at *
      generalize p14 + 1 = p15 at *
      generalize p17 + 1 = p18 at *
      clear hW
      generalize divE y = de at *
      generalize remZ x y = rz at *
      generalize x / y = qz at *
      have htab := Lib.hid (tabIs_new HN3.out HTAB.out)
      try simp only [List.append_eq, List.cons_append, List.nil_append]
      go_region_held3 (fun V => New W5 V ∧ V.cell? ⟨p6, 0, none⟩ = some (.slice A1 l1 c1) ∧ V.cell? ⟨q6, 0, none⟩ = some (.slice B1 m1 d1) ∧ V.cell? ⟨p10, 0, none⟩ = some (.slice A2 l2 c2) ∧ V.cell? ⟨q10, 0, none⟩ = some (.slice B2 m2 d2) ∧ V.cell? ⟨p14, 0, none⟩ = some (.slice A4 l4 c4) ∧ V.cell? ⟨p15, 0, none⟩ = some (.slice A5 l5 c5) ∧ V.cell? ⟨p17, 0, none⟩ = some (.slice A7 l7 c7) ∧ V.cell? ⟨p18, 0, none⟩ = some (.slice A8 l8 c8))
          (first
            | exact ⟨(New.refl _).drew, by simpa using hx6, by simpa using hr6, by simpa using hx10, by simpa using hr10, by simpa using hz4, by simpa using hz5, by simpa using hz7, by simpa using hz8⟩
            | (go_split_ands; exact ⟨New.trans (by assumption) (by assumption), New.still (by assumption) (by assumption), New.still (by assumption) (by assumption), New.still (by assumption) (by assumption), New.still (by assumption) (by assumption), New.still (by assumption) (by assumption), New.still (by assumption) (by assumption), New.still (by assumption) (by assumption), New.still (by assumption) (by assumption)⟩)
            | (go_split_ands; exact ⟨by assumption, by assumption, by assumption, by assumption, by assumption, by assumption, by assumption, by assumption, by assumption⟩))
          ((rw [if_pos (by rfl)]; go_big_op; go_split_ands; first
            | (with_reducible (refine (text_v (NatB.new (by assumption) (by first | exact New.refl _ | assumption | exact (New.refl _).alloc _ | exact New.alloc (by assumption) _ | exact New.trans ((New.refl _).alloc _) (by assumption) | exact New.trans (by assumption) (New.trans ((New.refl _).alloc _) (by assumption)) | exact New.alloc (New.trans (by assumption) (by assumption)) _ | exact New.trans (by assumption) (by assumption) | exact New.trans (by assumption) (New.trans (by assumption) (by assumption)) | exact New.trans (by assumption) (New.trans (by assumption) (New.trans (by assumption) (by assumption))) | exact New.trans (by assumption) (New.trans (by assumption) (New.trans (by assumption) (New.trans (by assumption) (by assumption)))) | exact New.trans (by assumption) (New.trans (by assumption) (New.trans (by assumption) (New.trans (by assumption) (New.trans (by assumption) (by assumption))))) | exact New.trans (by assumption) (New.trans (by assumption) (New.trans (by assumption) (New.trans (by assumption) (New.trans (by assumption) (New.trans (by assumption) (by assumption)))))))) (by omega) (tabIs_new (by first | exact New.refl _ | assumption | exact (New.refl _).alloc _ | exact New.alloc (by assumption) _ | exact New.trans ((New.refl _).alloc _) (by assumption) | exact New.trans (by assumption) (New.trans ((New.refl _).alloc _) (by assumption)) | exact New.alloc (New.trans (by assumption) (by assumption)) _ | exact New.trans (by assumption) (by assumption) | exact New.trans (by assumption) (New.trans (by assumption) (by assumption)) | exact New.trans (by assumption) (New.trans (by assumption) (New.trans (by assumption) (by assumption))) | exact New.trans (by assumption) (New.trans (by assumption) (New.trans (by assumption) (New.trans (by assumption) (by assumption)))) | exact New.trans (by assumption) (New.trans (by assumption) (New.trans (by assumption) (New.trans (by assumption) (New.trans (by assumption) (by assumption))))) | exact New.trans (by assumption) (New.trans (by assumption) (New.trans (by assumption) (New.trans (by assumption) (New.trans (by assumption) (New.trans (by assumption) (by assumption))))))) htab.out)).mono ?_); rintro e w' ⟨rfl, hn⟩; dsimp only)
            | (with_reducible (refine (rtext_v (RefB.new (by assumption) (by first | exact New.refl _ | assumption | exact (New.refl _).alloc _ | exact New.alloc (by assumption) _ | exact New.trans ((New.refl _).alloc _) (by assumption) | exact New.trans (by assumption) (New.trans ((New.refl _).alloc _) (by assumption)) | exact New.alloc (New.trans (by assumption) (by assumption)) _ | exact New.trans (by assumption) (by assumption) | exact New.trans (by assumption) (New.trans (by assumption) (by assumption)) | exact New.trans (by assumption) (New.trans (by assumption) (New.trans (by assumption) (by assumption))) | exact New.trans (by assumption) (New.trans (by assumption) (New.trans (by assumption) (New.trans (by assumption) (by assumption)))) | exact New.trans (by assumption) (New.trans (by assumption) (New.trans (by assumption) (New.trans (by assumption) (New.trans (by assumption) (by assumption))))) | exact New.trans (by assumption) (New.trans (by assumption) (New.trans (by assumption) (New.trans (by assumption) (New.trans (by assumption) (New.trans (by assumption) (by assumption)))))))) (by omega)).mono ?_); rintro e w' ⟨rfl, hn⟩; dsimp only)
            | (with_reducible (refine (gcd_b (NatB.new (by assumption) (by first | exact New.refl _ | assumption | exact (New.refl _).alloc _ | exact New.alloc (by assumption) _ | exact New.trans ((New.refl _).alloc _) (by assumption) | exact New.trans (by assumption) (New.trans ((New.refl _).alloc _) (by assumption)) | exact New.alloc (New.trans (by assumption) (by assumption)) _ | exact New.trans (by assumption) (by assumption) | exact New.trans (by assumption) (New.trans (by assumption) (by assumption)) | exact New.trans (by assumption) (New.trans (by assumption) (New.trans (by assumption) (by assumption))) | exact New.trans (by assumption) (New.trans (by assumption) (New.trans (by assumption) (New.trans (by assumption) (by assumption)))) | exact New.trans (by assumption) (New.trans (by assumption) (New.trans (by assumption) (New.trans (by assumption) (New.trans (by assumption) (by assumption))))) | exact New.trans (by assumption) (New.trans (by assumption) (New.trans (by assumption) (New.trans (by assumption) (New.trans (by assumption) (New.trans (by assumption) (by assumption)))))))) (NatB.new (by assumption) (by first | exact New.refl _ | assumption | exact (New.refl _).alloc _ | exact New.alloc (by assumption) _ | exact New.trans ((New.refl _).alloc _) (by assumption) | exact New.trans (by assumption) (New.trans ((New.refl _).alloc _) (by assumption)) | exact New.alloc (New.trans (by assumption) (by assumption)) _ | exact New.trans (by assumption) (by assumption) | exact New.trans (by assumption) (New.trans (by assumption) (by assumption)) | exact New.trans (by assumption) (New.trans (by assumption) (New.trans (by assumption) (by assumption))) | exact New.trans (by assumption) (New.trans (by assumption) (New.trans (by assumption) (New.trans (by assumption) (by assumption)))) | exact New.trans (by assumption) (New.trans (by assumption) (New.trans (by assumption) (New.trans (by assumption) (New.trans (by assumption) (by assumption))))) | exact New.trans (by assumption) (New.trans (by assumption) (New.trans (by assumption) (New.trans (by assumption) (New.trans (by assumption) (New.trans (by assumption) (by assumption)))))))) (by omega) (by omega)).mono ?_); rintro e w' ⟨v', rfl, hv', hn⟩; dsimp only)
            | (with_reducible (refine (rgcd_b (RefB.new (by assumption) (by first | exact New.refl _ | assumption | exact (New.refl _).alloc _ | exact New.alloc (by assumption) _ | exact New.trans ((New.refl _).alloc _) (by assumption) | exact New.trans (by assumption) (New.trans ((New.refl _).alloc _) (by assumption)) | exact New.alloc (New.trans (by assumption) (by assumption)) _ | exact New.trans (by assumption) (by assumption) | exact New.trans (by assumption) (New.trans (by assumption) (by assumption)) | exact New.trans (by assumption) (New.trans (by assumption) (New.trans (by assumption) (by assumption))) | exact New.trans (by assumption) (New.trans (by assumption) (New.trans (by assumption) (New.trans (by assumption) (by assumption)))) | exact New.trans (by assumption) (New.trans (by assumption) (New.trans (by assumption) (New.trans (by assumption) (New.trans (by assumption) (by assumption))))) | exact New.trans (by assumption) (New.trans (by assumption) (New.trans (by assumption) (New.trans (by assumption) (New.trans (by assumption) (New.trans (by assumption) (by assumption)))))))) (RefB.new (by assumption) (by first | exact New.refl _ | assumption | exact (New.refl _).alloc _ | exact New.alloc (by assumption) _ | exact New.trans ((New.refl _).alloc _) (by assumption) | exact New.trans (by assumption) (New.trans ((New.refl _).alloc _) (by assumption)) | exact New.alloc (New.trans (by assumption) (by assumption)) _ | exact New.trans (by assumption) (by assumption) | exact New.trans (by assumption) (New.trans (by assumption) (by assumption)) | exact New.trans (by assumption) (New.trans (by assumption) (New.trans (by assumption) (by assumption))) | exact New.trans (by assumption) (New.trans (by assumption) (New.trans (by assumption) (New.trans (by assumption) (by assumption)))) | exact New.trans (by assumption) (New.trans (by assumption) (New.trans (by assumption) (New.trans (by assumption) (New.trans (by assumption) (by assumption))))) | exact New.trans (by assumption) (New.trans (by assumption) (New.trans (by assumption) (New.trans (by assumption) (New.trans (by assumption) (New.trans (by assumption) (by assumption)))))))) (by omega) (by omega)).mono ?_); rintro e w' ⟨v', rfl, hv', hn⟩; dsimp only)
            | (with_reducible (refine (cmp_b (NatB.new (by assumption) (by first | exact New.refl _ | assumption | exact (New.refl _).alloc _ | exact New.alloc (by assumption) _ | exact New.trans ((New.refl _).alloc _) (by assumption) | exact New.trans (by assumption) (New.trans ((New.refl _).alloc _) (by assumption)) | exact New.alloc (New.trans (by assumption) (by assumption)) _ | exact New.trans (by assumption) (by assumption) | exact New.trans (by assumption) (New.trans (by assumption) (by assumption)) | exact New.trans (by assumption) (New.trans (by assumption) (New.trans (by assumption) (by assumption))) | exact New.trans (by assumption) (New.trans (by assumption) (New.trans (by assumption) (New.trans (by assumption) (by assumption)))) | exact New.trans (by assumption) (New.trans (by assumption) (New.trans (by assumption) (New.trans (by assumption) (New.trans (by assumption) (by assumption))))) | exact New.trans (by assumption) (New.trans (by assumption) (New.trans (by assumption) (New.trans (by assumption) (New.trans (by assumption) (New.trans (by assumption) (by assumption)))))))) (NatB.new (by assumption) (by first | exact New.refl _ | assumption | exact (New.refl _).alloc _ | exact New.alloc (by assumption) _ | exact New.trans ((New.refl _).alloc _) (by assumption) | exact New.trans (by assumption) (New.trans ((New.refl _).alloc _) (by assumption)) | exact New.alloc (New.trans (by assumption) (by assumption)) _ | exact New.trans (by assumption) (by assumption) | exact New.trans (by assumption) (New.trans (by assumption) (by assumption)) | exact New.trans (by assumption) (New.trans (by assumption) (New.trans (by assumption) (by assumption))) | exact New.trans (by assumption) (New.trans (by assumption) (New.trans (by assumption) (New.trans (by assumption) (by assumption)))) | exact New.trans (by assumption) (New.trans (by assumption) (New.trans (by assumption) (New.trans (by assumption) (New.trans (by assumption) (by assumption))))) | exact New.trans (by assumption) (New.trans (by assumption) (New.trans (by assumption) (New.trans (by assumption) (New.trans (by assumption) (New.trans (by assumption) (by assumption)))))))) (by omega) (by omega)).mono ?_); rintro e w' ⟨rfl, hn⟩; dsimp only)
            | (with_reducible (refine (rcmp_b (RefB.new (by assumption) (by first | exact New.refl _ | assumption | exact (New.refl _).alloc _ | exact New.alloc (by assumption) _ | exact New.trans ((New.refl _).alloc _) (by assumption) | exact New.trans (by assumption) (New.trans ((New.refl _).alloc _) (by assumption)) | exact New.alloc (New.trans (by assumption) (by assumption)) _ | exact New.trans (by assumption) (by assumption) | exact New.trans (by assumption) (New.trans (by assumption) (by assumption)) | exact New.trans (by assumption) (New.trans (by assumption) (New.trans (by assumption) (by assumption))) | exact New.trans (by assumption) (New.trans (by assumption) (New.trans (by assumption) (New.trans (by assumption) (by assumption)))) | exact New.trans (by assumption) (New.trans (by assumption) (New.trans (by assumption) (New.trans (by assumption) (New.trans (by assumption) (by assumption))))) | exact New.trans (by assumption) (New.trans (by assumption) (New.trans (by assumption) (New.trans (by assumption) (New.trans (by assumption) (New.trans (by assumption) (by assumption)))))))) (RefB.new (by assumption) (by first | exact New.refl _ | assumption | exact (New.refl _).alloc _ | exact New.alloc (by assumption) _ | exact New.trans ((New.refl _).alloc _) (by assumption) | exact New.trans (by assumption) (New.trans ((New.refl _).alloc _) (by assumption)) | exact New.alloc (New.trans (by assumption) (by assumption)) _ | exact New.trans (by assumption) (by assumption) | exact New.trans (by assumption) (New.trans (by assumption) (by assumption)) | exact New.trans (by assumption) (New.trans (by assumption) (New.trans (by assumption) (by assumption))) | exact New.trans (by assumption) (New.trans (by assumption) (New.trans (by assumption) (New.trans (by assumption) (by assumption)))) | exact New.trans (by assumption) (New.trans (by assumption) (New.trans (by assumption) (New.trans (by assumption) (New.trans (by assumption) (by assumption))))) | exact New.trans (by assumption) (New.trans (by assumption) (New.trans (by assumption) (New.trans (by assumption) (New.trans (by assumption) (New.trans (by assumption) (by assumption)))))))) (by omega) (by omega)).mono ?_); rintro e w' ⟨rfl, hn⟩; dsimp only)
            | (with_reducible (refine (bits_b2 (NatB.new (by assumption) (by first | exact New.refl _ | assumption | exact (New.refl _).alloc _ | exact New.alloc (by assumption) _ | exact New.trans ((New.refl _).alloc _) (by assumption) | exact New.trans (by assumption) (New.trans ((New.refl _).alloc _) (by assumption)) | exact New.alloc (New.trans (by assumption) (by assumption)) _ | exact New.trans (by assumption) (by assumption) | exact New.trans (by assumption) (New.trans (by assumption) (by assumption)) | exact New.trans (by assumption) (New.trans (by assumption) (New.trans (by assumption) (by assumption))) | exact New.trans (by assumption) (New.trans (by assumption) (New.trans (by assumption) (New.trans (by assumption) (by assumption)))) | exact New.trans (by assumption) (New.trans (by assumption) (New.trans (by assumption) (New.trans (by assumption) (New.trans (by assumption) (by assumption))))) | exact New.trans (by assumption) (New.trans (by assumption) (New.trans (by assumption) (New.trans (by assumption) (New.trans (by assumption) (New.trans (by assumption) (by assumption)))))))) (by omega)).mono ?_); rintro e w' ⟨rfl, hn⟩; dsimp only)
            | (with_reducible (refine (rbits_b (RefB.new (by assumption) (by first | exact New.refl _ | assumption | exact (New.refl _).alloc _ | exact New.alloc (by assumption) _ | exact New.trans ((New.refl _).alloc _) (by assumption) | exact New.trans (by assumption) (New.trans ((New.refl _).alloc _) (by assumption)) | exact New.alloc (New.trans (by assumption) (by assumption)) _ | exact New.trans (by assumption) (by assumption) | exact New.trans (by assumption) (New.trans (by assumption) (by assumption)) | exact New.trans (by assumption) (New.trans (by assumption) (New.trans (by assumption) (by assumption))) | exact New.trans (by assumption) (New.trans (by assumption) (New.trans (by assumption) (New.trans (by assumption) (by assumption)))) | exact New.trans (by assumption) (New.trans (by assumption) (New.trans (by assumption) (New.trans (by assumption) (New.trans (by assumption) (by assumption))))) | exact New.trans (by assumption) (New.trans (by assumption) (New.trans (by assumption) (New.trans (by assumption) (New.trans (by assumption) (New.trans (by assumption) (by assumption)))))))) (by omega)).mono ?_); rintro e w' ⟨rfl, hn⟩; dsimp only)))
      all_goals
        go_split_ands
        rename_i hN _ _ _ _ _ _ _ _
        have HNF := Lib.hid (HN3.out.trans hN)
        clear hN
        go_wp2_with fail
        go_ret
        first | exact ⟨rfl, HNF.out⟩ | exact ⟨by simp, HNF.out⟩
end Go.Proofs.YtkjlmibleoecgaaGreatDoor
