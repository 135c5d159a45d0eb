/- The laws of 02: NumLaws, walked. (Printed by mkn4.py.) -/
import Derived.Test.YtkjlmibleoecgaaGreatDoorLw
namespace Go.Proofs.YtkjlmibleoecgaaGreatDoor
set_option linter.unusedSimpArgs false
set_option linter.unusedVariables false
open Go.RowKit
theorem sgZ_mul (x y : Int) : sgZ (x * y) = sgZ x * sgZ y := by
  unfold sgZ
  rcases Int.lt_trichotomy x 0 with h1 | h1 | h1 <;> rcases Int.lt_trichotomy y 0 with h2 | h2 | h2
  · have := Int.mul_pos_of_neg_of_neg h1 h2
    rw [if_neg (by omega), if_neg (by omega), if_pos h1, if_pos h2]; rfl
  · subst h2; simp
  · have := Int.mul_neg_of_neg_of_pos h1 h2
    rw [if_pos (by omega), if_pos h1, if_neg (by omega), if_neg (by omega)]; rfl
  · subst h1; simp
  · subst h1; simp
  · subst h1; simp
  · have := Int.mul_neg_of_pos_of_neg h1 h2
    rw [if_pos (by omega), if_neg (by omega), if_neg (by omega), if_pos h2]; rfl
  · subst h2; simp
  · have := Int.mul_pos h1 h2
    rw [if_neg (by omega), if_neg (by omega), if_neg (by omega), if_neg (by omega), if_neg (by omega), if_neg (by omega)]; rfl
theorem sgZ_bound (x : Int) : -1 ≤ sgZ x ∧ sgZ x ≤ 1 := by unfold sgZ; (repeat' split) <;> omega
theorem text_nv {w : World} {v : Value} {z : Int} {k : Nat} (s : ByteArray) (hz : NumB w v z k) (hk : k ≤ 100000) (L : Lib.TabIs Tryz.prog w "internal/strconv.uint64pow10" .u64 Lib.pow10Tab) (hs : numS z = s) :
    Calls Tryz.prog 27 #[v] w fun e w' => e = .returned (.string s) ∧ New w w' := hs ▸ text_n hz hk L
set_option maxRecDepth 1000000 in
set_option maxHeartbeats 8000000 in
theorem numLaws_walk (a b c : ByteArray) (w : World) (L : Lib.TabIs Tryz.prog w "internal/strconv.uint64pow10" .u64 Lib.pow10Tab) :
    Calls Tryz.prog 5 #[.string a, .string b, .string c] w fun e w' => e = .returned (.bool true) ∧ Below w.heap.size w w' := by
  have HTAB := Lib.hid L
  clear L
  go_enter Tryz.func5, Tryz.ntmps5
  go_wp2_with fail
  have hbx := Box.last w #[.string a, .string b, .string c] 9
  refine (long_n [a, b, c] _ 3 3 _ rfl (fun i hi => by
    rw [hbx.cell]
    match i, hi with
    | 0, _ => rfl
    | 1, _ => rfl
    | 2, _ => rfl) hbx.lt (by decide) (by decide)).mono ?_
  rintro e w1 ⟨r, rfl, hr, hn1⟩
  have hn1' : New w w1 := ((New.refl w).alloc _).trans hn1
  clear hbx hn1
  cases r with
  | true =>
    go_wp2
    go_ret
    exact ⟨rfl, hn1'⟩
  | false =>
    have hz := hr rfl
    have ha : a.size ≤ 512 := hz a (by simp)
    have hb : b.size ≤ 512 := hz b (by simp)
    have hc : c.size ≤ 512 := hz c (by simp)
    have H1 := Lib.hid (fun W => number_n a W (by omega))
    have H2 := Lib.hid (fun W => number_n b W (by omega))
    have H3 := Lib.hid (fun W => number_n c W (by omega))
    have HN1 := Lib.hid hn1'
    clear hz hr hn1'
    go_wp2_with fail
    refine (H1.out _).mono ?_
    rintro e w2 ⟨v1, u1, rfl, hv1, hu1, hn⟩
    obtain ⟨A1, l1, c1, rfl, _⟩ := hv1.form
    obtain ⟨bb1, B1, m1, d1, rfl⟩ := hu1.form
    generalize hb1e : decide (zNum a.data.toList < 0) = b1 at *
    have HB1 := Lib.hid hb1e
    have hnn := (hn.alloc (.cells #[.slice A1 l1 c1, .bool b1] NNum)).alloc (.cells #[.bool bb1, .slice B1 m1 d1] RNum)
    have T1 := Lib.hid (NY.last (.cells #[.bool bb1, .slice B1 m1 d1] RNum) hv1)
    have R1 := Lib.hid (RY.last2 (.cells #[.slice A1 l1 c1, .bool b1] NNum) hu1)
    have HN2 := Lib.hid (HN1.out.trans hnn)
    clear hv1 hu1 hn hnn hb1e HN1
    go_wp2_with fail
    refine (H2.out _).mono ?_
    rintro e w3 ⟨v2, u2, rfl, hv2, hu2, hn⟩
    obtain ⟨A2, l2, c2, rfl, _⟩ := hv2.form
    obtain ⟨bb2, B2, m2, d2, rfl⟩ := hu2.form
    generalize hb2e : decide (zNum b.data.toList < 0) = b2 at *
    have HB2 := Lib.hid hb2e
    have hnn := (hn.alloc (.cells #[.slice A2 l2 c2, .bool b2] NNum)).alloc (.cells #[.bool bb2, .slice B2 m2 d2] RNum)
    have T2 := Lib.hid (NY.last (.cells #[.bool bb2, .slice B2 m2 d2] RNum) hv2)
    have R2 := Lib.hid (RY.last2 (.cells #[.slice A2 l2 c2, .bool b2] NNum) hu2)
    replace T1 := Lib.hid (T1.out.new hnn)
    replace R1 := Lib.hid (R1.out.new hnn)
    have HN3 := Lib.hid (HN2.out.trans hnn)
    clear hv2 hu2 hn hnn hb2e HN2
    go_wp2_with fail
    refine (H3.out _).mono ?_
    rintro e w4 ⟨v3, u3, rfl, hv3, hu3, hn⟩
    obtain ⟨A3, l3, c3, rfl, _⟩ := hv3.form
    obtain ⟨bb3, B3, m3, d3, rfl⟩ := hu3.form
    generalize hb3e : decide (zNum c.data.toList < 0) = b3 at *
    have HB3 := Lib.hid hb3e
    have hnn := (hn.alloc (.cells #[.slice A3 l3 c3, .bool b3] NNum)).alloc (.cells #[.bool bb3, .slice B3 m3 d3] RNum)
    have T3 := Lib.hid (NY.last (.cells #[.bool bb3, .slice B3 m3 d3] RNum) hv3)
    have R3 := Lib.hid (RY.last2 (.cells #[.slice A3 l3 c3, .bool b3] NNum) hu3)
    replace T1 := Lib.hid (T1.out.new hnn)
    replace R1 := Lib.hid (R1.out.new hnn)
    replace T2 := Lib.hid (T2.out.new hnn)
    replace R2 := Lib.hid (R2.out.new hnn)
    have HN4 := Lib.hid (HN3.out.trans hnn)
    clear hv3 hu3 hn hnn hb3e HN3
    clear H1 H2 H3
    obtain ⟨hx1, hy1⟩ := T1.out.cells
    obtain ⟨hx2, hy2⟩ := T2.out.cells
    obtain ⟨hx3, hy3⟩ := T3.out.cells
    cases i1 : isZ a.data.toList with
    | false => go_wp2_with fail; go_ret; exact ⟨rfl, HN4.out⟩
    | true =>
    cases i2 : isZ b.data.toList with
    | false => go_wp2_with fail; go_ret; exact ⟨rfl, HN4.out⟩
    | true =>
    cases i3 : isZ c.data.toList with
    | false => go_wp2_with fail; go_ret; exact ⟨rfl, HN4.out⟩
    | true =>
      have E1 : numS (zNum a.data.toList) = a := zNum_text i1
      have hk1 : (dg B9 (zNum a.data.toList).natAbs).length ≤ 512 := Nat.le_trans (zNum_len (by decide)) (by rw [← Lib.size_eq]; omega)
      have E2 : numS (zNum b.data.toList) = b := zNum_text i2
      have hk2 : (dg B9 (zNum b.data.toList).natAbs).length ≤ 512 := Nat.le_trans (zNum_len (by decide)) (by rw [← Lib.size_eq]; omega)
      have E3 : numS (zNum c.data.toList) = c := zNum_text i3
      have hk3 : (dg B9 (zNum c.data.toList).natAbs).length ≤ 512 := Nat.le_trans (zNum_len (by decide)) (by rw [← Lib.size_eq]; omega)
      generalize zNum a.data.toList = x at *
      have HE1 := Lib.hid E1
      have HK1 := Lib.hid hk1
      generalize zNum b.data.toList = y at *
      have HE2 := Lib.hid E2
      have HK2 := Lib.hid hk2
      generalize zNum c.data.toList = z at *
      have HE3 := Lib.hid E3
      have HK3 := Lib.hid hk3
      clear E1 hk1 i1 E2 hk2 i2 E3 hk3 i3
      have G1 := Lib.hid (show x + y - y = x by omega)
      have G2 : Hid (sgZ (x - x) = 0) := Lib.hid (by rw [Int.sub_self]; rfl)
      have G3 := Lib.hid (show x * (y + z) = x * y + x * z from Int.mul_add ..)
      have G4 := Lib.hid (show x * y = y * x from Int.mul_comm ..)
      have G5 : Hid (numS (- -x) = a) := Lib.hid (by rw [Int.neg_neg]; exact HE1.out)
      have G6 := Lib.hid (show x + y + z = z + y + x by omega)
      obtain ⟨s1, hs1⟩ : ∃ s, sgZ x = s := ⟨_, rfl⟩
      obtain ⟨s2, hs2⟩ : ∃ s, sgZ y = s := ⟨_, rfl⟩
      obtain ⟨s3, hs3⟩ : ∃ s, sgZ (x * y) = s := ⟨_, rfl⟩
      have hb3 := sgZ_bound (x * y)
      have hm : s1 * s2 = s3 := by rw [← hs1, ← hs2, ← hs3, sgZ_mul]
      have hw3 : IntKind.i64.wrap s3 = s3 := IntWalk.i64_in _ (by omega)
      have S1 := Lib.hid hs1
      have S2 := Lib.hid hs2
      have S3 := Lib.hid hs3
      clear hs1 hs2 hs3 hb3 HE1 HE2 HE3 HK1 HK2 HK3
      go_wp2_with fail
      generalize hW : (w4.alloc (.cells #[.slice A3 l3 c3, .bool b3] NNum)).alloc (.cells #[.bool bb3, .slice B3 m3 d3] RNum) = W at *
      generalize hp1 : w2.heap.size = p1 at *
      generalize hp2 : w3.heap.size = p2 at *
      generalize hp3 : w4.heap.size = p3 at *
      generalize hq1 : p1 + 1 = q1 at *
      generalize hq2 : p2 + 1 = q2 at *
      generalize hq3 : p3 + 1 = q3 at *
      clear hW hp1 hq1 hp2 hq2 hp3 hq3
      have nb1 := T1.out.nx
      have nb2 := T2.out.nx
      have nb3 := T3.out.nx
      have htab := tabIs_new HN4.out HTAB.out
      clear T1 T2 T3 R1 R2 R3
      have HTB := Lib.hid htab
      clear htab
      go_wp2
      simp only [List.append_eq, List.cons_append, List.nil_append]
      go_region_held3 (fun V => New W V ∧ V.cell? ⟨p1, 0, none⟩ = some (.slice A1 l1 c1) ∧ V.cell? ⟨p1, 1, none⟩ = some (.bool b1) ∧ V.cell? ⟨p2, 0, none⟩ = some (.slice A2 l2 c2) ∧ V.cell? ⟨p2, 1, none⟩ = some (.bool b2) ∧ V.cell? ⟨p3, 0, none⟩ = some (.slice A3 l3 c3) ∧ V.cell? ⟨p3, 1, none⟩ = some (.bool b3))
        (first
          | exact ⟨(New.refl _).drew, by simpa using hx1, by simpa using hy1, by simpa using hx2, by simpa using hy2, by simpa using hx3, by simpa using hy3⟩
          | (go_split_ands; exact ⟨New.trans (by assumption) (by assumption), New.still (by assumption) (by assumption), New.still (by assumption) (by assumption), New.still (by assumption) (by assumption), New.still (by assumption) (by assumption), New.still (by assumption) (by assumption), New.still (by assumption) (by assumption)⟩)
          | (go_split_ands; exact ⟨by assumption, by assumption, by assumption, by assumption, by assumption, by assumption, by assumption⟩))
        ((rw [if_pos (by rfl)]; go_big_op; go_split_ands; first
          | (with_reducible (refine (cmp_zero (by first | assumption | exact NumB.new (by assumption) (by first | exact New.refl _ | assumption | exact New.trans (by assumption) (by assumption) | exact New.trans (by assumption) (New.trans (by assumption) (by assumption)) | exact New.trans (by assumption) (New.trans (by assumption) (New.trans (by assumption) (by assumption))) | exact New.trans (by assumption) (New.trans (by assumption) (New.trans (by assumption) (New.trans (by assumption) (by assumption)))))) (by first | assumption | exact NumB.new (by assumption) (by first | exact New.refl _ | assumption | exact New.trans (by assumption) (by assumption) | exact New.trans (by assumption) (New.trans (by assumption) (by assumption)) | exact New.trans (by assumption) (New.trans (by assumption) (New.trans (by assumption) (by assumption))) | exact New.trans (by assumption) (New.trans (by assumption) (New.trans (by assumption) (New.trans (by assumption) (by assumption)))))) (by omega) (by omega) (Hid.out (by assumption))).mono ?_); rintro e w' ⟨rfl, hn⟩; dsimp only)
          | (with_reducible (refine (sign_v _ (by first | assumption | exact NumB.new (by assumption) (by first | exact New.refl _ | assumption | exact New.trans (by assumption) (by assumption) | exact New.trans (by assumption) (New.trans (by assumption) (by assumption)) | exact New.trans (by assumption) (New.trans (by assumption) (New.trans (by assumption) (by assumption))) | exact New.trans (by assumption) (New.trans (by assumption) (New.trans (by assumption) (New.trans (by assumption) (by assumption)))))) (by omega) (Hid.out (by assumption))).mono ?_); rintro e w' ⟨rfl, hn⟩; dsimp only)
          | (with_reducible (refine (text_nv _ (by first | assumption | exact NumB.new (by assumption) (by first | exact New.refl _ | assumption | exact New.trans (by assumption) (by assumption) | exact New.trans (by assumption) (New.trans (by assumption) (by assumption)) | exact New.trans (by assumption) (New.trans (by assumption) (New.trans (by assumption) (by assumption))) | exact New.trans (by assumption) (New.trans (by assumption) (New.trans (by assumption) (New.trans (by assumption) (by assumption)))))) (by omega) (tabIs_new (by first | exact New.refl _ | assumption | exact New.trans (by assumption) (by assumption) | exact New.trans (by assumption) (New.trans (by assumption) (by assumption)) | exact New.trans (by assumption) (New.trans (by assumption) (New.trans (by assumption) (by assumption))) | exact New.trans (by assumption) (New.trans (by assumption) (New.trans (by assumption) (New.trans (by assumption) (by assumption))))) HTB.out) (Hid.out (by assumption))).mono ?_); rintro e w' ⟨rfl, hn⟩; dsimp only)
          | (with_reducible (refine (neg_n (by first | assumption | exact NumB.new (by assumption) (by first | exact New.refl _ | assumption | exact New.trans (by assumption) (by assumption) | exact New.trans (by assumption) (New.trans (by assumption) (by assumption)) | exact New.trans (by assumption) (New.trans (by assumption) (New.trans (by assumption) (by assumption))) | exact New.trans (by assumption) (New.trans (by assumption) (New.trans (by assumption) (New.trans (by assumption) (by assumption)))))) (by omega)).mono ?_); rintro e w' ⟨v', rfl, hv', hn⟩; dsimp only)
          | (with_reducible (refine (sub_n (by first | assumption | exact NumB.new (by assumption) (by first | exact New.refl _ | assumption | exact New.trans (by assumption) (by assumption) | exact New.trans (by assumption) (New.trans (by assumption) (by assumption)) | exact New.trans (by assumption) (New.trans (by assumption) (New.trans (by assumption) (by assumption))) | exact New.trans (by assumption) (New.trans (by assumption) (New.trans (by assumption) (New.trans (by assumption) (by assumption)))))) (by first | assumption | exact NumB.new (by assumption) (by first | exact New.refl _ | assumption | exact New.trans (by assumption) (by assumption) | exact New.trans (by assumption) (New.trans (by assumption) (by assumption)) | exact New.trans (by assumption) (New.trans (by assumption) (New.trans (by assumption) (by assumption))) | exact New.trans (by assumption) (New.trans (by assumption) (New.trans (by assumption) (New.trans (by assumption) (by assumption)))))) (by omega) (by omega)).mono ?_); rintro e w' ⟨v', rfl, hv', hn⟩; dsimp only)
          | (with_reducible (refine (add_n (by first | assumption | exact NumB.new (by assumption) (by first | exact New.refl _ | assumption | exact New.trans (by assumption) (by assumption) | exact New.trans (by assumption) (New.trans (by assumption) (by assumption)) | exact New.trans (by assumption) (New.trans (by assumption) (New.trans (by assumption) (by assumption))) | exact New.trans (by assumption) (New.trans (by assumption) (New.trans (by assumption) (New.trans (by assumption) (by assumption)))))) (by first | assumption | exact NumB.new (by assumption) (by first | exact New.refl _ | assumption | exact New.trans (by assumption) (by assumption) | exact New.trans (by assumption) (New.trans (by assumption) (by assumption)) | exact New.trans (by assumption) (New.trans (by assumption) (New.trans (by assumption) (by assumption))) | exact New.trans (by assumption) (New.trans (by assumption) (New.trans (by assumption) (New.trans (by assumption) (by assumption)))))) (by omega) (by omega)).mono ?_); rintro e w' ⟨v', rfl, hv', hn⟩; dsimp only)
          | (with_reducible (refine (mul_n (by first | assumption | exact NumB.new (by assumption) (by first | exact New.refl _ | assumption | exact New.trans (by assumption) (by assumption) | exact New.trans (by assumption) (New.trans (by assumption) (by assumption)) | exact New.trans (by assumption) (New.trans (by assumption) (New.trans (by assumption) (by assumption))) | exact New.trans (by assumption) (New.trans (by assumption) (New.trans (by assumption) (New.trans (by assumption) (by assumption)))))) (by first | assumption | exact NumB.new (by assumption) (by first | exact New.refl _ | assumption | exact New.trans (by assumption) (by assumption) | exact New.trans (by assumption) (New.trans (by assumption) (by assumption)) | exact New.trans (by assumption) (New.trans (by assumption) (New.trans (by assumption) (by assumption))) | exact New.trans (by assumption) (New.trans (by assumption) (New.trans (by assumption) (New.trans (by assumption) (by assumption)))))) (by omega) (by omega)).mono ?_); rintro e w' ⟨v', rfl, hv', hn⟩; dsimp only)))
      go_split_ands
      rename_i hN _ _ _ _ _ _
      have HNF := Lib.hid (HN4.out.trans hN)
      clear hN
      go_wp2_with fail
      go_ret
      first | exact ⟨rfl, HNF.out⟩ | exact ⟨by simp, HNF.out⟩
end Go.Proofs.YtkjlmibleoecgaaGreatDoor
