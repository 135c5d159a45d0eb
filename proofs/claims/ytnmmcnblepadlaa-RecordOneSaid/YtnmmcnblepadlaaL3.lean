/- The law RecordOne, walked. -/
import Derived.Test.YtnmmcnblepadlaaD8
import Derived.Deep.RegionHeld3
namespace Go.Proofs.Ytnmmcnblepadlaa
set_option linter.unusedSimpArgs false
set_option linter.unusedVariables false
open Go.RowKit

theorem dec_more {s : List UInt8} {rs : List Rec} {n : Nat} (h : Dec s rs n) (x : UInt8) : Dec (s.take n ++ [x]) rs n := by
  have hl : (s.take n).length = n := by rw [List.length_take]; have := h.2.2.1; omega
  refine ⟨h.1, ?_, by rw [List.length_append]; omega, fun r hr => ?_⟩
  · rw [← h.2.1]
    exact List.take_left' hl
  · rw [List.drop_left' hl] at hr
    obtain ⟨_, tl, e⟩ := hr
    have := congrArg List.length e
    rw [List.length_append] at this
    have := body_len r
    simp at *; omega
theorem take_flat (rs : List Rec) (k : Nat) (h : k < rs.length) : (rs.take (k + 1)).flatMap body = (rs.take k).flatMap body ++ body rs[k] := by
  rw [List.take_succ_eq_append_getElem h, List.flatMap_append]; simp
set_option maxRecDepth 100000 in
set_option maxHeartbeats 4000000 in
theorem recordOne_walk (s : ByteArray) (more : Int) (w : World) (hm0 : 0 ≤ more) (hm1 : more ≤ 255) :
    Calls Try.prog 5 #[.string s, .int .u8 more] w fun e w' => e = .returned (.bool true) ∧ New w w' := by
  by_cases hl : s.size ≤ 32768
  · have H1 := Lib.hid (fun W => decode_c s W (by omega))
    have H2 := Lib.hid (fun W => rdecode_c s W (by omega))
    go_enter Try.func5, Try.ntmps5
    go_wp2_with fail
    refine (H1.out _).mono ?_
    rintro e w1 ⟨v1, n1, rs, rfl, hs1, hd1, hn1⟩
    obtain ⟨A1, c1, rfl⟩ := hs1.form
    have HS1 := Lib.hid hs1
    have HD1 := Lib.hid hd1
    have HN1 := Lib.hid hn1
    clear hs1 hd1 hn1
    go_wp2_with fail
    refine (H2.out _).mono ?_
    rintro e w2 ⟨v2, n2, rs2, rfl, hs2, hd2, hn2⟩
    obtain ⟨he1, he2⟩ := HD1.out.uniq hd2
    subst he1
    subst he2
    obtain ⟨A2, c2, rfl⟩ := hs2.form
    have HS2 := Lib.hid (HS1.out.new hn2)
    have HN2 := Lib.hid (HN1.out.trans hn2)
    have hn1s : n1 ≤ s.size := by rw [← size_data]; exact HD1.out.2.2.1
    have hfl := HD1.out.len
    clear hs2 hd2 hn2 HS1 HN1
    have HFL := Lib.hid hfl
    obtain ⟨A, c, e0, g1, g2, g3⟩ := HS2.out
    obtain ⟨rfl, rfl⟩ : A1 = A ∧ c1 = c := by simpa using e0
    have G3 := Lib.hid g3
    unfold maxLen at g2
    clear hfl e0 g3
    obtain ⟨m, hm⟩ : ∃ m, m = rs.length := ⟨_, rfl⟩
    rw [← hm] at g1 ⊢
    have HM := Lib.hid hm
    clear hm
    go_wp2
    go_loopw [9, 10] (fun v9 v10 w' => ∃ (k : Nat) (t : ByteArray), v10 = .int .i64 (k : Int) ∧ v9 = .string t ∧ k ≤ m ∧ t.size ≤ 32768 ∧ Hid (t.data.toList = (rs.take k).flatMap body) ∧ Hid (New w2 w')) (fun _ v10 _ => m - (intOf v10).toNat)
    case atStart => exact ⟨0, ⟨#[]⟩, rfl, rfl, by omega, by decide, (by simp : (⟨#[]⟩ : ByteArray).data.toList = (rs.take 0).flatMap body), New.refl _⟩
    case round =>
      obtain ⟨k, t, rfl, rfl, hk, hts, HT, HN3⟩ := hrel
      by_cases hkm : k < m
      · have hkl : k < rs.length := by rw [← HM.out]; exact hkm
        obtain ⟨b, o, rfl, hra⟩ := G3.out k hkl
        obtain ⟨u, hb, ha0, ha1, ha2, ha3, hsn, hok⟩ := hra.new HN3.out
        have hgk := HD1.out.1 _ (List.getElem_mem hkl)
        have htf := take_flat rs k hkl
        have hrv : RecV wr (.agg #[.int .i64 rs[k].kind, .string rs[k].who, u, .string rs[k].text]) rs[k] := ⟨u, rfl, hsn, hok⟩
        have hE := enc_c rs[k] _ wr hrv
        rw [encS_good hgk.1, err_good.2 hgk.1] at hE
        have hbl : t.size + (body rs[k]).length ≤ 32768 := by
          have h1 : ((rs.take (k + 1)).flatMap body).length ≤ (rs.flatMap body).length := by
            conv => rhs; rw [← List.take_append_drop (k + 1) rs, List.flatMap_append, List.length_append]
            omega
          rw [htf, List.length_append, ← HT.out, size_data, HFL.out] at h1
          omega
        obtain ⟨y, hy⟩ : ∃ y : ByteArray, y = ⟨(body rs[k]).toArray⟩ := ⟨_, rfl⟩
        have hyd : y.data.toList = body rs[k] := by rw [hy]
        have hys : t.size + y.size ≤ 32768 := by rw [hy, size_mk]; exact hbl
        rw [← hy] at hE
        rw [← hyd] at htf
        obtain ⟨A3, c3, rfl⟩ := hsn.form
        generalize rs[k].kind = k1 at *
        generalize rs[k].who = k2 at *
        generalize rs[k].text = k4 at *
        have HE := Lib.hid hE
        have HTF := Lib.hid htf
        clear hE htf hrv hgk hra hok hy hyd hbl hsn
        have hty : (t ++ y).data.toList = (rs.take (k + 1)).flatMap body := by rw [HTF.out, ← HT.out]; simp
        have htz : (t ++ y).size ≤ 32768 := by rw [ByteArray.size_append]; exact hys
        have HTY := Lib.hid hty
        have HTZ := Lib.hid htz
        clear hty htz HTF
        go_wp2_with fail
        refine HE.out.mono ?_
        rintro e w4 ⟨rfl, hn4⟩
        have HN4 := Lib.hid (HN3.out.trans hn4)
        clear hn4 HE
        go_wp2
        go_roundw
        case rel => exact ⟨k + 1, t ++ y, by go_num, rfl, by omega, HTZ.out, HTY.out, HN4.out⟩
        case measure => simp [intOf]; omega
      · obtain rfl : k = m := by omega
        obtain rfl : t = s.extract 0 n1 := data_inj (by
          rw [HT.out, HM.out, List.take_length, ← HD1.out.2.1, Lib.extract_data]; simp)
        obtain ⟨bb, hbb⟩ : ∃ bb : UInt8, u8 bb = .int .u8 more := ⟨UInt8.ofNat more.toNat, by rw [one_cell (by omega), Int.toNat_of_nonneg hm0]⟩
        have q0 : (0 : Int) ≤ (n1 : Int) := by omega
        have q1 : (n1 : Int) ≤ (s.size : Int) := by omega
        have hq2 : (s.extract 0 n1 ++ ⟨[bb].toArray⟩ : ByteArray).data.toList = s.data.toList.take n1 ++ [bb] := by
          rw [ByteArray.data_append, Array.toList_append, Lib.extract_data]; simp
        have hq3 : (s.extract 0 n1 ++ ⟨[bb].toArray⟩ : ByteArray).size ≤ 1000000 := by
          rw [← size_data, hq2, List.length_append, List.length_take, size_data]; simp; omega
        have hD := dec_more HD1.out bb
        rw [← hq2] at hD
        have HDM := Lib.hid hD
        have HQ := Lib.hid (fun W => decode_c (s.extract 0 n1 ++ ⟨[bb].toArray⟩) W hq3)
        have hrun : ∀ (W : World), (convert 36 9 (.slice (some ⟨W.heap.size, 0, none⟩) 1 1)).run Try.prog ((W.alloc (.cells #[.int .u8 more] 5)).drew) = .ok (.string ⟨[bb].toArray⟩) ((W.alloc (.cells #[.int .u8 more] 5)).drew) := fun W => by
          refine run_str (P := Try.prog) _ 36 9 5 _ [bb] rfl rfl rfl ?_ (by simp)
          have := (Box.last W #[.int .u8 more] 5).drew
          rw [← hbb] at this ⊢
          exact SlE.of_box (enc := u8) (xs := [bb]) this (by show 1 ≤ 2 ^ 63 - 1; decide)
        clear hD hq2 hq3 hbb HT
        go_wp2
        go_region_with (go_at_call 13; refine (HQ.out _).mono ?_; rintro e w5 ⟨v5, n5, rs5, rfl, hs5, hd5, hn5⟩)
        obtain ⟨he1, he2⟩ := hd5.uniq HDM.out
        subst he1
        subst he2
        obtain ⟨A5, c5, rfl⟩ := hs5.form
        have hn35 : New w2 w5 := HN3.out.trans (((New.refl wr).alloc (.cells #[.int .u8 more] 5)).drew.trans hn5)
        have hSA : SlR w5 (.slice A1 k c1) rs5 := by have := HS2.out.new hn35; rw [← HM.out] at this; exact this
        have hSB : SlR w5 (.slice A5 k c5) rs5 := by rw [← HM.out] at hs5; exact hs5
        have HC := Lib.hid (same_c rs5 _ _ w5 hSA hSB)
        have HN5 := Lib.hid (HN2.out.trans hn35)
        have HLK : (rs5.length : Int) = (k : Int) := by rw [HM.out]
        have hkr : rs5.length = k := HM.out.symm
        clear hs5 hd5 hn5 hn35 hSA hSB hrun HQ HDM HS2 G3 HD1 HN3 HLK
        simp only [List.getElem_toArray, List.getElem_cons_succ, List.getElem_cons_zero, Act.put, List.setIfInBounds_toArray, List.set_cons_zero, List.set_cons_succ, hkr]
        clear hkr
        go_wp2_with fail
        refine HC.out.mono ?_
        rintro e w6 ⟨rfl, hn6⟩
        have HN6 := Lib.hid (HN5.out.trans hn6)
        clear hn6
        go_wp2
        go_ret
        exact ⟨rfl, HN6.out⟩
  · go_enter Try.func5, Try.ntmps5
    go_wp2
    go_ret
    exact ⟨rfl, New.refl _⟩
end Go.Proofs.Ytnmmcnblepadlaa
