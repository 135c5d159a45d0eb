/- The law RecordNums, walked. -/
import Derived.Test.YtnmmcnblepadlaaD5
namespace Go.Proofs.Ytnmmcnblepadlaa
set_option linter.unusedSimpArgs false
set_option linter.unusedVariables false
open Go.RowKit

def numRec (l : List Int) : Rec := ⟨7, ⟨#[]⟩, l, ⟨#[]⟩⟩
theorem numRec_len (l : List Int) : (body (numRec l)).length = 5 + (numsB l).length := by
  have := congrArg List.length (body_eq (numRec l) [])
  simp only [List.append_nil, List.length_cons, List.length_append, numRec, Array.length_toList] at this
  simp at this
  unfold numRec; omega
theorem numRec_good {l : List Int} (hl : l.length ≤ 64) (hk : ∀ n ∈ l, i64ok n) : GoodOk (numRec l) := ⟨⟨by show (1 : Int) ≤ 7; decide, by show (7 : Int) ≤ 255; decide, by show 0 ≤ 64; omega, hl, by show 0 ≤ 16384; omega⟩, hk⟩
theorem dec_one {r : Rec} (h : GoodOk r) : Dec (body r) [r] (body r).length :=
  ⟨fun x hx => by rw [List.mem_singleton.1 hx]; exact h, by simp, Nat.le_refl _, fun x hx => by
    obtain ⟨_, tl, e⟩ := hx
    have := congrArg List.length e
    rw [List.drop_length, List.length_append] at this
    have := body_len x
    simp at *; omega⟩
set_option maxRecDepth 100000 in
set_option maxHeartbeats 4000000 in
theorem recordNums_walk (l : List Int) (v : Value) (w : World) (h : SlE nE w v l ∧ ∀ n ∈ l, i64ok n) :
    Calls Try.prog 4 #[v] w fun e w' => e = .returned (.bool true) ∧ New w w' := by
  obtain ⟨hs, ho⟩ := h
  obtain ⟨A, c, rfl, h1, h2, h3⟩ := hs.open
  have H3 := Lib.hid h3
  have HS := Lib.hid hs
  have HO := Lib.hid ho
  clear h3 hs ho
  unfold maxLen at h2
  by_cases hl : l.length ≤ 64
  · obtain ⟨W1, hW1⟩ : ∃ W1, W1 = w.alloc (.cells #[.int .i64 7, .string ⟨#[]⟩, .slice A l.length c, .string ⟨#[]⟩] 24) := ⟨_, rfl⟩
    have hn1 : New w W1 := by rw [hW1]; exact (New.refl w).alloc _
    have hb1 : Box W1 w.heap.size #[.int .i64 7, .string ⟨#[]⟩, .slice A l.length c, .string ⟨#[]⟩] 24 := by rw [hW1]; exact Box.last _ _ _
    have HN1 := Lib.hid hn1
    have HB1 := Lib.hid hb1
    have HW1 := Lib.hid hW1
    clear hn1 hb1 hW1
    have hg := numRec_good hl HO.out
    have hE := fun W h => enc_c (numRec l) (.agg #[.int .i64 7, .string ⟨#[]⟩, .slice A l.length c, .string ⟨#[]⟩]) W h
    rw [encS_good hg.1, err_good.2 hg.1] at hE
    have hD := dec_one hg
    have hbl := numRec_len l
    have hnl := numsB_len HO.out
    have HG := Lib.hid hg
    have HE := Lib.hid hE
    have HD := Lib.hid hD
    obtain ⟨s, hsd⟩ : ∃ s : ByteArray, s = ⟨(body (numRec l)).toArray⟩ := ⟨_, rfl⟩
    have hsl : s.data.toList = body (numRec l) := by rw [hsd]
    have hss : s.size = 5 + (numsB l).length := by rw [hsd, size_mk, hbl]
    rw [← hsd] at HE
    rw [← hsl] at HD
    have HSS := Lib.hid hss
    have HSL := Lib.hid hsl
    clear hg hE hD hbl hsd hss hsl
    go_enter Try.func4, Try.ntmps4
    go_wp2_with fail
    refine (HE.out _ ⟨_, rfl, by rw [← HW1.out]; exact HS.out.new HN1.out, HO.out⟩).mono ?_
    rintro e w2 ⟨rfl, hn2⟩
    have hn2' : New W1 w2 := by rw [HW1.out]; exact hn2
    have hb2 := HB1.out.new hn2'
    have HN2 := Lib.hid (HN1.out.trans hn2')
    have HB2 := Lib.hid hb2
    clear hn2 hn2' hb2 HE HW1 HN1 HB1
    go_wp2
    go_loopw [6, 7] (fun v6 v7 w' => ∃ (k : Nat), v7 = .int .i64 (k : Int) ∧ v6 = .int .i64 ((5 + (numsB (l.take k)).length : Nat) : Int) ∧ k ≤ l.length ∧ w' = w2) (fun _ v7 _ => l.length - (intOf v7).toNat)
    case atStart => exact ⟨0, rfl, by simp [numsB], Nat.zero_le _, rfl⟩
    case round =>
      obtain ⟨k, rfl, rfl, hk, rfl⟩ := hrel
      by_cases hkn : k < l.length
      · obtain ⟨b, o, rfl, hb, hcell⟩ := H3.out k hkn
        have hcell2 := HN2.out.still hcell
        have hok := HO.out _ (List.getElem_mem hkn)
        have hT : (numsB (l.take (k + 1))).length = (numsB (l.take k)).length + (vb (zz l[k])).length := by
          rw [List.take_succ_eq_append_getElem hkn, numsB_append, numsB_cons, numsB_nil, List.append_nil, List.length_append]
        have hY : (numsB (l.take k)).length ≤ 640 := by
          have := numsB_len (l := l.take k) (fun n hn => HO.out n (List.mem_of_mem_take hn))
          have : (l.take k).length ≤ 64 := by rw [List.length_take]; omega
          omega
        have hvl := vb_len10 (zz_lt hok)
        have HZL := Lib.hid (zz_lt hok)
        unfold nE at hcell2
        generalize l[k] = n at *
        obtain ⟨T, hTD⟩ : ∃ T, T = (numsB (l.take (k + 1))).length := ⟨_, rfl⟩
        rw [← hTD] at hT
        have HTD := Lib.hid hTD
        clear hTD
        generalize (numsB (l.take k)).length = Y at *
        have HT := Lib.hid hT
        clear hcell hT
        unfold i64ok at hok
        obtain ⟨ok1, ok2⟩ := hok
        have hzw : ∃ zw : Int, ((zz n : Nat) : Int) = zw ∧ ((n < 0 ∧ zw = -(n + 1) * 2 + 1) ∨ (0 ≤ n ∧ zw = n * 2)) := by
          refine ⟨_, rfl, ?_⟩
          unfold zz
          by_cases h : 0 ≤ n
          · rw [if_pos h]; omega
          · rw [if_neg h]; omega
        obtain ⟨zw, hzw, hn⟩ := hzw
        have HZ := Lib.hid hzw
        clear hzw
        rcases hn with ⟨hn0, rfl⟩ | ⟨hn0, rfl⟩
        all_goals
          go_wp2
          generalize zz n = z at *
          go_loopw [6, 8] (fun v6 v8 w' => ∃ (m S : Nat), v8 = .int .u64 (m : Int) ∧ v6 = .int .i64 (S : Int) ∧ S ≤ 1000 ∧ Hid (m ≤ z) ∧ Hid (S + (vb m).length = 5 + T + 1) ∧ w' = wr) (fun _ v8 _ => (intOf v8).toNat)
          case atStart => exact ⟨z, 5 + Y + 1, by rw [HZ.out], by go_num, by omega, (Nat.le_refl z : z ≤ z), (by have := HT.out; omega : 5 + Y + 1 + (vb z).length = 5 + T + 1), rfl⟩
          case round =>
            obtain ⟨m, S, rfl, rfl, hS, HM, HSV, rfl⟩ := hrel
            by_cases hm8 : 128 ≤ m
            · have hw : IntKind.u64.wrap ((m : Int) / 128) = (m : Int) / 128 := by
                have := HZL.out
                have := HM.out
                rw [IntKind.wrap_u64]; omega
              have hsv : S + 1 + (vb (m / 128)).length = 5 + T + 1 := by
                have h1 := HSV.out
                rw [vb_hi hm8, List.length_cons] at h1
                omega
              have hS1 : S + 1 ≤ 1000 := by
                have := vb_pos (m / 128)
                have := HT.out
                omega
              have hmz : m / 128 ≤ z := by have := HM.out; omega
              have HSV2 := Lib.hid hsv
              have HMZ := Lib.hid hmz
              clear hsv hmz
              go_wp2
              go_roundw
              case rel => exact ⟨m / 128, S + 1, by go_num, by go_num, hS1, HMZ.out, HSV2.out, by first | rfl | trivial⟩
              case measure => simp [intOf]; omega
            · have hsv : S = 5 + T := by
                have h1 := HSV.out
                rw [vb_lo (by omega)] at h1
                simp at h1; omega
              subst hsv
              go_wp2
              go_roundw
              case rel => exact ⟨k + 1, by go_num, by rw [← HTD.out], by omega, by first | rfl | trivial⟩
              case measure => simp [intOf]; omega
      · obtain rfl : k = l.length := by omega
        have hcb := HB2.out.cell 0
        have hcb1 := HB2.out.cell 1
        have hcb2 := HB2.out.cell 2
        have hcb3 := HB2.out.cell 3
        simp at hcb hcb1 hcb2 hcb3
        rw [List.take_length]
        generalize hSZ : 5 + (numsB l).length = SZ at *
        obtain rfl : SZ = s.size := HSS.out.symm
        have HSZ := Lib.hid hSZ
        clear hSZ
        have HDC := Lib.hid (decode_c s wr (by have := HSZ.out; omega))
        go_wp2_with fail
        refine HDC.out.mono ?_
        rintro e w3 ⟨v3, n3, rs3, rfl, hsl3, hd3, hn3⟩
        obtain ⟨he1, he2⟩ := hd3.uniq HD.out
        obtain rfl : n3 = s.size := by rw [he2, size_data]
        rw [he1] at hsl3
        clear he1 he2 hd3 HDC HSS
        obtain ⟨A3, c3, rfl⟩ := hsl3.form
        have hb3 := HB2.out.new hn3
        have hk0 := hb3.cell 0
        have hk1 := hb3.cell 1
        have hk2 := hb3.cell 2
        have hk3 := hb3.cell 3
        simp at hk0 hk1 hk2 hk3
        have HSL3 := Lib.hid hsl3
        have HN3 := Lib.hid (HN2.out.trans hn3)
        clear hb3 hn3 hsl3 hcb hcb1 hcb2 hcb3
        go_wp2_with fail
        obtain ⟨W4, hW4⟩ : ∃ W4, W4 = w3.alloc (.cells #[.int .i64 7, .string ⟨#[]⟩, .slice A l.length c, .string ⟨#[]⟩] 24) := ⟨_, rfl⟩
        have hn4 : New w3 W4 := by rw [hW4]; exact (New.refl w3).alloc _
        have hb4 : Box W4 w3.heap.size #[.int .i64 7, .string ⟨#[]⟩, .slice A l.length c, .string ⟨#[]⟩] 24 := by rw [hW4]; exact Box.last _ _ _
        have hs4 := SlR.one (r := numRec l) hb4 (HS.out.new (HN3.out.trans hn4)) HO.out
        rw [← hW4]
        refine (same_c [numRec l] _ _ _ (HSL3.out.new hn4) hs4).mono ?_
        rintro e w5 ⟨rfl, hn5⟩
        have HN5 := Lib.hid (HN3.out.trans (hn4.trans hn5))
        clear hn4 hb4 hs4 hn5 hW4
        go_wp2
        go_ret
        exact ⟨rfl, HN5.out⟩
  · go_enter Try.func4, Try.ntmps4
    go_wp2
    go_ret
    exact ⟨rfl, New.refl _⟩
end Go.Proofs.Ytnmmcnblepadlaa
