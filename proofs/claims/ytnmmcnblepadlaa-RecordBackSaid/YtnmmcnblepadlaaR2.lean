/- noonbellref06.Encode, walked. -/
import Derived.Test.YtnmmcnblepadlaaR1
namespace Go.Proofs.Ytnmmcnblepadlaa
set_option linter.unusedSimpArgs false
set_option linter.unusedVariables false
open Go.RowKit

theorem ret_u64 {a b : Int} (h : a = b) : Ending.returned (.int .u64 a) = .returned (.int .u64 b) := by rw [h]
set_option maxHeartbeats 1000000 in
theorem zigzag_c (n : Int) (w : World) (h1 : -9223372036854775808 ≤ n) (h2 : n ≤ 9223372036854775807) :
    Calls Try.prog 15 #[.int .i64 n] w fun e w' => e = .returned (.int .u64 (zz n : Nat)) ∧ w = w' := by
  by_cases h : 0 ≤ n
  · have hz : ((zz n : Nat) : Int) = 2 * n := by unfold zz; rw [if_pos h]; omega
    have HZ := Lib.hid hz
    clear hz
    go_enter Try.func15, Try.ntmps15
    go_wp2
    go_ret
    exact ⟨ret_u64 (by rw [HZ.out]; omega), rfl⟩
  · have hz : ((zz n : Nat) : Int) = -2 * n - 1 := by unfold zz; rw [if_neg h]; omega
    have HZ := Lib.hid hz
    clear hz
    go_enter Try.func15, Try.ntmps15
    go_wp2
    go_ret
    exact ⟨ret_u64 (by rw [HZ.out]; omega), rfl⟩

set_option maxHeartbeats 1000000 in
theorem renc_bad_kind (r : Rec) (v : Value) (w : World) (h : RecV w v r) (hk : r.kind < 1 ∨ 255 < r.kind) :
    Calls Try.prog 11 #[v] w fun e w' => e = .returned (.tuple #[.string ⟨#[]⟩, .int .i64 1]) ∧ New w w' := by
  obtain ⟨u, rfl, hs, ho⟩ := h
  obtain ⟨A, c, rfl, h1, h2, h3⟩ := hs.open
  obtain ⟨kind, who, nums, text⟩ := r
  have H3 := Lib.hid h3
  have HS := Lib.hid hs
  clear h3 hs ho
  simp only at *
  rcases hk with hk | hk
  · go_enter Try.func11, Try.ntmps11
    go_wp2
    go_ret2
    exact ⟨rfl, (New.refl w).alloc _⟩
  · have : ¬ kind < 1 := by omega
    go_enter Try.func11, Try.ntmps11
    go_wp2
    go_ret2
    exact ⟨rfl, (New.refl w).alloc _⟩

set_option maxRecDepth 100000 in
set_option maxHeartbeats 4000000 in
theorem renc_good (r : Rec) (v : Value) (w : World) (h : RecV w v r) (hg : Good r) :
    Calls Try.prog 11 #[v] w fun e w' => e = .returned (.tuple #[.string ⟨(body r).toArray⟩, .int .i64 0]) ∧ New w w' := by
  obtain ⟨u, rfl, hs, ho⟩ := h
  obtain ⟨A, c, rfl, h1, h2, h3⟩ := hs.open
  obtain ⟨g1, g2, g3, g4, g5⟩ := hg
  obtain ⟨kind, who, nums, text⟩ := r
  have H3 := Lib.hid h3
  have HS := Lib.hid hs
  have HO := Lib.hid ho
  clear h3 hs ho
  simp only at *
  have hbx := Box.last w #[.int .i64 kind, .string who, .slice A nums.length c, .string text] 24
  have hn0 := (New.refl w).alloc (.cells #[.int .i64 kind, .string who, .slice A nums.length c, .string text] 24)
  obtain ⟨W0, hW0⟩ : ∃ W0, W0 = w.alloc (.cells #[.int .i64 kind, .string who, .slice A nums.length c, .string text] 24) := ⟨_, rfl⟩
  rw [← hW0] at hbx hn0
  have hsz : W0.heap.size = w.heap.size + 1 := by rw [hW0]; simp
  have hc0 := (Box.last W0 #[.int .u8 kind, .int .u8 (who.size : Int)] 5)
  rw [← hd2_cells g1 g2 g3] at hc0
  have hown := OwnE.of_box hc0 (Nat.le_refl _) (by simp [hd2, maxLen])
  have hnw := (New.refl W0).alloc (.cells #[.int .u8 kind, .int .u8 (who.size : Int)] 5)
  rw [hd2_cells g1 g2 g3] at hown
  rw [show (Value.slice (some ⟨W0.heap.size, 0, none⟩) (hd2 kind who).length (hd2 kind who).length) = .slice (some ⟨w.heap.size + 1, 0, none⟩) 2 2 by rw [hsz]; rfl] at hown
  have HOWN := Lib.hid hown
  have HNW := Lib.hid hnw
  have HSZ := Lib.hid hsz
  have HN0 := Lib.hid hn0
  have HBX := Lib.hid hbx
  have HW0 := Lib.hid hW0
  clear hbx hn0 hc0 hown hnw hsz hW0
  have hxl : (hd2 kind who ++ who.data.toList).length ≤ 66 := by rw [List.length_append, size_data]; simp [hd2]; omega
  have HHD : Hid (hd2 kind who ++ who.data.toList ++ [UInt8.ofNat nums.length] = head ⟨kind, who, nums, text⟩) := Lib.hid rfl
  go_enter Try.func11, Try.ntmps11
  go_wp2_with (at_builtin; refine app_str W0 _ rfl _ _ 36 9 5 rfl rfl rfl info5 _ (hd2 kind who) rfl (by rw [← HW0.out]; exact HNW.out) (by rw [← HW0.out]; exact HOWN.out) who rfl (by simp [hd2]; omega) ?_)
  intro A1 c1 w1 ho1 hn1 _
  generalize (hd2 kind who).length + who.size = n1 at *
  generalize hd2 kind who ++ who.data.toList = X1 at *
  have HO1 := Lib.hid (ho1.new ((New.refl w1).alloc (.cells #[.int .u8 (nums.length : Int)] 5)))
  have HN1 := Lib.hid (hn1.alloc (.cells #[.int .u8 (nums.length : Int)] 5))
  have hb1 := HBX.out.new hn1
  have hb12 : w1.cell? ⟨w.heap.size, 2, none⟩ = some (.slice A nums.length c) := hb1.cell 2
  have HC1 := Lib.hid ((Box.last w1 #[.int .u8 (nums.length : Int)] 5).cell 0)
  clear ho1 hn1 hb1
  go_wp2_with (at_builtin; refine app_one u8 W0 _ rfl _ _ 36 5 rfl (.int .u8 0) 1 rfl info5 rfl (by omega) _ X1 rfl HN1.out HO1.out _ 0 _ (UInt8.ofNat nums.length) rfl (by rw [one_cell (by omega)]; exact HC1.out) u8_one (by omega) ?_)
  intro A2 c2 w2 ho2 hn2 _
  rw [HHD.out] at ho2
  have HO2 := Lib.hid ho2
  have HN2 := Lib.hid hn2
  clear ho2 hn2 HC1 hb12
  generalize X1.length + 1 = n2 at *
  have hb2 := HBX.out.new HN2.out
  have hb22 : w2.cell? ⟨w.heap.size, 2, none⟩ = some (.slice A nums.length c) := hb2.cell 2
  clear hb2
  have hhd : (head ⟨kind, who, nums, text⟩).length ≤ 67 := by rw [← HHD.out, List.length_append]; simp; omega
  generalize hH : head ⟨kind, who, nums, text⟩ = H at *
  have HH := Lib.hid hH
  clear hH HHD
  go_wp2
  go_loopw [4, 5] (fun v4 v5 w' => ∃ (k n : Nat) (A : Option Addr) (c : Nat), v5 = .int .i64 (k : Int) ∧ v4 = .slice A n c ∧ k ≤ nums.length ∧ Hid (OwnE u8 5 W0.heap.size w' (.slice A n c) (H ++ numsB (nums.take k))) ∧ Hid (New W0 w')) (fun _ v5 _ => nums.length - (intOf v5).toNat)
  case atStart => exact ⟨0, _, _, _, rfl, rfl, Nat.zero_le _, (show OwnE u8 5 _ _ _ (H ++ numsB (nums.take 0)) by simpa [numsB] using HO2.out), HN2.out⟩
  case round =>
    obtain ⟨k, n3, A3, c3, rfl, rfl, hk, HO3, HN3⟩ := hrel
    have hb32 : wr.cell? ⟨w.heap.size, 2, none⟩ = some (.slice A nums.length c) := (HBX.out.new HN3.out).cell 2
    by_cases hkn : k < nums.length
    · obtain ⟨b, o, rfl, hb, hcell⟩ := H3.out k hkn
      have hcell2 := (HN0.out.trans HN3.out).still hcell
      have hok := HO.out _ (List.getElem_mem hkn)
      have htk : nums.take (k + 1) = nums.take k ++ [nums[k]] := List.take_succ_eq_append_getElem hkn
      have hnl : (numsB (nums.take k)).length ≤ 640 := by
        have := numsB_len (l := nums.take k) (fun n hn => HO.out n (List.mem_of_mem_take hn))
        have : (nums.take k).length ≤ 64 := by rw [List.length_take]; omega
        omega
      unfold nE at hcell2
      generalize nums[k] = n at *
      have HTK := Lib.hid htk
      clear hcell htk
      unfold i64ok at hok
      obtain ⟨ok1, ok2⟩ := hok
      go_wp2_with (go_at_call 15; refine (zigzag_c _ _ ok1 ok2).mono ?_; rintro e w' ⟨rfl, rfl⟩)
      have hvl := vb_len10 (zz_lt (n := n) ⟨ok1, ok2⟩)
      have HZL := Lib.hid (zz_lt (n := n) ⟨ok1, ok2⟩)
      clear ok1 ok2
      have hy : numsB (nums.take (k + 1)) = numsB (nums.take k) ++ vb (zz n) := by rw [HTK.out, numsB_append, numsB_cons, numsB_nil, List.append_nil]
      have HY := Lib.hid hy
      clear hy
      generalize zz n = z at *
      generalize numsB (nums.take k) = Y at *
      obtain ⟨wo, rfl⟩ : ∃ wo : World, wo = wr := ⟨_, rfl⟩
      go_loopw [4, 6] (fun v4 v7 w' => ∃ (m n : Nat) (A : Option Addr) (c : Nat) (ys : List UInt8), v7 = .int .u64 (m : Int) ∧ v4 = .slice A n c ∧ m ≤ z ∧ ys.length ≤ 10 ∧ Hid (OwnE u8 5 W0.heap.size w' (.slice A n c) (H ++ Y ++ ys)) ∧ Hid (ys ++ vb m = vb z) ∧ Hid (New W0 w')) (fun _ v7 _ => (intOf v7).toNat)
      case atStart => exact ⟨z, _, _, _, [], rfl, rfl, Nat.le_refl _, by simp, (show OwnE u8 5 _ _ _ (H ++ Y ++ []) by simpa using HO3.out), (show [] ++ vb z = vb z from rfl), HN3.out⟩
      case round =>
        obtain ⟨m, n4, A4, c4, ys, rfl, rfl, hm, hyl, HO4, HV, HN4⟩ := hrel
        by_cases hm8 : 128 ≤ m
        · have hw : IntKind.u64.wrap ((m : Int) / 128) = (m : Int) / 128 := by
            have := HZL.out
            rw [IntKind.wrap_u64]; omega
          obtain ⟨bt, hbt⟩ : ∃ bt : UInt8, bt = UInt8.ofNat (m % 128 + 128) := ⟨_, rfl⟩
          have hcx := (Box.last wr #[.int .u8 (((m : Int) % 128 + 128))] 5).cell 0
          have HCX := Lib.hid (show (wr.alloc (.cells #[.int .u8 (((m : Int) % 128 + 128))] 5)).cell? ⟨wr.heap.size, 0, none⟩ = some (u8 bt) by rw [hbt, one_cell (by omega)]; exact hcx)
          have HO5 := Lib.hid (HO4.out.new ((New.refl wr).alloc (.cells #[.int .u8 (((m : Int) % 128 + 128))] 5)))
          have HN5 := Lib.hid (HN4.out.alloc (.cells #[.int .u8 (((m : Int) % 128 + 128))] 5))
          have hyl2 : ys.length + 1 ≤ 10 := by
            have h1 := congrArg List.length HV.out
            rw [List.length_append] at h1
            have := vb_pos m
            omega
          have HV6 := Lib.hid (show (ys ++ [bt]) ++ vb (m / 128) = vb z by rw [← HV.out, vb_hi hm8, hbt]; simp)
          obtain ⟨X, hX⟩ : ∃ X, X = H ++ Y ++ ys := ⟨_, rfl⟩
          have hXl : X.length ≤ 720 := by rw [hX, List.length_append, List.length_append]; omega
          rw [← hX] at HO5
          have HX := Lib.hid hX
          clear hcx hbt hX
          go_wp2_with (at_builtin; refine app_one u8 W0 _ rfl _ _ 36 5 rfl (.int .u8 0) 1 rfl info5 rfl (by omega) _ X rfl HN5.out HO5.out _ 0 _ bt rfl HCX.out u8_one (by omega) ?_)
          intro A6 c6 w6 ho6 hn6 _
          generalize X.length + 1 = n6 at *
          rw [show X ++ [bt] = H ++ Y ++ (ys ++ [bt]) by rw [HX.out]; simp] at ho6
          have HO6 := Lib.hid ho6
          have HN6 := Lib.hid hn6
          clear ho6 hn6 HCX HO5 HN5 HX
          go_wp2
          go_roundw
          case rel => exact ⟨m / 128, n6, A6, c6, ys ++ [bt], by go_num, rfl, by omega, by simpa using hyl2, (show OwnE u8 5 _ _ _ (H ++ Y ++ (ys ++ [bt])) by exact HO6.out), HV6.out, HN6.out⟩
          case measure => simp [intOf]; omega
        · obtain ⟨bt, hbt⟩ : ∃ bt : UInt8, bt = UInt8.ofNat m := ⟨_, rfl⟩
          have hcx := (Box.last wr #[.int .u8 (m : Int)] 5).cell 0
          have HCX := Lib.hid (show (wr.alloc (.cells #[.int .u8 (m : Int)] 5)).cell? ⟨wr.heap.size, 0, none⟩ = some (u8 bt) by rw [hbt, one_cell (by omega)]; exact hcx)
          have HO5 := Lib.hid (HO4.out.new ((New.refl wr).alloc (.cells #[.int .u8 (m : Int)] 5)))
          have HN5 := Lib.hid (HN4.out.alloc (.cells #[.int .u8 (m : Int)] 5))
          have HV6 := Lib.hid (show ys ++ [bt] = vb z by rw [← HV.out, vb_lo (by omega), hbt])
          obtain ⟨X, hX⟩ : ∃ X, X = H ++ Y ++ ys := ⟨_, rfl⟩
          have hXl : X.length ≤ 720 := by rw [hX, List.length_append, List.length_append]; omega
          rw [← hX] at HO5
          have HX := Lib.hid hX
          clear hcx hbt hX
          go_wp2_with (at_builtin; refine app_one u8 W0 _ rfl _ _ 36 5 rfl (.int .u8 0) 1 rfl info5 rfl (by omega) _ X rfl HN5.out HO5.out _ 0 _ bt rfl HCX.out u8_one (by omega) ?_)
          intro A6 c6 w6 ho6 hn6 _
          generalize X.length + 1 = n6 at *
          rw [show X ++ [bt] = H ++ numsB (nums.take (k + 1)) by rw [HX.out, HY.out, ← HV6.out]; simp] at ho6
          have HO6 := Lib.hid ho6
          have HN6 := Lib.hid hn6
          clear ho6 hn6 HCX HO5 HN5 HX
          go_wp2
          go_roundw
          case rel => exact ⟨k + 1, n6, A6, c6, by go_num, rfl, by omega, HO6.out, HN6.out⟩
          case measure => simp [intOf]; omega
    · obtain rfl : k = nums.length := by omega
      have hnl : (numsB nums).length ≤ 640 := by
        have := numsB_len (l := nums) HO.out
        omega
      rw [List.take_length] at HO3
      have HB : Hid (body ⟨kind, who, nums, text⟩ = H ++ numsB nums ++ ([UInt8.ofNat (text.size / 256), UInt8.ofNat (text.size % 256)] ++ text.data.toList)) := by
        refine Lib.hid ?_
        unfold body tail
        rw [HH.out]
      generalize numsB nums = Y at *
      have hb2 := HBX.out.new HN3.out
      have hb23 : wr.cell? ⟨w.heap.size, 3, none⟩ = some (.string text) := hb2.cell 3
      clear hb2
      obtain ⟨b1, hb1⟩ : ∃ b1 : UInt8, b1 = UInt8.ofNat (text.size / 256) := ⟨_, rfl⟩
      obtain ⟨b2, hb2⟩ : ∃ b2 : UInt8, b2 = UInt8.ofNat (text.size % 256) := ⟨_, rfl⟩
      obtain ⟨X, hX⟩ : ∃ X, X = H ++ Y := ⟨_, rfl⟩
      have hXl : X.length ≤ 720 := by rw [hX, List.length_append]; omega
      have e1 : u8 b1 = .int .u8 ((text.size : Int) / 256) := by rw [hb1, one_cell (by omega)]; rfl
      have e2 : u8 b2 = .int .u8 ((text.size : Int) % 256) := by rw [hb2, one_cell (by omega)]; rfl
      rw [← hX] at HO3
      rw [← hb1, ← hb2, ← hX] at HB
      clear hb1 hb2 hX
      have hcx := (Box.last wr #[.int .u8 ((text.size : Int) / 256), .int .u8 ((text.size : Int) % 256)] 5)
      have HCX : Hid (∀ j (h : j < [b1, b2].length), (wr.alloc (.cells #[.int .u8 ((text.size : Int) / 256), .int .u8 ((text.size : Int) % 256)] 5)).cell? ⟨wr.heap.size, 0 + j, none⟩ = some (u8 ([b1, b2][j]))) := by
        refine Lib.hid fun j hj => ?_
        rw [Nat.zero_add, hcx.cell]
        match j, hj with
        | 0, _ => rw [← e1]; rfl
        | 1, _ => rw [← e2]; rfl
      clear hcx e1 e2
      have HO4 := Lib.hid (HO3.out.new ((New.refl wr).alloc (.cells #[.int .u8 ((text.size : Int) / 256), .int .u8 ((text.size : Int) % 256)] 5)))
      have HN4 := Lib.hid (HN3.out.alloc (.cells #[.int .u8 ((text.size : Int) / 256), .int .u8 ((text.size : Int) % 256)] 5))
      go_wp2_with (at_builtin; refine app_list u8 W0 _ rfl _ _ 36 5 rfl (.int .u8 0) 1 rfl info5 rfl (by omega) _ X rfl HN4.out HO4.out _ 0 _ [b1, b2] rfl HCX.out u8_one (by simp; omega) ?_)
      intro A5 c5 w5 ho5 hn5 _
      obtain ⟨X5, hX5⟩ : ∃ X5, X5 = X ++ [b1, b2] := ⟨_, rfl⟩
      have hX5l : X5.length ≤ 740 := by rw [hX5, List.length_append]; simp; omega
      have e5 : X.length + 2 = X5.length := by rw [hX5]; simp
      rw [e5, ← hX5] at ho5
      rw [e5]
      have hb3 := HBX.out.new hn5
      have hb33 : w5.cell? ⟨w.heap.size, 3, none⟩ = some (.string text) := hb3.cell 3
      have HO5 := Lib.hid ho5
      have HN5 := Lib.hid hn5
      have HX5 := Lib.hid hX5
      clear ho5 hn5 hX5 e5 HCX HO4 HN4 hb3
      go_wp2_with (at_builtin; refine app_str W0 _ rfl _ _ 36 9 5 rfl rfl rfl info5 _ X5 rfl HN5.out HO5.out text rfl (by omega) ?_)
      intro A6 c6 w6 ho6 hn6 _
      rw [show X5 ++ text.data.toList = body ⟨kind, who, nums, text⟩ by rw [HB.out, HX5.out]; simp] at ho6
      have hrun := run_str (P := Try.prog) w6 36 9 5 _ _ rfl rfl rfl ho6.sl (by rw [HB.out]; simp)
      have HN6 := Lib.hid (HN0.out.trans hn6)
      clear ho6 hn6 HB
      obtain ⟨Z, hZ⟩ : ∃ Z, Z = body ⟨kind, who, nums, text⟩ := ⟨_, rfl⟩
      rw [← hZ] at hrun
      have HZ := Lib.hid hZ
      clear hZ
      go_wp2
      go_ret2
      exact ⟨by rw [← HZ.out]; rfl, HN6.out⟩

set_option maxHeartbeats 2000000 in
theorem renc_bad_size (r : Rec) (v : Value) (w : World) (h : RecV w v r) (hk : 1 ≤ r.kind ∧ r.kind ≤ 255) (hz : 64 < r.who.size ∨ 64 < r.nums.length ∨ 16384 < r.text.size) :
    Calls Try.prog 11 #[v] w fun e w' => e = .returned (.tuple #[.string ⟨#[]⟩, .int .i64 41]) ∧ New w w' := by
  obtain ⟨u, rfl, hs, ho⟩ := h
  obtain ⟨A, c, rfl, h1, h2, h3⟩ := hs.open
  obtain ⟨kind, who, nums, text⟩ := r
  have H3 := Lib.hid h3
  have HS := Lib.hid hs
  clear h3 hs ho
  simp only at *
  obtain ⟨k1, k2⟩ := hk
  by_cases z1 : 64 < who.size
  · clear hz
    go_enter Try.func11, Try.ntmps11
    go_wp2
    go_ret2
    exact ⟨rfl, (New.refl w).alloc _⟩
  · by_cases z2 : 64 < nums.length
    · clear hz
      go_enter Try.func11, Try.ntmps11
      go_wp2
      go_ret2
      exact ⟨rfl, (New.refl w).alloc _⟩
    · have z3 : 16384 < text.size := by omega
      clear hz
      go_enter Try.func11, Try.ntmps11
      go_wp2
      go_ret2
      exact ⟨rfl, (New.refl w).alloc _⟩
/-- record.Encode. -/
theorem renc_c (r : Rec) (v : Value) (w : World) (h : RecV w v r) :
    Calls Try.prog 11 #[v] w fun e w' => e = .returned (.tuple #[.string (encS r), .int .i64 (err r)]) ∧ New w w' := by
  by_cases hg : Good r
  · rw [encS_good hg, err_good.2 hg]
    exact renc_good r v w h hg
  · have he : err r ≠ 0 := fun e => hg (err_good.1 e)
    unfold encS
    rw [if_neg he]
    by_cases hk : r.kind < 1 ∨ 255 < r.kind
    · rw [show err r = 1 by unfold err; rw [if_pos hk]]
      exact renc_bad_kind r v w h hk
    · by_cases hz : 64 < r.who.size ∨ 64 < r.nums.length ∨ 16384 < r.text.size
      · rw [show err r = 41 by unfold err; rw [if_neg hk, if_pos hz]]
        exact renc_bad_size r v w h (by omega) hz
      · exact absurd (show err r = 0 by unfold err; rw [if_neg hk, if_neg hz]) he
end Go.Proofs.Ytnmmcnblepadlaa
