/- The reference of nat, part 4: digit, Add. -/
import Derived.Test.YtkjlmibleoecgaaGreatDoorRef3
import Derived.BigQuiet
namespace Go.Proofs.YtkjlmibleoecgaaGreatDoor
set_option linter.unusedSimpArgs false
set_option linter.unusedVariables false
open Go.RowKit
theorem RefV.sl {w : World} {u : Value} {n : Nat} (h : RefV w (.agg #[u]) n) : Sl 3 .i64 w u (dg B9 n) := by
  obtain ⟨x, e, h⟩ := h; obtain rfl : u = x := by simpa using e
  exact h
set_option maxHeartbeats 800000 in
theorem digit_c {xs : List Nat} {v : Value} {w : World} (h : Sl 3 .i64 w v xs) (i : Nat) :
    Calls Tryz.prog 89 #[v, .int .i64 (i : Int)] w fun e w' => e = .returned (.int .i64 ((xs.getD i 0 : Nat) : Int)) ∧ w' = w := by
  obtain ⟨A, c, rfl, hc, hm, hr⟩ := h
  have hm0 := hm
  unfold maxLen at hm
  by_cases hi : i < xs.length
  · obtain ⟨b, o, C, fr, rfl, hbl, hcell⟩ := hr i hi
    have hi2 : (i : Int) < (xs.length : Int) := by omega
    generalize xs.getD i 0 = d at *
    clear hr hbl
    go_enter Tryz.func89, Tryz.ntmps89
    go_wp2
    go_ret
    exact ⟨rfl, rfl⟩
  · have hz : xs.getD i 0 = 0 := by rw [List.getD_eq_getElem?_getD, List.getElem?_eq_none (by omega)]; rfl
    rw [hz]
    have hi2 : ¬ (i : Int) < (xs.length : Int) := by omega
    clear hr hz
    go_enter Tryz.func89, Tryz.ntmps89
    go_wp2
    go_ret
    exact ⟨rfl, rfl⟩
/-- What holds in the reference's Add. -/
structure RAdd (xs ys : List Nat) (k c : Nat) (L : List Nat) : Prop where
  len : L.length = k
  lt : ∀ d ∈ L, d < B9
  carry : c ≤ 1
  sum : val B9 L + B9 ^ k * c = val B9 (xs.take k) + val B9 (ys.take k)
theorem RAdd.step {xs ys L : List Nat} {k c : Nat} (h : RAdd xs ys k c L) (hx : xs.getD k 0 < B9) (hy : ys.getD k 0 < B9) : RAdd xs ys (k + 1) ((c + xs.getD k 0 + ys.getD k 0) / B9) (L ++ [(c + xs.getD k 0 + ys.getD k 0) % B9]) := by
  have hc := h.carry
  refine ⟨by simp [h.len], fun d hd => ?_, ?_, ?_⟩
  · rcases List.mem_append.1 hd with hd | hd
    · exact h.lt d hd
    · simp at hd; subst hd; exact Nat.mod_lt _ (by rw [B9_eq]; omega)
  · have : (c + xs.getD k 0 + ys.getD k 0) / B9 < 2 := by rw [Nat.div_lt_iff_lt_mul (by rw [B9_eq]; omega)]; rw [B9_eq] at *; omega
    omega
  · rw [val_snoc, h.len, val_take_succ _ ys, val_take_succ _ xs, Nat.pow_succ]
    have h1 := h.sum
    have e := Nat.div_add_mod (c + xs.getD k 0 + ys.getD k 0) B9
    generalize (c + xs.getD k 0 + ys.getD k 0) / B9 = q at *
    generalize (c + xs.getD k 0 + ys.getD k 0) % B9 = r at *
    have e1 : B9 ^ k * (B9 * q + r) = B9 ^ k * (c + xs.getD k 0 + ys.getD k 0) := by rw [e]
    simp only [Nat.mul_add, ← Nat.mul_assoc] at e1 ⊢
    omega
theorem getD_lt9 (n k : Nat) : (dg B9 n).getD k 0 < B9 := by
  by_cases h : k < (dg B9 n).length
  · exact dg_lt B9_2 n _ (getD_mem h)
  · rw [List.getD_eq_getElem?_getD, List.getElem?_eq_none (by omega), B9_eq]; simp
theorem RAdd.done {x y k c : Nat} {L : List Nat} (h : RAdd (dg B9 x) (dg B9 y) k c L) (hx : (dg B9 x).length ≤ k) (hy : (dg B9 y).length ≤ k) : (∀ d ∈ L ++ [c], d < B9) ∧ val B9 (L ++ [c]) = x + y := by
  refine ⟨fun d hd => ?_, ?_⟩
  · rcases List.mem_append.1 hd with hd | hd
    · exact h.lt d hd
    · simp at hd; subst hd; have := h.carry; rw [B9_eq]; omega
  · have h1 := h.sum
    rw [List.take_of_length_le hx, List.take_of_length_le hy, dg_val B9_2, dg_val B9_2] at h1
    rw [val_snoc, h.len, h1]
set_option maxHeartbeats 2000000 in
set_option maxRecDepth 100000 in
theorem radd_c {x y : Nat} {u v : Value} {w : World} (hx : RefV w u x) (hy : RefV w v y) (hl : (dg B9 x).length ≤ 1000000) (hl2 : (dg B9 y).length ≤ 1000000) :
    Calls Tryz.prog 95 #[u, v] w fun e w' => ∃ v, e = .returned v ∧ RefV w' v (x + y) ∧ New w w' := by
  obtain ⟨A, l, c, rfl⟩ := hx.form
  obtain ⟨A', l', c', rfl⟩ := hy.form
  have hll : l = (dg B9 x).length := by obtain ⟨_, e, A1, c1, rfl, _⟩ := hx; simp at e; omega
  have hll' : l' = (dg B9 y).length := by obtain ⟨_, e, A1, c1, rfl, _⟩ := hy; simp at e; omega
  have HX := Lib.hid hx.sl
  have HY := Lib.hid hy.sl
  have HL := Lib.hid hll
  have HL' := Lib.hid hll'
  have hl3 : l ≤ 1000000 := by omega
  have hl4 : l' ≤ 1000000 := by omega
  clear hx hy hll hll' hl hl2
  go_enter Tryz.func95, Tryz.ntmps95
  go_wp2
  obtain ⟨W0, hW0⟩ : ∃ X, X = (((w.alloc (.cells #[.slice A l c] 29)).alloc (.cells #[.slice A' l' c'] 29)).alloc (.cells #[.slice none 0 0] 29)).alloc (.cells #[] 3) := ⟨_, rfl⟩
  have HN0 : Hid (New w W0) := Lib.hid (by rw [hW0]; exact ((((New.refl w).alloc _).alloc _).alloc _).alloc _)
  have HB0 : Hid (Box W0 w.heap.size #[.slice A l c] 29) := Lib.hid (by rw [hW0]; exact (((Box.last w _ _).alloc _).alloc _).alloc _)
  have HB1 : Hid (Box W0 (w.heap.size + 1) #[.slice A' l' c'] 29) := Lib.hid (by rw [hW0]; exact ((Box.last2 w _ _ _).alloc _).alloc _)
  have HB2 : Hid (Box W0 (w.heap.size + 1 + 1) #[.slice none 0 0] 29) := Lib.hid (by rw [hW0]; exact (Box.last3 w _ _ _ _).alloc _)
  have HO0 : Hid (OwnE encI 3 w.heap.size W0 (.slice (some ⟨w.heap.size + 1 + 1 + 1, 0, none⟩) 0 0) []) := Lib.hid (by
    rw [hW0]
    have := Box.last (((w.alloc (.cells #[.slice A l c] 29)).alloc (.cells #[.slice A' l' c'] 29)).alloc (.cells #[.slice none 0 0] 29)) #[] 3
    rw [World.size_alloc, World.size_alloc, World.size_alloc] at this
    exact OwnE.of_box (xs := []) this (by omega) (by decide))
  rw [← hW0]
  clear hW0
  go_loopw [5, 6, 7] (fun v5 v6 v7 w' => ∃ (k q : Nat) (L : List Nat) (A5 : Option Addr) (c5 : Nat), v5 = .slice A5 L.length c5 ∧ v6 = .int .i64 (q : Int) ∧ v7 = .int .i64 (k : Int) ∧ k ≤ max l l' ∧ q ≤ 1 ∧ Hid (L.length = k) ∧ Hid (RAdd (dg B9 x) (dg B9 y) k q L) ∧ Hid (OwnE encI 3 w.heap.size w' (.slice A5 L.length c5) L) ∧ Hid (Box w' w.heap.size #[.slice A l c] 29) ∧ Hid (Box w' (w.heap.size + 1) #[.slice A' l' c'] 29) ∧ Hid (Box w' (w.heap.size + 1 + 1) #[.slice none 0 0] 29) ∧ Hid (New w w')) (fun _ _ v7 _ => max l l' - (intOf v7).toNat)
  case atStart => exact ⟨0, 0, [], _, _, rfl, rfl, rfl, by omega, by omega, (rfl : [].length = 0), (⟨rfl, by simp, by omega, by simp [val]⟩ : RAdd _ _ 0 0 []), HO0.out, HB0.out, HB1.out, HB2.out, HN0.out⟩
  case round =>
    obtain ⟨k, q, L, A5, c5, rfl, rfl, rfl, hk, hq, HLN, HI, HO, HB0, HB1, HB2, HN⟩ := hrel
    have c0 := HB0.out.cell 0
    have c1 := HB1.out.cell 0
    simp only [List.getElem?_toArray, List.getElem?_cons_zero] at c0 c1
    by_cases hkl : k < max l l'
    · have hst := HI.out.step (getD_lt9 x k) (getD_lt9 y k)
      have HD1 := Lib.hid (fun n => digit_c (HX.out.new (HN.out.drewN n)) k)
      have HD2 := Lib.hid (fun n => digit_c (HY.out.new (HN.out.drewN n)) k)
      have b1 := getD_lt9 x k
      have b2 := getD_lt9 y k
      generalize (dg B9 x).getD k 0 = dx at *
      generalize (dg B9 y).getD k 0 = dy at *
      have e1 : ((q : Int) + (dx : Int) + (dy : Int)).tmod 1000000000 = (((q + dx + dy) % B9 : Nat) : Int) := by rw [B9_eq, Int.tmod_eq_emod_of_nonneg (by omega)]; omega
      have e2 : ((q : Int) + (dx : Int) + (dy : Int)).tdiv 1000000000 = (((q + dx + dy) / B9 : Nat) : Int) := by rw [B9_eq, Int.tdiv_eq_ediv_of_nonneg (by omega)]; omega
      have e3 : ((q : Int) + (dx : Int) + (dy : Int)) % 1000000000 = (((q + dx + dy) % B9 : Nat) : Int) := by rw [B9_eq]; omega
      have e4 : ((q : Int) + (dx : Int) + (dy : Int)) / 1000000000 = (((q + dx + dy) / B9 : Nat) : Int) := by rw [B9_eq]; omega
      have hz : (q + dx + dy) / B9 ≤ 1 := hst.carry
      have b3 : dx < 1000000000 := by rw [B9_eq] at b1; exact b1
      have b4 : dy < 1000000000 := by rw [B9_eq] at b2; exact b2
      generalize (q + dx + dy) / B9 = qq at *
      generalize (q + dx + dy) % B9 = rr at *
      have HST := Lib.hid hst
      clear hst b1 b2
      have HLL : Hid (L.length ≤ 2000000) := Lib.hid (by rw [HLN.out]; omega)
      by_cases hka : k < l
      all_goals (try (have hkb : k < l' := by omega))
      all_goals
        go_wp2
        go_quiet (first
          | (with_reducible exact Calls.quiet_of_same (HD2.out _))
          | (with_reducible exact Calls.quiet_of_same (HD1.out _)))
        obtain ⟨W2, hW2⟩ : ∃ X, X = wr.drewN nq := ⟨_, rfl⟩
        have hn2 : New wr W2 := by rw [hW2]; exact (New.refl _).drewN _
        rw [← hW2]
        clear hW2
        have HCX := Lib.hid ((Box.last W2 #[encI rr] 3).cell 0)
        have HOWN := Lib.hid ((HO.out.new hn2).new ((New.refl W2).alloc (.cells #[encI rr] 3)))
        have HNN := Lib.hid ((HN.out.trans hn2).alloc (.cells #[encI rr] 3))
        go_wp2_with (at_builtin; refine app_own2 encI w _ rfl _ _ 27 3 rfl (.int .i64 0) 8 (by kernel_rfl) info_int rfl (by decide) _ L rfl HNN.out HOWN.out _ _ _ rr rfl HCX.out rfl (by have := HLL.out; omega) ?_)
        intro A6 c6 w3 hown3 hn3 hkept hsz3
        have HB0' := Lib.hid (hkept _ _ _ _ _ ((HB0.out.new hn2).alloc (.cells #[encI rr] 3)) (by decide))
        have HB1' := Lib.hid (hkept _ _ _ _ _ ((HB1.out.new hn2).alloc (.cells #[encI rr] 3)) (by decide))
        have HB2' := Lib.hid (hkept _ _ _ _ _ ((HB2.out.new hn2).alloc (.cells #[encI rr] 3)) (by decide))
        have HO4 := Lib.hid hown3
        have HN4 := Lib.hid hn3
        clear hown3 hn3 hkept hsz3 HCX HOWN HNN hn2 c0 c1
        go_wp2
        go_roundw
        case rel => exact ⟨k + 1, qq, L ++ [rr], A6, c6, by simp, by go_num, by go_num, by omega, hz, by rw [List.length_append, HLN.out]; rfl, HST.out, by rw [List.length_append]; exact HO4.out, HB0'.out, HB1'.out, HB2'.out, HN4.out⟩
        case measure => simp [intOf]; omega
    · have hk2 : k = max l l' := by omega
      have hka : ¬ (k : Int) < (l : Int) := by omega
      have hkb : ¬ (k : Int) < (l' : Int) := by omega
      have hfin := HI.out.done (by rw [← HL.out]; omega) (by rw [← HL'.out]; omega)
      have HF := Lib.hid hfin
      have HLL : Hid (L.length ≤ 2000000) := Lib.hid (by rw [HLN.out]; omega)
      have HCX := Lib.hid ((Box.last wr #[encI q] 3).cell 0)
      have HOWN := Lib.hid (HO.out.new ((New.refl wr).alloc (.cells #[encI q] 3)))
      have HNN := Lib.hid (HN.out.alloc (.cells #[encI q] 3))
      clear hfin hk2
      go_wp2_with (at_builtin; refine app_own2 encI w _ rfl _ _ 27 3 rfl (.int .i64 0) 8 (by kernel_rfl) info_int rfl (by decide) _ L rfl HNN.out HOWN.out _ _ _ q rfl HCX.out rfl (by have := HLL.out; omega) ?_)
      intro A6 c6 w3 hown3 hn3 hkept hsz3
      have HB2' := Lib.hid (hkept _ _ _ _ _ (HB2.out.alloc (.cells #[encI q] 3)) (by decide))
      have HN4 := Lib.hid hn3
      have hsl := hown3.sl
      have HT := Lib.hid (rtrim_c hsl)
      clear hown3 hn3 hkept hsz3 HCX HOWN HNN c0 c1 hsl
      go_wp2_with fail
      refine HT.out.mono ?_
      rintro e w4 ⟨v, rfl, hv4, hn4⟩
      have hv := RefV.of_sl hv4 HF.out.1
      rw [HF.out.2] at hv
      obtain ⟨A7, l7, c7, e7⟩ := hv.form
      obtain rfl : v = .slice A7 l7 c7 := by simpa using e7
      have hb : Box w4 (w.heap.size + 1 + 1) #[.slice none 0 0] 29 := hn4.block HB2'.out
      have hc := hb.cell 0
      have hf := hb.frozen 0
      have HV := Lib.hid (hv.set hb (by decide) (i := 0) (.slice A7 l7 c7))
      have HZ := Lib.hid (hb.set 0 (.slice A7 l7 c7) |>.cell 0)
      have HNZ := Lib.hid ((HN4.out.trans hn4).setCell (p := ⟨w.heap.size + 1 + 1, 0, none⟩) (by show _ ≤ w.heap.size + 1 + 1; omega) (.slice A7 l7 c7))
      clear hv hv4 hn4 hb e7
      go_wp2
      have hz := HZ.out
      refine bodyPost_ret (v := .agg #[.slice A7 l7 c7]) (by simp [results, Tryz.results95, go_sem, hz]) rfl ⟨_, rfl, HV.out, HNZ.out⟩
end Go.Proofs.YtkjlmibleoecgaaGreatDoor
