/- The reference of nat, part 6: Sub. (Printed by mkref6.py.) -/
import Derived.Test.YtkjlmibleoecgaaGreatDoorRef5
import Derived.Test.YtkjlmibleoecgaaGreatDoorNat5
namespace Go.Proofs.YtkjlmibleoecgaaGreatDoor
set_option linter.unusedSimpArgs false
set_option linter.unusedVariables false
open Go.RowKit
/-- What holds in the reference's Sub. -/
structure RSub (xs ys : List Nat) (k c : Nat) (L : List Nat) : Prop where
  len : L.length = k
  lt : ∀ d ∈ L, d < B9
  carry : c ≤ 1
  sum : val B9 L + val B9 (ys.take k) = val B9 (xs.take k) + B9 ^ k * c
theorem RSub.step {xs ys L : List Nat} {k c d c' : Nat} (h : RSub xs ys k c L) (hd : d < B9) (hc : c' ≤ 1) (e : d + ys.getD k 0 + c = xs.getD k 0 + B9 * c') : RSub xs ys (k + 1) c' (L ++ [d]) := by
  refine ⟨by simp [h.len], fun z hz => ?_, hc, ?_⟩
  · rcases List.mem_append.1 hz with hz | hz
    · exact h.lt z hz
    · simp at hz; subst hz; exact hd
  · rw [val_snoc, h.len, val_take_succ _ ys, val_take_succ _ xs, Nat.pow_succ]
    have h1 := h.sum
    have e1 : B9 ^ k * (d + ys.getD k 0 + c) = B9 ^ k * (xs.getD k 0 + B9 * c') := by rw [e]
    simp only [Nat.mul_add, ← Nat.mul_assoc] at e1 ⊢
    omega
theorem RSub.done {x y c : Nat} {L : List Nat} (h : RSub (dg B9 x) (dg B9 y) (dg B9 x).length c L) (hle : y ≤ x) : val B9 L = x - y := by
  have h1 := h.sum
  rw [List.take_of_length_le (Nat.le_refl _), List.take_of_length_le (dg_len_mono B9_2 hle), dg_val B9_2, dg_val B9_2] at h1
  have h2 := val_lt (b := B9) (by rw [B9_eq]; omega) h.lt
  rw [h.len] at h2
  cases c with
  | zero => omega
  | succ c => rw [Nat.mul_succ] at h1; omega
set_option maxHeartbeats 2000000 in
set_option maxRecDepth 100000 in
theorem rsub_c {x y : Nat} {u v : Value} {w : World} (hx : RefV w u x) (hy : RefV w v y) (hl : (dg B9 x).length ≤ 1000000) (hl2 : (dg B9 y).length ≤ 1000000) :
    Calls Tryz.prog 78 #[u, v] w fun e w' => ∃ v, e = .returned (.tuple #[v, .int .i64 (subE x y)]) ∧ RefV w' v (x - y) ∧ New w w' := by
  obtain ⟨A, l, c, rfl⟩ := hx.form
  obtain ⟨A', l', c', rfl⟩ := hy.form
  have hll : l = (dg B9 x).length := by obtain ⟨_, e, A1, c1, rfl, _⟩ := hx; simp at e; omega
  have HX := Lib.hid hx.sl
  have HY := Lib.hid hy.sl
  have HXV := Lib.hid hx
  have HYV := Lib.hid hy
  have HL := Lib.hid hll
  have HLL1 := Lib.hid hl
  have HLL2 := Lib.hid hl2
  have hl3 : l ≤ 1000000 := by omega
  clear hx hy hll hl hl2
  go_enter Tryz.func78, Tryz.ntmps78
  go_wp2_with fail
  obtain ⟨W0, hW0⟩ : ∃ X, X = ((w.alloc (.cells #[.slice A l c] 29)).alloc (.cells #[.slice A' l' c'] 29)).alloc (.cells #[.slice none 0 0] 29) := ⟨_, rfl⟩
  have HN0 : Hid (New w W0) := Lib.hid (by rw [hW0]; exact (((New.refl w).alloc _).alloc _).alloc _)
  have HB0 : Hid (Box W0 w.heap.size #[.slice A l c] 29) := Lib.hid (by rw [hW0]; exact (((Box.last w _ _).alloc _).alloc _))
  have HB1 : Hid (Box W0 (w.heap.size + 1) #[.slice A' l' c'] 29) := Lib.hid (by rw [hW0]; exact ((Box.last2 w _ _ _).alloc _))
  have HB2 : Hid (Box W0 (w.heap.size + 1 + 1) #[.slice none 0 0] 29) := Lib.hid (by rw [hW0]; exact (Box.last3 w _ _ _ _))
  rw [← hW0]
  clear hW0
  refine (rcmp_c (HXV.out.new HN0.out) (HYV.out.new HN0.out) HLL1.out HLL2.out).mono ?_
  rintro e W1 ⟨rfl, hn1⟩
  have HN1 := Lib.hid (HN0.out.trans hn1)
  have HB0 := Lib.hid (HB0.out.new hn1)
  have HB1 := Lib.hid (HB1.out.new hn1)
  have HB2 := Lib.hid (HB2.out.new hn1)
  clear hn1 HN0
  rcases Nat.lt_or_ge x y with hlt | hle
  · have hcm := cmpN_lt hlt
    rw [hcm]
    have hb := HB2.out
    have hf := hb.frozen 0
    have hc := hb.cell 0
    have hxy : x - y = 0 := by omega
    have hse : subE x y = 11 := by unfold subE; rw [if_pos hlt]
    have HZ := Lib.hid (hb.set 0 (.slice none 0 0) |>.cell 0)
    have HNZ := Lib.hid (HN1.out.setCell (p := ⟨w.heap.size + 1 + 1, 0, none⟩) (by show _ ≤ w.heap.size + 1 + 1; omega) (.slice none 0 0))
    have HE := Lib.hid hse
    have HX0 := Lib.hid hxy
    clear hb hcm hxy hse
    go_wp2
    have hz := HZ.out
    refine bodyPost_ret (v := .tuple #[.agg #[.slice none 0 0], .int .i64 11]) (by simp [results, Tryz.results78, go_sem, hz]) rfl ⟨_, by rw [HE.out], by rw [HX0.out]; exact RefV.zero _, HNZ.out⟩
  · have hcm : 0 ≤ cmpN x y := by unfold cmpN; rw [if_neg (by omega)]; split <;> omega
    have hse : subE x y = 0 := by unfold subE; rw [if_neg (by omega)]
    have HE := Lib.hid hse
    have HLE := Lib.hid hle
    generalize cmpN x y = cm at *
    clear hse hle
    go_wp2
    have HO0 : Hid (OwnE encI 3 w.heap.size (W1.alloc (.cells #[] 3)) (.slice (some ⟨W1.heap.size, 0, none⟩) 0 0) []) := Lib.hid (OwnE.of_box (xs := []) (Box.last W1 #[] 3) HN1.out.le (by decide))
    have HN2 := Lib.hid (HN1.out.alloc (.cells #[] 3))
    have HB0 := Lib.hid (HB0.out.alloc (.cells #[] 3))
    have HB1 := Lib.hid (HB1.out.alloc (.cells #[] 3))
    have HB2 := Lib.hid (HB2.out.alloc (.cells #[] 3))
    generalize W1.alloc (.cells #[] 3) = W2 at *
    go_loopw [6, 7, 8] (fun v6 v7 v8 w' => ∃ (k q : Nat) (L : List Nat) (A5 : Option Addr) (c5 : Nat), v6 = .slice A5 L.length c5 ∧ v7 = .int .i64 (q : Int) ∧ v8 = .int .i64 (k : Int) ∧ k ≤ l ∧ q ≤ 1 ∧ Hid (L.length = k) ∧ Hid (RSub (dg B9 x) (dg B9 y) k q L) ∧ Hid (OwnE encI 3 w.heap.size w' (.slice A5 L.length c5) L) ∧ Hid (Box w' w.heap.size #[.slice A l c] 29) ∧ Hid (Box w' (w.heap.size + 1) #[.slice A' l' c'] 29) ∧ Hid (Box w' (w.heap.size + 1 + 1) #[.slice none 0 0] 29) ∧ Hid (New w w')) (fun _ _ v8 _ => l - (intOf v8).toNat)
    case atStart => exact ⟨0, 0, [], _, _, rfl, rfl, rfl, by omega, by omega, (rfl : [].length = 0), (⟨rfl, by simp, by omega, by simp [val]⟩ : RSub _ _ 0 0 []), HO0.out, HB0.out, HB1.out, HB2.out, HN2.out⟩
    case round =>
      clear HN1 HN2 HB0 HB1 HB2 HO0
      obtain ⟨k, q, L, A5, c5, rfl, rfl, rfl, hk, hq, HLN, HI, HO, HB0, HB1, HB2, HN⟩ := hrel
      have c0 := HB0.out.cell 0
      have c1 := HB1.out.cell 0
      simp only [List.getElem?_toArray, List.getElem?_cons_zero] at c0 c1
      by_cases hkl : k < l
      · obtain ⟨A0, cc0, e0, z1, z2, z3⟩ := HX.out
        obtain ⟨rfl, rfl, rfl⟩ : A = A0 ∧ l = (dg B9 x).length ∧ c = cc0 := by simpa using e0
        obtain ⟨b, o, C, fr, rfl, hbl, hcell⟩ := z3 k hkl
        have hcell2 := HN.out.still hcell
        have HSTEP := Lib.hid (fun d c' => HI.out.step (d := d) (c' := c'))
        have HD2 := Lib.hid (fun n => digit_c (HY.out.new (HN.out.drewN n)) k)
        have b1 := getD_lt9 x k
        have b2 := getD_lt9 y k
        generalize (dg B9 x).getD k 0 = dx at *
        generalize (dg B9 y).getD k 0 = dy at *
        rw [B9_eq] at b1 b2
        have HLL : Hid (L.length ≤ 2000000) := Lib.hid (by rw [HLN.out]; omega)
        have HZ2 := Lib.hid z2
        have HLK := Lib.hid hkl
        unfold maxLen at z2
        clear e0 z1 z3 hcell hbl
        have hpart : ∃ d qq : Nat, d < 1000000000 ∧ qq ≤ 1 ∧ d + dy + q = dx + 1000000000 * qq ∧ ((dx : Int) - dy - q = d ∧ qq = 0 ∨ (dx : Int) - dy - q + 1000000000 = d ∧ (dx : Int) - dy - q < 0 ∧ qq = 1) := by
          rcases Nat.lt_or_ge dx (dy + q) with h | h
          · exact ⟨dx + 1000000000 - dy - q, 1, by omega, by omega, by omega, .inr ⟨by omega, by omega, rfl⟩⟩
          · exact ⟨dx - dy - q, 0, by omega, by omega, by omega, .inl ⟨by omega, rfl⟩⟩
        obtain ⟨d, qq, hd1, hqq, hsum, hcs⟩ := hpart
        have HST := Lib.hid (HSTEP.out d qq (by rw [B9_eq]; exact hd1) hqq (by rw [B9_eq]; exact hsum))
        clear HSTEP hsum
        rcases hcs with ⟨hcs, rfl⟩ | ⟨hcs, hneg, rfl⟩
        · go_wp2
          go_quiet (first
            | (with_reducible exact Calls.quiet_of_same (HD2.out _)))
          obtain ⟨W3, hW3⟩ : ∃ X, X = wr.drewN nq := ⟨_, rfl⟩
          have hn2 : New wr W3 := by rw [hW3]; exact (New.refl _).drewN _
          rw [← hW3]
          clear hW3
          have HCX := Lib.hid ((Box.last W3 #[encI d] 3).cell 0)
          have HOWN := Lib.hid ((HO.out.new hn2).new ((New.refl W3).alloc (.cells #[encI d] 3)))
          have HNN := Lib.hid ((HN.out.trans hn2).alloc (.cells #[encI d] 3))
          go_wp2_with (at_builtin; refine app_own2 encI w _ rfl _ _ 27 3 rfl (.int .i64 0) 8 (by kernel_rfl) info_int rfl (by decide) _ L rfl HNN.out HOWN.out _ _ _ d rfl HCX.out rfl (by have := HLL.out; omega) ?_)
          intro A6 c6 w3 hown3 hn3 hkept hsz3
          have HB0' := Lib.hid (hkept _ _ _ _ _ ((HB0.out.new hn2).alloc (.cells #[encI d] 3)) (by decide))
          have HB1' := Lib.hid (hkept _ _ _ _ _ ((HB1.out.new hn2).alloc (.cells #[encI d] 3)) (by decide))
          have HB2' := Lib.hid (hkept _ _ _ _ _ ((HB2.out.new hn2).alloc (.cells #[encI d] 3)) (by decide))
          have HO4 := Lib.hid hown3
          have HN4 := Lib.hid hn3
          clear hown3 hn3 hkept hsz3 HCX HOWN HNN hn2 c0 c1
          go_wp2
          go_roundw
          case rel => exact ⟨k + 1, 0, L ++ [d], A6, c6, by simp, by go_num, by go_num, by omega, by omega, by rw [List.length_append, HLN.out]; rfl, HST.out, by rw [List.length_append]; exact HO4.out, HB0'.out, HB1'.out, HB2'.out, HN4.out⟩
          case measure => simp [intOf]; omega
        · go_wp2
          go_quiet (first
            | (with_reducible exact Calls.quiet_of_same (HD2.out _)))
          obtain ⟨W3, hW3⟩ : ∃ X, X = wr.drewN nq := ⟨_, rfl⟩
          have hn2 : New wr W3 := by rw [hW3]; exact (New.refl _).drewN _
          rw [← hW3]
          clear hW3
          have HCX := Lib.hid ((Box.last W3 #[encI d] 3).cell 0)
          have HOWN := Lib.hid ((HO.out.new hn2).new ((New.refl W3).alloc (.cells #[encI d] 3)))
          have HNN := Lib.hid ((HN.out.trans hn2).alloc (.cells #[encI d] 3))
          go_wp2_with (at_builtin; refine app_own2 encI w _ rfl _ _ 27 3 rfl (.int .i64 0) 8 (by kernel_rfl) info_int rfl (by decide) _ L rfl HNN.out HOWN.out _ _ _ d rfl HCX.out rfl (by have := HLL.out; omega) ?_)
          intro A6 c6 w3 hown3 hn3 hkept hsz3
          have HB0' := Lib.hid (hkept _ _ _ _ _ ((HB0.out.new hn2).alloc (.cells #[encI d] 3)) (by decide))
          have HB1' := Lib.hid (hkept _ _ _ _ _ ((HB1.out.new hn2).alloc (.cells #[encI d] 3)) (by decide))
          have HB2' := Lib.hid (hkept _ _ _ _ _ ((HB2.out.new hn2).alloc (.cells #[encI d] 3)) (by decide))
          have HO4 := Lib.hid hown3
          have HN4 := Lib.hid hn3
          clear hown3 hn3 hkept hsz3 HCX HOWN HNN hn2 c0 c1
          go_wp2
          go_roundw
          case rel => exact ⟨k + 1, 1, L ++ [d], A6, c6, by simp, by go_num, by go_num, by omega, by omega, by rw [List.length_append, HLN.out]; rfl, HST.out, by rw [List.length_append]; exact HO4.out, HB0'.out, HB1'.out, HB2'.out, HN4.out⟩
          case measure => simp [intOf]; omega
      · obtain rfl : k = l := by omega
        have hfin := RSub.done (c := q) (L := L) (by rw [← HL.out]; exact HI.out) HLE.out
        have hsl := HO.out.sl
        have HT := Lib.hid (rtrim_c hsl)
        have HF := Lib.hid (And.intro HI.out.lt hfin)
        clear hsl hfin
        go_wp2_with fail
        refine HT.out.mono ?_
        rintro e w4 ⟨v, rfl, hv4, hn4⟩
        have hv := RefV.of_sl hv4 HF.out.1
        rw [HF.out.2] at hv
        obtain ⟨A7, l7, c7, e7⟩ := hv.form
        obtain rfl : v = .slice A7 l7 c7 := by simpa using e7
        have hb := HB2.out.new hn4
        have hc := hb.cell 0
        have hf := hb.frozen 0
        have HV := Lib.hid (hv.set hb (by decide) (i := 0) (.slice A7 l7 c7))
        have HZ := Lib.hid (hb.set 0 (.slice A7 l7 c7) |>.cell 0)
        have HNZ := Lib.hid ((HN.out.trans hn4).setCell (p := ⟨w.heap.size + 1 + 1, 0, none⟩) (by show _ ≤ w.heap.size + 1 + 1; omega) (.slice A7 l7 c7))
        clear hv hv4 hn4 hb e7
        go_wp2
        have hz := HZ.out
        refine bodyPost_ret (v := .tuple #[.agg #[.slice A7 l7 c7], .int .i64 0]) (by simp [results, Tryz.results78, go_sem, hz]) rfl ⟨_, by rw [HE.out], HV.out, HNZ.out⟩
end Go.Proofs.YtkjlmibleoecgaaGreatDoor
