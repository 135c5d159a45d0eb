/- The program's nat, part 5: Clone, Sub. -/
import Derived.Test.YtkjlmibleoecgaaGreatDoorNat4
namespace Go.Proofs.YtkjlmibleoecgaaGreatDoor
open Go.RowKit

theorem Row.of_owns {w : World} {base : Nat} {E : TypeId} {k : IntKind} {v : Value} {xs : List Nat} (h : w.ownsRow base E 1 v xs.length (ecells k xs).toList) : (xs = [] ∧ v = .slice none 0 0) ∨ ∃ g cap, v = .slice (some ⟨g, 0, none⟩) xs.length cap ∧ base ≤ g ∧ Row w g cap xs.length E k xs := by
  obtain ⟨h1, h2 | ⟨g, cap, cur, rfl, hg, hb, hn, hc, hs, ht⟩⟩ := h
  · exact .inl ⟨List.length_eq_zero_iff.1 h2.2, h2.1⟩
  · exact .inr ⟨g, cap, rfl, hg, cur, hb, hn, hc, by omega, rfl, by rw [Nat.mul_one] at ht; exact ht⟩
/-- What Clone leaves: no element, or a row of the call's own. -/
def Cloned (w w' : World) (E : TypeId) (v : Value) (xs : List Nat) : Prop :=
  (xs = [] ∧ ∃ A c, c ≤ maxLen ∧ v = .slice A 0 c) ∨ ∃ g cap, v = .slice (some ⟨g, 0, none⟩) xs.length cap ∧ w.heap.size ≤ g ∧ Row w' g cap xs.length E .u32 xs

set_option maxHeartbeats 800000 in
theorem clone_c {xs : List Nat} {v : Value} {w : World} (h : Sl 89 .u32 w v xs) (hl : xs.length ≤ 1099511627776) :
    Calls Tryz.prog 115 #[v] w fun e w' => ∃ v', e = .returned v' ∧ New w w' ∧ Cloned w w' 89 v' xs := by
  obtain ⟨A, c, rfl, hc, hm, hr⟩ := h
  obtain ⟨i0, hi, hz0⟩ := Option.map_eq_some_iff.1 info_u32
  simp only [Prod.mk.injEq] at hz0
  obtain ⟨hz0, hz1, hz2⟩ := hz0
  cases A with
  | none =>
    have h0 : xs = [] := by
      cases xs with
      | nil => rfl
      | cons a r => obtain ⟨_, _, _, _, h, _⟩ := hr 0 (by simp); cases h
    subst h0
    have HM := Lib.hid hm
    clear hr hm
    have hq := Lib.run_eql_slice_nil (P := Tryz.prog)
    go_enter Tryz.func115, Tryz.ntmps115
    go_wp2
    go_ret
    exact ⟨_, rfl, New.refl w, .inl ⟨rfl, none, 0, Nat.zero_le _, rfl⟩⟩
  | some ad =>
    have hnews : ∀ o1 (j : Nat) (u : Value), (ecells .u32 xs).toList[j]? = some u → (w.alloc o1).cell? (ad.add j) = some u := fun o1 j u hj => by
      rw [Array.getElem?_toList] at hj
      by_cases hlt : j < xs.length
      · rw [ecells_get _ hlt] at hj
        obtain ⟨b, o, C, fr, e, hb, hcell⟩ := hr j hlt
        obtain rfl : ad = ⟨b, o, none⟩ := Option.some.inj e
        rw [← hj]
        have := ((New.refl w).alloc o1).still hcell
        rcases Nat.eq_zero_or_pos j with rfl | hj0
        · exact this
        · simpa [Addr.add, Nat.ne_of_gt hj0] using this
      · rw [Array.getElem?_eq_none (by rw [ecells_size]; omega)] at hj; cases hj
    have hown : (w.alloc (.cells #[] 89)).ownsRow w.heap.size 89 1 (.slice (some ⟨w.heap.size, 0, none⟩) 0 0) 0 [] :=
      ⟨rfl, .inr ⟨w.heap.size, 0, #[], rfl, Nat.le_refl _, heap_new w _, Nat.le_refl _, Nat.zero_le _, rfl, rfl⟩⟩
    have h1 : ∀ u ∈ (ecells .u32 xs).toList, u.oneCell' = true := fun u hu => by
      simp [ecells] at hu; obtain ⟨a, _, rfl⟩ := hu; rfl
    have hll : (ecells .u32 xs).toList.length = xs.length * 1 := by simp [ecells]
    have hq := Lib.run_eql_slice_nil (P := Tryz.prog)
    have hb1 : (0 + xs.length) ≤ maxLen := by simp [maxLen]; omega
    have hb2 : (0 + xs.length) * 4 ≤ 140737488355328 := by omega
    generalize hN : (ecells .u32 xs).toList = NS at *
    generalize hn : xs.length = n at *
    have HN := Lib.hid hN
    have HL := Lib.hid hn
    clear hr hN hn
    go_enter Tryz.func115, Tryz.ntmps115
    go_wp2_with (at_builtin; refine wpList_append_own _ rfl _ _ 24 rfl w.heap.size 89 i0 (.int .u32 0) 1 4 Tryz.underlying24 hi hz0 hz1 hz2 rfl (by decide) _ _ _ rfl hown ad n c NS rfl hll (hnews _) h1 hb1 hb2 (by simp) ?_)
    intro v1 w1 hown1 hg hnn
    have hne : New w w1 := Below.grown ((New.refl w).alloc _) hg (by simp) (fun k hk => by simp [Value.ownBlock] at hk; omega)
    have HG := Lib.hid hown1
    clear hown1 hg hnn hnews h1 hll hown hq
    go_wp2
    go_ret
    refine ⟨_, rfl, hne, ?_⟩
    have h2 := HG.out
    rw [← HN.out, ← HL.out] at h2
    show Cloned w w1 89 v1 xs
    rcases Row.of_owns h2 with ⟨h3, h4⟩ | ⟨g, cap, h3, h4, h5⟩
    · exact .inl ⟨h3, none, 0, Nat.zero_le _, h4⟩
    · exact .inr ⟨g, cap, h3, h4, h5⟩
theorem val_take_succ (b : Nat) (xs : List Nat) (k : Nat) : val b (xs.take (k + 1)) = val b (xs.take k) + b ^ k * xs.getD k 0 := by
  by_cases h : k < xs.length
  · rw [take_succ_getD 0 h, val_snoc, List.length_take, Nat.min_eq_left (by omega)]
  · rw [List.take_of_length_le (by omega), List.take_of_length_le (by omega), List.getD_eq_getElem?_getD, List.getElem?_eq_none (by omega)]; simp
theorem val_take_set (b : Nat) (xs : List Nat) (k z : Nat) (h : k < xs.length) : val b ((xs.set k z).take (k + 1)) = val b (xs.take k) + b ^ k * z := by
  rw [val_take_succ, List.take_set_of_le (by omega)]
  congr 2
  simp [List.getD_eq_getElem?_getD, h]
/-- What holds in Sub's loop. -/
structure SubInv (xs ys : List Nat) (k b : Nat) (L : List Nat) : Prop where
  len : L.length = xs.length
  lt : ∀ d ∈ L, d < B32
  rest : ∀ j, k ≤ j → L.getD j 0 = xs.getD j 0
  sum : val B32 (L.take k) + val B32 (ys.take k) = val B32 (xs.take k) + B32 ^ k * b
theorem SubInv.step {xs ys : List Nat} {k b d : Nat} {L : List Nat} (h : SubInv xs ys k b L) (hk : k < xs.length) (hd : d < B32) (he : d + ys.getD k 0 + b = xs.getD k 0 + B32 * borrow (xs.getD k 0) (ys.getD k 0) b) :
    SubInv xs ys (k + 1) (borrow (xs.getD k 0) (ys.getD k 0) b) (L.set k d) := by
  refine ⟨by simp [h.len], ?_, ?_, ?_⟩
  · intro e hm
    rcases List.mem_or_eq_of_mem_set hm with hm | rfl
    · exact h.lt e hm
    · exact hd
  · intro j hj
    have := h.rest j (by omega)
    rw [← this]
    simp [List.getD_eq_getElem?_getD, List.getElem?_set_ne (show k ≠ j by omega)]
  · rw [val_take_set _ _ _ _ (by rw [h.len]; exact hk), val_take_succ _ ys, val_take_succ _ xs, Nat.pow_succ]
    have h1 := h.sum
    generalize borrow (xs.getD k 0) (ys.getD k 0) b = b' at *
    have e1 : B32 ^ k * (d + ys.getD k 0 + b) = B32 ^ k * (xs.getD k 0 + B32 * b') := by rw [he]
    simp only [Nat.mul_add, ← Nat.mul_assoc] at e1
    omega
theorem SubInv.done {xs ys : List Nat} {b : Nat} {L : List Nat} (h : SubInv xs ys xs.length b L) (hm : ys.length ≤ xs.length) (hle : val B32 ys ≤ val B32 xs) : val B32 L = val B32 xs - val B32 ys := by
  have h1 := h.sum
  rw [List.take_of_length_le (by rw [h.len]; omega), List.take_of_length_le hm, List.take_of_length_le (by omega)] at h1
  have h2 := val_lt (b := B32) (by rw [B32_eq]; omega) h.lt
  rw [h.len] at h2
  cases b with
  | zero => omega
  | succ b => rw [Nat.mul_succ] at h1; have : 0 ≤ B32 ^ xs.length * b := Nat.zero_le _; omega
def subE (x y : Nat) : Int := if x < y then 11 else 0
theorem borrow_le (x y b : Nat) : borrow x y b ≤ 1 := by unfold borrow; split <;> omega
theorem dg_len_le {x y : Nat} (h : x ≤ y) : (dg B32 x).length ≤ (dg B32 y).length := dg_len_mono B32_2 h

set_option maxHeartbeats 2000000 in
theorem sub_c {x y : Nat} {u v : Value} {w : World} (hx : NatV w u x) (hy : NatV w v y) (hl : (dg B32 x).length ≤ 1099511627776) (hl2 : (dg B32 y).length ≤ 1099511627776) :
    Calls Tryz.prog 93 #[u, v] w fun e w' => ∃ v, e = .returned (.tuple #[v, .int .i64 (subE x y)]) ∧ NatV w' v (x - y) ∧ New w w' := by
  have hx0 := hx
  have hy0 := hy
  obtain ⟨_, rfl, A, c, rfl, hc, hmax, hr⟩ := hx
  obtain ⟨_, rfl, A', c', rfl, hc', hmax', hr'⟩ := hy
  have hb0 := ((Box.last w #[.slice A (dg B32 x).length c] 26).alloc (.cells #[.slice A' (dg B32 y).length c'] 26)).alloc (.cells #[.slice none 0 0] 26)
  have hb1 := (Box.last2 w (.cells #[.slice A (dg B32 x).length c] 26) #[.slice A' (dg B32 y).length c'] 26).alloc (.cells #[.slice none 0 0] 26)
  have hb2 := Box.last3 w (.cells #[.slice A (dg B32 x).length c] 26) (.cells #[.slice A' (dg B32 y).length c'] 26) #[.slice none 0 0] 26
  have hn3 := fun o1 o2 o3 => ((New.refl w).alloc o1).alloc o2 |>.alloc o3
  have HL := Lib.hid hl
  have HL2 := Lib.hid hl2
  have HM := Lib.hid hmax
  have HM' := Lib.hid hmax'
  have HR := Lib.hid hr
  have HR' := Lib.hid hr'
  have HB0 := Lib.hid hb0
  have HB1 := Lib.hid hb1
  have HB2 := Lib.hid hb2
  have HN3 := Lib.hid hn3
  clear hl hl2 hmax hmax' hr hr' hb0 hb1 hb2 hn3
  go_enter Tryz.func93, Tryz.ntmps93
  go_wp2_with fail
  refine (cmp_c (hx0.new (HN3.out _ _ _)) (hy0.new (HN3.out _ _ _)) HL.out HL2.out).mono ?_
  rintro e w1 ⟨rfl, hn1⟩
  have hb0 := HB0.out.new hn1
  have hb1 := HB1.out.new hn1
  have hb2 := HB2.out.new hn1
  have hnw := (HN3.out _ _ _).trans hn1
  by_cases hlt : x < y
  · have hcm : cmpN x y = -1 := by unfold cmpN; rw [if_pos hlt]
    have hdec : decide (cmpN x y < 0) = true := by rw [hcm]; rfl
    have hc2 : w1.cell? ⟨w.heap.size + 1 + 1, 0, none⟩ = some (.slice none 0 0) := hb2.cell 0
    have hf2 := hb2.frozen 0
    have hE : subE x y = 11 := by unfold subE; rw [if_pos hlt]
    have hz : x - y = 0 := by omega
    have HE := Lib.hid hE
    have HZ := Lib.hid hz
    have H2 := Lib.hid hb2
    clear hcm hb0 hb1 hb2 hE hz hlt
    go_wp2
    refine bodyPost_ret (v := .tuple #[.agg #[.slice none 0 0], .int .i64 11]) (by simp [results, Tryz.results93, go_sem, hc2]) rfl ⟨_, by rw [HE.out], ?_, hnw.setCell (by simp; omega) _⟩
    rw [HZ.out]
    exact ⟨_, rfl, none, 0, by rw [dg_zero]; rfl, by rw [dg_zero]; simp, Nat.zero_le _, fun i hi => by rw [dg_zero] at hi; cases hi⟩
  · have hdec : decide (cmpN x y < 0) = false := by unfold cmpN; rw [if_neg hlt]; split <;> rfl
    have hc0 : w1.cell? ⟨w.heap.size, 0, none⟩ = some (.slice A (dg B32 x).length c) := hb0.cell 0
    have hE : subE x y = 0 := by unfold subE; rw [if_neg hlt]
    have HE := Lib.hid hE
    have HD := Lib.hid hdec
    have HC := Lib.hid hc0
    clear hE
    have hsl := NatV.sl (hx0.new hnw)
    go_wp2_with fail
    refine (clone_c hsl HL.out).mono ?_
    rintro e w2 ⟨v', rfl, hn2, hcl⟩
    clear hsl
    have hval := dg_val B32_2 x
    have hval' := dg_val B32_2 y
    have hlen := dg_len_le (Nat.le_of_not_lt hlt)
    have hxs := dg_lt B32_2 x
    have hys := dg_lt B32_2 y
    rcases hcl with ⟨h0, A2, c2, hc2, rfl⟩ | ⟨g, cap, rfl, hg, hrow⟩
    · have hx00 : x = 0 := (dg_nil B32_2).1 h0
      have hs2 : Sl 89 .u32 w2 (.slice A2 0 c2) [] := ⟨A2, c2, rfl, Nat.zero_le _, hc2, fun i hi => by cases hi⟩
      have hb22 := hb2.new hn2
      have HX := Lib.hid hx00
      have H22 := Lib.hid hb22
      have hnw2 := hnw.trans hn2
      clear h0 hb0 hb1 hb2 hval hval' hlen hx00 hb22 hxs hys hc0
      go_wp2
      go_loopw [7, 8, 9, 20] (fun c7 _ _ i w' => i = .int .i64 0 ∧ w' = w2) (fun _ _ _ _ _ => 0)
      case atStart => exact ⟨rfl, rfl⟩
      case round =>
        obtain ⟨rfl, rfl⟩ := hrel
        go_wp2_with fail
        refine (trimmed_c hs2).mono ?_
        rintro e w3 ⟨v3, rfl, h3, hn3⟩
        obtain ⟨hb3, he1, he2⟩ := at_end H22.out hnw2 (by omega) hn3
        have hv : NatV w3 (.agg #[v3]) (x - y) := nat_of h3 (by simp) (by rw [HX.out]; simp [val])
        have hc3 : w3.cell? ⟨w.heap.size + 1 + 1, 0, none⟩ = some (.slice none 0 0) := hb3.cell 0
        have hf3 := hb3.frozen 0
        have HE2 := Lib.hid he2
        obtain ⟨A3, l3, c3, e3⟩ := hv.form
        obtain rfl : v3 = .slice A3 l3 c3 := by simpa using e3
        clear hb3 e3 h3 he2 hs2
        go_wp2
        refine bodyPost_ret (v := .tuple #[.agg #[.slice A3 l3 c3], .int .i64 0]) (by simp [results, Tryz.results93, go_sem, hc3]) rfl ⟨_, by rw [HE.out], HE2.out _ _ _ hv, he1 _⟩
    · generalize hxl : dg B32 x = xs at *
      generalize hyl : dg B32 y = ys at *
      have hr := HR.out
      have hr' := HR'.out
      have hb0 := HB0.out.new hn1
      have hb1 := HB1.out.new hn1
      have hgs : w.heap.size + 1 + 1 + 1 ≤ g := by have := hn1.le; simp at this; omega
      have H0 := Lib.hid hb0
      have H1 := Lib.hid hb1
      have H2 := Lib.hid hb2
      have HV := Lib.hid hval
      have HV' := Lib.hid hval'
      have HXS := Lib.hid hxs
      have HYS := Lib.hid hys
      have hw12 : New w1 w2 := hn2
      have hxlen : xs.length = xs.length := rfl
      generalize hn : xs.length = n at *
      generalize hm : ys.length = m at *
      have HN := Lib.hid hn
      have HMM := Lib.hid hm
      have HXL := Lib.hid hxl
      have HYL := Lib.hid hyl
      have hl1 := HL.out
      have hl2 := HL2.out
      clear hb0 hb1 hb2 hval hval' hxs hys hn hm hxl hyl hxlen hc0
      go_wp2
      go_loopw [7, 8, 9, 20] (fun c7 _ _ i w' => ∃ (k b : Nat) (L : List Nat), k ≤ n ∧ i = .int .i64 (k : Int) ∧ c7 = .int .u32 (b : Int) ∧ b ≤ 1 ∧ Hid (SubInv xs ys k b L) ∧ Hid (Row w' g cap n 89 .u32 L) ∧ Hid (New w1 w')) (fun _ _ _ i _ => n - (intOf i).toNat)
      case atStart => exact ⟨0, 0, xs, Nat.zero_le _, rfl, rfl, Nat.zero_le _, ⟨rfl, HXS.out, fun _ _ => rfl, by simp [val]⟩, hrow, hn2⟩
      case round =>
        obtain ⟨k, b, L, hk, rfl, rfl, hb, HI, HRow, HNw⟩ := hrel
        have hc0 : wr.cell? ⟨w.heap.size, 0, none⟩ = some (.slice A n c) := (H0.out.new HNw.out).cell 0
        have hc1 : wr.cell? ⟨w.heap.size + 1, 0, none⟩ = some (.slice A' m c') := (H1.out.new HNw.out).cell 0
        by_cases hlt2 : k < n
        · have hcg : wr.cell? ⟨g, k, none⟩ = some (.int .u32 (L.getD k 0 : Nat)) := HRow.out.cell hlt2
          have hfg := HRow.out.frozen k
          have hrest := HI.out.rest k (Nat.le_refl _)
          have hxd : xs.getD k 0 < B32 := HXS.out _ (getD_mem (by rw [HN.out]; exact hlt2))
          have hyd : ys.getD k 0 < B32 := by
            by_cases h : k < ys.length
            · exact HYS.out _ (getD_mem h)
            · rw [List.getD_eq_getElem?_getD, List.getElem?_eq_none (by omega)]; rw [B32_eq]; simp
          rw [hrest] at hcg
          have hy0 : ¬ k < m → ys.getD k 0 = 0 := fun h => by
            rw [List.getD_eq_getElem?_getD, List.getElem?_eq_none (by have := HMM.out; omega)]; rfl
          have hstep := fun d h1 h2 => SubInv.step HI.out (d := d) (by rw [HN.out]; exact hlt2) h1 h2
          have HS := Lib.hid hstep
          clear hrest hstep
          generalize hxk : xs.getD k 0 = xd at *
          have HXK := Lib.hid hxk
          clear hxk
          by_cases hkm : k < m
          · obtain ⟨b', o', C', fr', rfl, hbl', hcell'⟩ := hr' k hkm
            have hcy := (hnw.trans HNw.out).still hcell'
            generalize hyk : ys.getD k 0 = yd at *
            have HYK := Lib.hid hyk
            clear hr hr' hcell' hbl' hy0 hyk
            go_wp2_with fail
            refine (sub32_c hxd hyd hb _).mono ?_
            rintro e w3 ⟨d, hd, he, rfl, rfl⟩
            have hst := HS.out d hd he
            have hble := borrow_le xd yd b
            have HST := Lib.hid hst
            have HHE := Lib.hid he
            clear he hst
            go_wp2
            go_roundw
            case rel => exact ⟨k + 1, borrow xd yd b, L.set k d, by omega, by go_num, rfl, hble, HST, HRow.out.set k d, New.setCell HNw.out (by have := hn1.le; simp at this ⊢; omega) _⟩
            case measure => simp [intOf]; omega
          · have hy00 := hy0 hkm
            have h37 := sub32_c hxd (y := 0) (by rw [B32_eq]; omega) hb wr
            rw [show ((0 : Nat) : Int) = 0 from rfl] at h37
            have HYK := Lib.hid hy00
            have H37 := Lib.hid h37
            clear hr hr' hy0 hy00 h37
            go_wp2_with fail
            refine H37.out.mono ?_
            rintro e w3 ⟨d, hd, he, rfl, rfl⟩
            have hst := HS.out d hd (by rw [HYK.out]; exact he)
            rw [HYK.out] at hst
            have hble := borrow_le xd 0 b
            have HST := Lib.hid hst
            have HHE := Lib.hid he
            clear he hst
            generalize borrow xd 0 b = bb at *
            go_wp2
            go_roundw
            case rel => exact ⟨k + 1, bb, L.set k d, by omega, by go_num, rfl, hble, HST, HRow.out.set k d, New.setCell HNw.out (by have := hn1.le; simp at this ⊢; omega) _⟩
            case measure => simp [intOf]; omega
        · obtain rfl : k = n := by omega
          have hfin := SubInv.done (xs := xs) (ys := ys) (b := b) (L := L) (by rw [HN.out]; exact HI.out) (by rw [HN.out, HMM.out]; exact hlen) (by rw [HV.out, HV'.out]; omega)
          rw [HV.out, HV'.out] at hfin
          have HF := Lib.hid hfin
          have hs3 := HRow.out.sl
          clear hr hr' hfin
          go_wp2_with fail
          refine (trimmed_c hs3).mono ?_
          rintro e w3 ⟨v3, rfl, h3, hn3⟩
          obtain ⟨hb3, he1, he2⟩ := at_end (H2.out.new HNw.out) (hnw.trans HNw.out) (by omega) hn3
          have hv : NatV w3 (.agg #[v3]) (x - y) := nat_of h3 HI.out.lt HF.out
          have hc3 : w3.cell? ⟨w.heap.size + 1 + 1, 0, none⟩ = some (.slice none 0 0) := hb3.cell 0
          have hf3 := hb3.frozen 0
          have HE2 := Lib.hid he2
          obtain ⟨A3, l3, c3, e3⟩ := hv.form
          obtain rfl : v3 = .slice A3 l3 c3 := by simpa using e3
          clear hb3 e3 h3 he2 hs3
          go_wp2
          refine bodyPost_ret (v := .tuple #[.agg #[.slice A3 l3 c3], .int .i64 0]) (by simp [results, Tryz.results93, go_sem, hc3]) rfl ⟨_, by rw [HE.out], HE2.out _ _ _ hv, he1 _⟩
end Go.Proofs.YtkjlmibleoecgaaGreatDoor
