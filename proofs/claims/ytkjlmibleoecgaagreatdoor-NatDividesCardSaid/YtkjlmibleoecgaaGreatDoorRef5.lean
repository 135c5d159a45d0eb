/- The reference of nat, part 5: Cmp. -/
import Derived.Test.YtkjlmibleoecgaaGreatDoorRef4
import Derived.Test.YtkjlmibleoecgaaGreatDoorK8
import Derived.Test.YtkjlmibleoecgaaGreatDoorNat3
namespace Go.Proofs.YtkjlmibleoecgaaGreatDoor
set_option linter.unusedSimpArgs false
set_option linter.unusedVariables false
open Go.RowKit
theorem val_ext {b : Nat} : ∀ {xs ys : List Nat}, (∀ j, xs.getD j 0 = ys.getD j 0) → val b xs = val b ys
  | [], ys, h => by
    have : val b ys = 0 := val_zero_of fun j => by rw [← h j]; rfl
    rw [this]; rfl
  | x :: xs, [], h => by
    have : val b (x :: xs) = 0 := val_zero_of fun j => by rw [h j]; rfl
    rw [this]; rfl
  | x :: xs, y :: ys, h => by
    have h0 : x = y := by simpa using h 0
    have hr : val b xs = val b ys := val_ext fun j => by simpa [List.getD_eq_getElem?_getD] using h (j + 1)
    rw [val, val, h0, hr]
theorem rcmp_lt {x y k : Nat} (he : ∀ j, k + 1 ≤ j → (dg B9 x).getD j 0 = (dg B9 y).getD j 0) (h : (dg B9 x).getD k 0 < (dg B9 y).getD k 0) : x < y := by
  have hb : 0 < B9 := by rw [B9_eq]; omega
  have h1 := val_div_pow hb (dg_lt B9_2 x) k
  have h2 := val_div_pow hb (dg_lt B9_2 y) k
  rw [dg_val B9_2, val_drop_succ] at h1 h2
  have h3 : val B9 ((dg B9 x).drop (k + 1)) = val B9 ((dg B9 y).drop (k + 1)) := val_ext fun j => by
    rw [List.getD_eq_getElem?_getD, List.getElem?_drop, ← List.getD_eq_getElem?_getD, List.getD_eq_getElem?_getD (l := (dg B9 y).drop _), List.getElem?_drop, ← List.getD_eq_getElem?_getD]
    exact he _ (by omega)
  rw [h3] at h1
  have h4 : x / B9 ^ k < y / B9 ^ k := by omega
  refine Nat.lt_of_not_le fun hle => ?_
  have := Nat.div_le_div_right (c := B9 ^ k) hle
  omega
theorem rcmp_eq {x y : Nat} (he : ∀ j, (dg B9 x).getD j 0 = (dg B9 y).getD j 0) : x = y := by
  have := val_ext (b := B9) he
  rwa [dg_val B9_2, dg_val B9_2] at this
theorem cmpN_lt {x y : Nat} (h : x < y) : cmpN x y = -1 := by unfold cmpN; rw [if_pos h]
theorem cmpN_gt {x y : Nat} (h : y < x) : cmpN x y = 1 := by unfold cmpN; rw [if_neg (by omega), if_pos h]
theorem cmpN_eq (x : Nat) : cmpN x x = 0 := by unfold cmpN; rw [if_neg (by omega), if_neg (by omega)]
set_option maxHeartbeats 2000000 in
set_option maxRecDepth 100000 in
theorem rcmp_c {x y : Nat} {u v : Value} {w : World} (hx : RefV w u x) (hy : RefV w v y) (hl : (dg B9 x).length ≤ 1000000) (hl2 : (dg B9 y).length ≤ 1000000) :
    Calls Tryz.prog 21 #[u, v] w fun e w' => e = .returned (.int .i64 (cmpN x y)) ∧ New w w' := by
  obtain ⟨A, l, c, rfl⟩ := hx.form
  obtain ⟨A', l', c', rfl⟩ := hy.form
  have hll : l = (dg B9 x).length := by obtain ⟨_, e, A1, c1, rfl, _⟩ := hx; simp at e; omega
  have hll' : l' = (dg B9 y).length := by obtain ⟨_, e, A1, c1, rfl, _⟩ := hy; simp at e; omega
  have hz : ∀ j, max l l' ≤ j → (dg B9 x).getD j 0 = (dg B9 y).getD j 0 := fun j hj => by
    rw [List.getD_eq_getElem?_getD, List.getD_eq_getElem?_getD, List.getElem?_eq_none (by omega), List.getElem?_eq_none (by omega)]
  have HX := Lib.hid hx.sl
  have HY := Lib.hid hy.sl
  have HZ := Lib.hid hz
  have hl3 : l ≤ 1000000 := by omega
  have hl4 : l' ≤ 1000000 := by omega
  clear hx hy hl hl2 hll hll' hz
  obtain ⟨m, hm⟩ : ∃ m, m = max l l' := ⟨_, rfl⟩
  rw [← hm] at HZ
  have hm2 : m ≤ 1000000 := by omega
  have HM := Lib.hid hm
  clear hm
  have hcs : l < l' ∨ l' < l ∨ l = l' := by omega
  rcases hcs with hcs | hcs | hcs
  · go_enter Tryz.func21, Tryz.ntmps21
    go_wp2
    obtain ⟨W0, hW0⟩ : ∃ X, X = (w.alloc (.cells #[.slice A l c] 29)).alloc (.cells #[.slice A' l' c'] 29) := ⟨_, rfl⟩
    have HN0 : Hid (New w W0) := Lib.hid (by rw [hW0]; exact ((New.refl w).alloc _).alloc _)
    have HB0 : Hid (Box W0 w.heap.size #[.slice A l c] 29) := Lib.hid (by rw [hW0]; exact ((Box.last w _ _).alloc _))
    have HB1 : Hid (Box W0 (w.heap.size + 1) #[.slice A' l' c'] 29) := Lib.hid (by rw [hW0]; exact (Box.last2 w _ _ _))
    rw [← hW0]
    clear hW0
    go_loopw [5] (fun v5 w' => ∃ k : Nat, v5 = .int .i64 ((k : Int) - 1) ∧ k ≤ m ∧ Hid (∀ j, k ≤ j → (dg B9 x).getD j 0 = (dg B9 y).getD j 0) ∧ Hid (New w w') ∧ Hid (Box w' w.heap.size #[.slice A l c] 29) ∧ Hid (Box w' (w.heap.size + 1) #[.slice A' l' c'] 29)) (fun v5 _ => (intOf v5 + 1).toNat)
    case atStart =>
      have hM := HM.out
      obtain ⟨mm, hmm⟩ : ∃ mm : Nat, mm = m := ⟨_, rfl⟩
      exact ⟨mm, by (have : (mm : Int) = max (l : Int) (l' : Int) := by omega); (first | (rw [this]; congr 2; omega) | (congr 2; omega)), by omega, by rw [hmm]; exact HZ.out, HN0.out, HB0.out, HB1.out⟩
    case round =>
      clear HN0 HB0 HB1
      obtain ⟨k, rfl, hk, HE, HN, HB0, HB1⟩ := hrel
      by_cases h0 : 0 < k
      · obtain ⟨i, rfl⟩ : ∃ i, k = i + 1 := ⟨k - 1, by omega⟩
        have hi1 : ((i + 1 : Nat) : Int) - 1 = (i : Int) := by omega
        have hdlt : (dg B9 x).getD i 0 < (dg B9 y).getD i 0 → x < y := rcmp_lt HE.out
        have hdgt : (dg B9 y).getD i 0 < (dg B9 x).getD i 0 → y < x := rcmp_lt fun j hj => (HE.out j hj).symm
        have heq : (dg B9 x).getD i 0 = (dg B9 y).getD i 0 → ∀ j, i ≤ j → (dg B9 x).getD j 0 = (dg B9 y).getD j 0 := fun he j hj => by
          by_cases hij : i = j
          · subst hij; exact he
          · exact HE.out j (by omega)
        have HD1 := Lib.hid (fun n => digit_c (HX.out.new (HN.out.drewN n)) i)
        have HD2 := Lib.hid (fun n => digit_c (HY.out.new (HN.out.drewN n)) i)
        have HD3 := Lib.hid (fun W (h : New wr W) => digit_c (HX.out.new (HN.out.trans h)) i)
        have HD4 := Lib.hid (fun W (h : New wr W) => digit_c (HY.out.new (HN.out.trans h)) i)
        have HL1 := Lib.hid hdlt
        have HG1 := Lib.hid hdgt
        have HQ1 := Lib.hid heq
        clear hdlt hdgt heq HE
        generalize (dg B9 x).getD i 0 = dx at *
        generalize (dg B9 y).getD i 0 = dy at *
        rw [hi1]
        have c0 := HB0.out.cell 0
        have c1 := HB1.out.cell 0
        simp only [List.getElem?_toArray, List.getElem?_cons_zero] at c0 c1
        have hd3 : dx < dy ∨ dy < dx ∨ dx = dy := by omega
        rcases hd3 with hd | hd | hd
        · go_wp2
          go_quiet (first
            | (with_reducible exact Calls.quiet_of_same (HD2.out _))
            | (with_reducible exact Calls.quiet_of_same (HD1.out _)))
          go_wp2
          go_ret
          exact ⟨by rw [cmpN_lt (HL1.out hd)]; rfl, HN.out.drewN _⟩
        · go_wp2
          go_quiet (first
            | (with_reducible exact Calls.quiet_of_same (HD2.out _))
            | (with_reducible exact Calls.quiet_of_same (HD1.out _)))
          go_wp2
          obtain ⟨W2, hW2⟩ : ∃ X, X = wr.drewN nq := ⟨_, rfl⟩
          have hn2 : New wr W2 := by rw [hW2]; exact (New.refl _).drewN _
          rw [← hW2]
          clear hW2 c0 c1
          have c0 := (HB0.out.new hn2).cell 0
          have c1 := (HB1.out.new hn2).cell 0
          simp only [List.getElem?_toArray, List.getElem?_cons_zero] at c0 c1
          have HE1 := Lib.hid (fun n => HD3.out (W2.drewN n) (hn2.drewN n))
          have HE2 := Lib.hid (fun n => HD4.out (W2.drewN n) (hn2.drewN n))
          have HN2 := Lib.hid (HN.out.trans hn2)
          go_quiet (first
            | (with_reducible exact Calls.quiet_of_same (HE2.out _))
            | (with_reducible exact Calls.quiet_of_same (HE1.out _)))
          go_wp2
          go_ret
          exact ⟨by rw [cmpN_gt (HG1.out hd)]; rfl, HN2.out.drewN _⟩
        · subst hd
          go_wp2
          go_quiet (first
            | (with_reducible exact Calls.quiet_of_same (HD2.out _))
            | (with_reducible exact Calls.quiet_of_same (HD1.out _)))
          go_wp2
          obtain ⟨W2, hW2⟩ : ∃ X, X = wr.drewN nq := ⟨_, rfl⟩
          have hn2 : New wr W2 := by rw [hW2]; exact (New.refl _).drewN _
          rw [← hW2]
          clear hW2 c0 c1
          have c0 := (HB0.out.new hn2).cell 0
          have c1 := (HB1.out.new hn2).cell 0
          simp only [List.getElem?_toArray, List.getElem?_cons_zero] at c0 c1
          have HE1 := Lib.hid (fun n => HD3.out (W2.drewN n) (hn2.drewN n))
          have HE2 := Lib.hid (fun n => HD4.out (W2.drewN n) (hn2.drewN n))
          have HN2 := Lib.hid (HN.out.trans hn2)
          have HBa := Lib.hid (HB0.out.new hn2)
          have HBb := Lib.hid (HB1.out.new hn2)
          go_quiet (first
            | (with_reducible exact Calls.quiet_of_same (HE2.out _))
            | (with_reducible exact Calls.quiet_of_same (HE1.out _)))
          go_wp2
          go_roundw
          case rel => exact ⟨i, by go_num, by omega, (by first | exact HQ1.out rfl | exact HQ1.out trivial), HN2.out.drewN _, HBa.out.new ((New.refl _).drewN _), HBb.out.new ((New.refl _).drewN _)⟩
          case measure => (simp [intOf]; try omega)
      · obtain rfl : k = 0 := by omega
        have hxy := rcmp_eq (fun j => HE.out j (Nat.zero_le _))
        subst hxy
        clear HE
        go_wp2
        go_ret
        exact ⟨by rw [cmpN_eq]; rfl, HN.out⟩
  · go_enter Tryz.func21, Tryz.ntmps21
    go_wp2
    obtain ⟨W0, hW0⟩ : ∃ X, X = (w.alloc (.cells #[.slice A l c] 29)).alloc (.cells #[.slice A' l' c'] 29) := ⟨_, rfl⟩
    have HN0 : Hid (New w W0) := Lib.hid (by rw [hW0]; exact ((New.refl w).alloc _).alloc _)
    have HB0 : Hid (Box W0 w.heap.size #[.slice A l c] 29) := Lib.hid (by rw [hW0]; exact ((Box.last w _ _).alloc _))
    have HB1 : Hid (Box W0 (w.heap.size + 1) #[.slice A' l' c'] 29) := Lib.hid (by rw [hW0]; exact (Box.last2 w _ _ _))
    rw [← hW0]
    clear hW0
    go_loopw [5] (fun v5 w' => ∃ k : Nat, v5 = .int .i64 ((k : Int) - 1) ∧ k ≤ m ∧ Hid (∀ j, k ≤ j → (dg B9 x).getD j 0 = (dg B9 y).getD j 0) ∧ Hid (New w w') ∧ Hid (Box w' w.heap.size #[.slice A l c] 29) ∧ Hid (Box w' (w.heap.size + 1) #[.slice A' l' c'] 29)) (fun v5 _ => (intOf v5 + 1).toNat)
    case atStart =>
      have hM := HM.out
      obtain ⟨mm, hmm⟩ : ∃ mm : Nat, mm = m := ⟨_, rfl⟩
      exact ⟨mm, by (have : (mm : Int) = max (l : Int) (l' : Int) := by omega); (first | (rw [this]; congr 2; omega) | (congr 2; omega)), by omega, by rw [hmm]; exact HZ.out, HN0.out, HB0.out, HB1.out⟩
    case round =>
      clear HN0 HB0 HB1
      obtain ⟨k, rfl, hk, HE, HN, HB0, HB1⟩ := hrel
      by_cases h0 : 0 < k
      · obtain ⟨i, rfl⟩ : ∃ i, k = i + 1 := ⟨k - 1, by omega⟩
        have hi1 : ((i + 1 : Nat) : Int) - 1 = (i : Int) := by omega
        have hdlt : (dg B9 x).getD i 0 < (dg B9 y).getD i 0 → x < y := rcmp_lt HE.out
        have hdgt : (dg B9 y).getD i 0 < (dg B9 x).getD i 0 → y < x := rcmp_lt fun j hj => (HE.out j hj).symm
        have heq : (dg B9 x).getD i 0 = (dg B9 y).getD i 0 → ∀ j, i ≤ j → (dg B9 x).getD j 0 = (dg B9 y).getD j 0 := fun he j hj => by
          by_cases hij : i = j
          · subst hij; exact he
          · exact HE.out j (by omega)
        have HD1 := Lib.hid (fun n => digit_c (HX.out.new (HN.out.drewN n)) i)
        have HD2 := Lib.hid (fun n => digit_c (HY.out.new (HN.out.drewN n)) i)
        have HD3 := Lib.hid (fun W (h : New wr W) => digit_c (HX.out.new (HN.out.trans h)) i)
        have HD4 := Lib.hid (fun W (h : New wr W) => digit_c (HY.out.new (HN.out.trans h)) i)
        have HL1 := Lib.hid hdlt
        have HG1 := Lib.hid hdgt
        have HQ1 := Lib.hid heq
        clear hdlt hdgt heq HE
        generalize (dg B9 x).getD i 0 = dx at *
        generalize (dg B9 y).getD i 0 = dy at *
        rw [hi1]
        have c0 := HB0.out.cell 0
        have c1 := HB1.out.cell 0
        simp only [List.getElem?_toArray, List.getElem?_cons_zero] at c0 c1
        have hd3 : dx < dy ∨ dy < dx ∨ dx = dy := by omega
        rcases hd3 with hd | hd | hd
        · go_wp2
          go_quiet (first
            | (with_reducible exact Calls.quiet_of_same (HD2.out _))
            | (with_reducible exact Calls.quiet_of_same (HD1.out _)))
          go_wp2
          go_ret
          exact ⟨by rw [cmpN_lt (HL1.out hd)]; rfl, HN.out.drewN _⟩
        · go_wp2
          go_quiet (first
            | (with_reducible exact Calls.quiet_of_same (HD2.out _))
            | (with_reducible exact Calls.quiet_of_same (HD1.out _)))
          go_wp2
          obtain ⟨W2, hW2⟩ : ∃ X, X = wr.drewN nq := ⟨_, rfl⟩
          have hn2 : New wr W2 := by rw [hW2]; exact (New.refl _).drewN _
          rw [← hW2]
          clear hW2 c0 c1
          have c0 := (HB0.out.new hn2).cell 0
          have c1 := (HB1.out.new hn2).cell 0
          simp only [List.getElem?_toArray, List.getElem?_cons_zero] at c0 c1
          have HE1 := Lib.hid (fun n => HD3.out (W2.drewN n) (hn2.drewN n))
          have HE2 := Lib.hid (fun n => HD4.out (W2.drewN n) (hn2.drewN n))
          have HN2 := Lib.hid (HN.out.trans hn2)
          go_quiet (first
            | (with_reducible exact Calls.quiet_of_same (HE2.out _))
            | (with_reducible exact Calls.quiet_of_same (HE1.out _)))
          go_wp2
          go_ret
          exact ⟨by rw [cmpN_gt (HG1.out hd)]; rfl, HN2.out.drewN _⟩
        · subst hd
          go_wp2
          go_quiet (first
            | (with_reducible exact Calls.quiet_of_same (HD2.out _))
            | (with_reducible exact Calls.quiet_of_same (HD1.out _)))
          go_wp2
          obtain ⟨W2, hW2⟩ : ∃ X, X = wr.drewN nq := ⟨_, rfl⟩
          have hn2 : New wr W2 := by rw [hW2]; exact (New.refl _).drewN _
          rw [← hW2]
          clear hW2 c0 c1
          have c0 := (HB0.out.new hn2).cell 0
          have c1 := (HB1.out.new hn2).cell 0
          simp only [List.getElem?_toArray, List.getElem?_cons_zero] at c0 c1
          have HE1 := Lib.hid (fun n => HD3.out (W2.drewN n) (hn2.drewN n))
          have HE2 := Lib.hid (fun n => HD4.out (W2.drewN n) (hn2.drewN n))
          have HN2 := Lib.hid (HN.out.trans hn2)
          have HBa := Lib.hid (HB0.out.new hn2)
          have HBb := Lib.hid (HB1.out.new hn2)
          go_quiet (first
            | (with_reducible exact Calls.quiet_of_same (HE2.out _))
            | (with_reducible exact Calls.quiet_of_same (HE1.out _)))
          go_wp2
          go_roundw
          case rel => exact ⟨i, by go_num, by omega, (by first | exact HQ1.out rfl | exact HQ1.out trivial), HN2.out.drewN _, HBa.out.new ((New.refl _).drewN _), HBb.out.new ((New.refl _).drewN _)⟩
          case measure => (simp [intOf]; try omega)
      · obtain rfl : k = 0 := by omega
        have hxy := rcmp_eq (fun j => HE.out j (Nat.zero_le _))
        subst hxy
        clear HE
        go_wp2
        go_ret
        exact ⟨by rw [cmpN_eq]; rfl, HN.out⟩
  · subst hcs
    go_enter Tryz.func21, Tryz.ntmps21
    go_wp2
    obtain ⟨W0, hW0⟩ : ∃ X, X = (w.alloc (.cells #[.slice A l c] 29)).alloc (.cells #[.slice A' l c'] 29) := ⟨_, rfl⟩
    have HN0 : Hid (New w W0) := Lib.hid (by rw [hW0]; exact ((New.refl w).alloc _).alloc _)
    have HB0 : Hid (Box W0 w.heap.size #[.slice A l c] 29) := Lib.hid (by rw [hW0]; exact ((Box.last w _ _).alloc _))
    have HB1 : Hid (Box W0 (w.heap.size + 1) #[.slice A' l c'] 29) := Lib.hid (by rw [hW0]; exact (Box.last2 w _ _ _))
    rw [← hW0]
    clear hW0
    go_loopw [5] (fun v5 w' => ∃ k : Nat, v5 = .int .i64 ((k : Int) - 1) ∧ k ≤ m ∧ Hid (∀ j, k ≤ j → (dg B9 x).getD j 0 = (dg B9 y).getD j 0) ∧ Hid (New w w') ∧ Hid (Box w' w.heap.size #[.slice A l c] 29) ∧ Hid (Box w' (w.heap.size + 1) #[.slice A' l c'] 29)) (fun v5 _ => (intOf v5 + 1).toNat)
    case atStart =>
      have hM := HM.out
      obtain ⟨mm, hmm⟩ : ∃ mm : Nat, mm = m := ⟨_, rfl⟩
      exact ⟨mm, by (have : (mm : Int) = max (l : Int) (l : Int) := by omega); (first | (rw [this]; congr 2; omega) | (congr 2; omega)), by omega, by rw [hmm]; exact HZ.out, HN0.out, HB0.out, HB1.out⟩
    case round =>
      clear HN0 HB0 HB1
      obtain ⟨k, rfl, hk, HE, HN, HB0, HB1⟩ := hrel
      by_cases h0 : 0 < k
      · obtain ⟨i, rfl⟩ : ∃ i, k = i + 1 := ⟨k - 1, by omega⟩
        have hi1 : ((i + 1 : Nat) : Int) - 1 = (i : Int) := by omega
        have hdlt : (dg B9 x).getD i 0 < (dg B9 y).getD i 0 → x < y := rcmp_lt HE.out
        have hdgt : (dg B9 y).getD i 0 < (dg B9 x).getD i 0 → y < x := rcmp_lt fun j hj => (HE.out j hj).symm
        have heq : (dg B9 x).getD i 0 = (dg B9 y).getD i 0 → ∀ j, i ≤ j → (dg B9 x).getD j 0 = (dg B9 y).getD j 0 := fun he j hj => by
          by_cases hij : i = j
          · subst hij; exact he
          · exact HE.out j (by omega)
        have HD1 := Lib.hid (fun n => digit_c (HX.out.new (HN.out.drewN n)) i)
        have HD2 := Lib.hid (fun n => digit_c (HY.out.new (HN.out.drewN n)) i)
        have HD3 := Lib.hid (fun W (h : New wr W) => digit_c (HX.out.new (HN.out.trans h)) i)
        have HD4 := Lib.hid (fun W (h : New wr W) => digit_c (HY.out.new (HN.out.trans h)) i)
        have HL1 := Lib.hid hdlt
        have HG1 := Lib.hid hdgt
        have HQ1 := Lib.hid heq
        clear hdlt hdgt heq HE
        generalize (dg B9 x).getD i 0 = dx at *
        generalize (dg B9 y).getD i 0 = dy at *
        rw [hi1]
        have c0 := HB0.out.cell 0
        have c1 := HB1.out.cell 0
        simp only [List.getElem?_toArray, List.getElem?_cons_zero] at c0 c1
        have hd3 : dx < dy ∨ dy < dx ∨ dx = dy := by omega
        rcases hd3 with hd | hd | hd
        · go_wp2
          go_quiet (first
            | (with_reducible exact Calls.quiet_of_same (HD2.out _))
            | (with_reducible exact Calls.quiet_of_same (HD1.out _)))
          go_wp2
          go_ret
          exact ⟨by rw [cmpN_lt (HL1.out hd)]; rfl, HN.out.drewN _⟩
        · go_wp2
          go_quiet (first
            | (with_reducible exact Calls.quiet_of_same (HD2.out _))
            | (with_reducible exact Calls.quiet_of_same (HD1.out _)))
          go_wp2
          obtain ⟨W2, hW2⟩ : ∃ X, X = wr.drewN nq := ⟨_, rfl⟩
          have hn2 : New wr W2 := by rw [hW2]; exact (New.refl _).drewN _
          rw [← hW2]
          clear hW2 c0 c1
          have c0 := (HB0.out.new hn2).cell 0
          have c1 := (HB1.out.new hn2).cell 0
          simp only [List.getElem?_toArray, List.getElem?_cons_zero] at c0 c1
          have HE1 := Lib.hid (fun n => HD3.out (W2.drewN n) (hn2.drewN n))
          have HE2 := Lib.hid (fun n => HD4.out (W2.drewN n) (hn2.drewN n))
          have HN2 := Lib.hid (HN.out.trans hn2)
          go_quiet (first
            | (with_reducible exact Calls.quiet_of_same (HE2.out _))
            | (with_reducible exact Calls.quiet_of_same (HE1.out _)))
          go_wp2
          go_ret
          exact ⟨by rw [cmpN_gt (HG1.out hd)]; rfl, HN2.out.drewN _⟩
        · subst hd
          go_wp2
          go_quiet (first
            | (with_reducible exact Calls.quiet_of_same (HD2.out _))
            | (with_reducible exact Calls.quiet_of_same (HD1.out _)))
          go_wp2
          obtain ⟨W2, hW2⟩ : ∃ X, X = wr.drewN nq := ⟨_, rfl⟩
          have hn2 : New wr W2 := by rw [hW2]; exact (New.refl _).drewN _
          rw [← hW2]
          clear hW2 c0 c1
          have c0 := (HB0.out.new hn2).cell 0
          have c1 := (HB1.out.new hn2).cell 0
          simp only [List.getElem?_toArray, List.getElem?_cons_zero] at c0 c1
          have HE1 := Lib.hid (fun n => HD3.out (W2.drewN n) (hn2.drewN n))
          have HE2 := Lib.hid (fun n => HD4.out (W2.drewN n) (hn2.drewN n))
          have HN2 := Lib.hid (HN.out.trans hn2)
          have HBa := Lib.hid (HB0.out.new hn2)
          have HBb := Lib.hid (HB1.out.new hn2)
          go_quiet (first
            | (with_reducible exact Calls.quiet_of_same (HE2.out _))
            | (with_reducible exact Calls.quiet_of_same (HE1.out _)))
          go_wp2
          go_roundw
          case rel => exact ⟨i, by go_num, by omega, (by first | exact HQ1.out rfl | exact HQ1.out trivial), HN2.out.drewN _, HBa.out.new ((New.refl _).drewN _), HBb.out.new ((New.refl _).drewN _)⟩
          case measure => (simp [intOf]; try omega)
      · obtain rfl : k = 0 := by omega
        have hxy := rcmp_eq (fun j => HE.out j (Nat.zero_le _))
        subst hxy
        clear HE
        go_wp2
        go_ret
        exact ⟨by rw [cmpN_eq]; rfl, HN.out⟩
end Go.Proofs.YtkjlmibleoecgaaGreatDoor
