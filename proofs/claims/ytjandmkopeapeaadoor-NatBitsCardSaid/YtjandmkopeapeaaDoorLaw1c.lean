/- The laws of 01: NatBits, walked. -/
import Derived.Test.YtjandmkopeapeaaDoorLaw1b
import Derived.Test.YtjandmkopeapeaaDoorNat7
import Derived.Test.YtjandmkopeapeaaDoorK4
namespace Go.Proofs.YtjandmkopeapeaaDoor
open Go.RowKit
set_option linter.unusedSimpArgs false
set_option exponentiation.threshold 10000
set_option linter.unusedVariables false

theorem num_pos {s : ByteArray} (hi : isNum s.data.toList = true) (h : ¬ s.toList = [48]) : 0 < pNum s.data.toList := by
  have hp : pNum s.data.toList = numL s.data.toList := by unfold pNum; rw [if_pos hi]
  rw [hp]
  rw [Lib.toList_data] at h
  generalize s.data.toList = l at *
  unfold isNum at hi
  simp only [Bool.and_eq_true, Bool.or_eq_true] at hi
  obtain ⟨⟨h1, h2⟩, h3⟩ := hi
  have hne : l ≠ [] := by rintro rfl; simp at h1
  refine numL_pos hne h2 ?_
  rcases h3 with h3 | h3
  · simpa using h3
  · intro h4
    cases l with
    | nil => exact hne rfl
    | cons a r =>
      have : r = [] := by simpa using h3
      subst this
      have : a = 48 := by simpa using h4
      exact h (by rw [this])
theorem num_lt {s : ByteArray} (h : s.size ≤ 1024) (hi : isNum s.data.toList = true) : pNum s.data.toList < 2 ^ 4096 := by
  have hp : pNum s.data.toList = numL s.data.toList := by unfold pNum; rw [if_pos hi]
  rw [hp]
  have hd : s.data.toList.all dig = true := by
    unfold isNum at hi
    simp only [Bool.and_eq_true] at hi
    exact hi.1.2
  have h1 := numL_lt hd
  rw [← Lib.size_eq] at h1
  have h2 : 10 ^ s.size ≤ 10 ^ 1024 := Nat.pow_le_pow_right (by omega) h
  have h3 : (10 : Nat) ^ 1024 ≤ 16 ^ 1024 := Nat.pow_le_pow_left (by omega) _
  have h4 : (16 : Nat) ^ 1024 = 2 ^ 4096 := by rw [show (16 : Nat) = 2 ^ 4 from rfl, ← Nat.pow_mul]
  omega
theorem len_of_lt {x k : Nat} (h : x < 2 ^ k) : (dg B32 x).length ≤ k := by
  refine dg_len B32_2 (Nat.lt_of_lt_of_le h ?_)
  exact Nat.pow_le_pow_left (by rw [B32_eq]; omega) _

set_option maxRecDepth 100000 in
set_option maxHeartbeats 4000000 in
theorem natBits_walk (s : ByteArray) (w : World) :
    Calls Tryd.prog 4 #[.string s] w fun e w' => e = .returned (.bool true) ∧ Below w.heap.size w w' := by
  by_cases hs : 1024 < s.size
  · have hs' : (1024 : Int) < (s.size : Int) := by omega
    go_enter Tryd.func4, Tryd.ntmps4
    go_wp2
    go_ret
    exact ⟨rfl, New.refl w⟩
  · have hs' : ¬ (1024 : Int) < (s.size : Int) := by omega
    have H1 := Lib.hid (fun W => number_c s W (by omega))
    go_enter Tryd.func4, Tryd.ntmps4
    go_wp2_with fail
    refine (H1.out _).mono ?_
    rintro e w1 ⟨v1, u1, rfl, hv1, hu1, hn1⟩
    obtain ⟨A1, l1, c1, rfl⟩ := hv1.form
    obtain ⟨B1, m1, d1, rfl⟩ := hu1.form
    have T1 := Lib.hid (Two.last hv1 hu1)
    have HN1 := Lib.hid (hn1.alloc (.cells #[.slice A1 l1 c1] 26) |>.alloc (.cells #[.slice B1 m1 d1] 29))
    have hx3 := T1.out.bx.cell 0
    clear hv1 hu1 hn1 H1
    cases i1 : isNum s.data.toList with
    | false => go_wp2_with fail; go_ret; exact ⟨rfl, HN1.out⟩
    | true =>
      have hlt := num_lt (by omega) i1
      have hpos := num_pos i1
      have hz0 : s.toList = [48] → pNum s.data.toList = 0 := fun h => by
        rw [← Lib.toList_data, h]; rfl
      generalize pNum s.data.toList = x at *
      have hl := len_of_lt hlt
      have HB := Lib.hid (fun W u (hu : NatV W u x) => bits_c hu (by omega))
      have HB2 := Lib.hid (fun W u (hu : NatV W u (x + x)) => bits_c hu (by have := dg_len_add B32_2 x x; omega))
      have HA := Lib.hid (fun W u v (hu : NatV W u x) (hv : NatV W v x) => add_c hu hv (by omega) (by omega))
      go_wp2_with fail
      generalize hW : (w1.alloc (.cells #[.slice A1 l1 c1] 26)).alloc (.cells #[.slice B1 m1 d1] 29) = W at *
      generalize hp3 : w1.heap.size = p3 at *
      generalize hq3 : p3 + 1 = q3 at *
      clear hW hp3 hq3
      refine (HB.out _ _ T1.out.nx).mono ?_
      rintro e w2 ⟨rfl, hn2⟩
      have T2 := Lib.hid (T1.out.new hn2)
      have hy3 := T2.out.bx.cell 0
      have HN2 := Lib.hid (HN1.out.trans hn2)
      clear hx3 hn2 T1 HN1
      by_cases hd : s.toList = [48]
      · obtain rfl := hz0 hd
        rw [bitsN_zero]
        go_wp2_with fail
        refine (HA.out _ _ _ T2.out.nx T2.out.nx).mono ?_
        rintro e w3 ⟨v3, rfl, hv3, hn3⟩
        obtain ⟨A3, l3, c3, rfl⟩ := hv3.form
        have HV3 := Lib.hid hv3
        have HN3 := Lib.hid (HN2.out.trans hn3)
        clear hv3 hn3
        go_wp2_with fail
        refine (HB2.out _ _ HV3.out).mono ?_
        rintro e w4 ⟨rfl, hn4⟩
        have HN4 := Lib.hid (HN3.out.trans hn4)
        clear hn4
        rw [show bitsN (0 + 0) = 0 from rfl]
        go_wp2_with fail
        go_ret
        exact ⟨rfl, HN4.out⟩
      · have hd2 : (s.toList == [48]) = false := by rw [beq_eq_false_iff_ne]; exact hd
        have h0 := hpos hd
        obtain ⟨q1, q2, q3⟩ := bitsN_spec h0
        have q4 := bitsN_two h0
        have q5 := bitsN_le hlt
        rw [q4] at HB2
        generalize bitsN x = n at *
        obtain ⟨j, rfl⟩ : ∃ j, n = j + 1 := ⟨n - 1, by omega⟩
        rw [show j + 1 - 1 = j by omega] at q2
        have HQ2 := Lib.hid q2
        have HQ3 := Lib.hid q3
        clear hpos hz0 q1 q2 q3 q4 hlt
        have hjl : j ≤ 4096 := by omega
        go_wp2_with fail
        refine (of_c (n := 1) (by omega) _).mono ?_
        rintro e w3 ⟨v3, rfl, hv3, hn3⟩
        obtain ⟨A3, l3, c3, rfl⟩ := hv3.form
        have hb8 := (Box.last w3 #[.slice A3 l3 c3] 26)
        have hn3' := hn3.alloc (.cells #[.slice A3 l3 c3] 26)
        have T3 := Lib.hid (T2.out.new hn3')
        have HN3 := Lib.hid (HN2.out.trans hn3')
        have HV3 := Lib.hid (hv3.new ((New.refl w3).alloc (.cells #[.slice A3 l3 c3] 26)))
        have HB8 := Lib.hid hb8
        have hlt3 := T2.out.bx.lt
        have hle3 := hn3.le
        have HNE := Lib.hid (show p3 ≠ w3.heap.size by omega)
        have HP8 := Lib.hid (HN2.out.trans hn3).le
        clear hb8 hn3 hn3' hv3 hlt3 hle3
        go_wp2_with fail
        generalize w3.alloc (.cells #[.slice A3 l3 c3] 26) = W3 at *
        refine (of_c (n := 2) (by omega) _).mono ?_
        rintro e w4 ⟨v4, rfl, hv4, hn4⟩
        obtain ⟨A4, l4, c4, rfl⟩ := hv4.form
        have hb9 := (Box.last w4 #[.slice A4 l4 c4] 26)
        have hn4' := hn4.alloc (.cells #[.slice A4 l4 c4] 26)
        have T4 := Lib.hid (T3.out.new hn4')
        have HN4 := Lib.hid (HN3.out.trans hn4')
        have HV8 := Lib.hid (HV3.out.new hn4')
        have HV9 := Lib.hid (hv4.new ((New.refl w4).alloc (.cells #[.slice A4 l4 c4] 26)))
        have HB8' := Lib.hid (HB8.out.new hn4')
        have HB9 := Lib.hid hb9
        have hlt3 := T3.out.bx.lt
        have hlt8 := HB8.out.lt
        have hle4 := hn4.le
        have HNE2 := Lib.hid (show p3 ≠ w4.heap.size ∧ w3.heap.size ≠ w4.heap.size by omega)
        clear hb9 hn4 hn4' hv4 hlt3 hlt8 hle4 T2 T3 HN2 HN3 HV3 HB8
        go_wp2
        generalize w4.alloc (.cells #[.slice A4 l4 c4] 26) = W4 at *
        generalize w3.heap.size = p8 at *
        generalize w4.heap.size = p9 at *
        go_loopw [10] (fun v10 w' => ∃ (k : Nat) (A : Option Addr) (l c : Nat), v10 = .int .i64 ((k : Int) + 1) ∧ k ≤ j ∧ Hid (Two w' p3 q3 A1 l1 c1 B1 m1 d1 x) ∧ Hid (Box w' p8 #[.slice A l c] 26) ∧ Hid (NatV w' (.agg #[.slice A l c]) (2 ^ k)) ∧ Hid (Box w' p9 #[.slice A4 l4 c4] 26) ∧ Hid (NatV w' (.agg #[.slice A4 l4 c4]) 2) ∧ Hid (New w w')) (fun v10 _ => j + 1 - (intOf v10).toNat)
        case atStart => exact ⟨0, A3, l3, c3, rfl, Nat.zero_le _, T4.out, HB8'.out, HV8.out, HB9.out, HV9.out, HN4.out⟩
        case round =>
          obtain ⟨k, A, l, c, rfl, hk, HT, HBA, HVA, HBB, HVB, HNW⟩ := hrel
          have hc3 := HT.out.bx.cell 0
          have hc8 := HBA.out.cell 0
          have hc9 := HBB.out.cell 0
          by_cases hkj : k < j
          · have HM := Lib.hid (mul_c HVA.out HVB.out (by have := len_of_lt (x := 2 ^ k) (k := 5000) (Nat.pow_lt_pow_right (by omega) (by omega)); omega) (by have := len_of_lt (x := 2) (k := 2) (by omega); omega))
            go_wp2_with fail
            refine HM.out.mono ?_
            rintro e W5 ⟨v5, rfl, hv5, hn5⟩
            obtain ⟨A5, l5, c5, rfl⟩ := hv5.form
            have hd8 : W5.cell? ⟨p8, 0, none⟩ = some (.slice A l c) := (HBA.out.new hn5).cell 0
            have hf8 := (HBA.out.new hn5).frozen 0
            have hb5 := HBA.out.new hn5
            have HT5 := HT.out.new hn5
            obtain ⟨ne1, ne2⟩ := HNE2.out
            have T5 : Two (W5.setCell ⟨p8, 0, none⟩ (.slice A5 l5 c5)) p3 q3 A1 l1 c1 B1 m1 d1 x := ⟨HT5.bx.far HNE.out _, HT5.dx.far (fun h => by
              have h1 := HT5.dx
              rw [h] at h1
              have h2 : some (Obj.cells #[.slice B1 m1 d1] 29 (0, 0)) = some (Obj.cells #[.slice A l c] 26 (0, 0)) := (show W5.heap[p8]? = _ from h1).symm.trans hb5
              injection h2 with h2; injection h2 with _ h2 _
              exact absurd h2 (by decide)) _, HT5.nx.set hb5 (by decide) _, HT5.rx.set hb5 (by decide) _⟩
            have HT6 := Lib.hid T5
            have HB6 := Lib.hid (hb5.set 0 (.slice A5 l5 c5))
            have HV6 := Lib.hid (hv5.set hb5 (by decide) (i := 0) (.slice A5 l5 c5))
            have HB7 := Lib.hid ((HBB.out.new hn5).far (p := p8) (i := 0) (fun h => ne2 h.symm) (.slice A5 l5 c5))
            have HV7 := Lib.hid ((HVB.out.new hn5).set hb5 (by decide) (i := 0) (.slice A5 l5 c5))
            have HN6 := Lib.hid ((HNW.out.trans hn5).setCell (p := ⟨p8, 0, none⟩) HP8.out (.slice A5 l5 c5))
            clear hv5 hn5 hb5 HT5 ne1 ne2 T5 hc3 hc8 hc9 HM
            go_wp2
            go_roundw
            case rel => exact ⟨k + 1, A5, l5, c5, by go_num, by omega, HT6.out, HB6.out, HV6.out, HB7.out, HV7.out, HN6.out⟩
            case measure => simp [intOf]; omega
          · obtain rfl : k = j := by omega
            have e2 : 2 ^ k * 2 = 2 ^ (k + 1) := (Nat.pow_succ 2 k).symm
            have hsle : cmpN (2 ^ k) x ≤ 0 := by
              have := HQ2.out
              unfold cmpN; split
              · omega
              · split <;> omega
            have hcm : cmpN x (2 ^ k * 2) = -1 := by
              have := HQ3.out
              rw [e2]
              unfold cmpN; rw [if_pos this]
            have hlk := len_of_lt (x := 2 ^ k) (k := 5000) (Nat.pow_lt_pow_right (by omega) (by omega))
            have hlk2 := len_of_lt (x := 2 ^ k * 2) (k := 5000) (by rw [e2]; exact Nat.pow_lt_pow_right (by omega) (by omega))
            have HC1 := Lib.hid (fun W u v (hu : NatV W u (2 ^ k)) (hv : NatV W v x) => cmp_c hu hv (by omega) (by omega))
            have HC2 := Lib.hid (fun W u v (hu : NatV W u x) (hv : NatV W v (2 ^ k * 2)) => cmp_c hu hv (by omega) (by omega))
            have HM := Lib.hid (fun W u v (hu : NatV W u (2 ^ k)) (hv : NatV W v 2) => mul_c hu hv (by omega) (by have := len_of_lt (x := 2) (k := 2) (by omega); omega))
            have HB3 := Lib.hid (fun W u (hu : NatV W u (2 ^ k)) => bits_c hu (by omega))
            rw [hcm] at HC2
            rw [bitsN_pow] at HB3
            generalize cmpN (2 ^ k) x = s1 at *
            have hw1 : IntKind.i64.wrap ((k : Int) + 1 + 1) = (k : Int) + 1 + 1 := IntWalk.i64_in _ (by omega)
            have HX := HT.out.nx
            have HXA := HVA.out
            have HXB := HVB.out
            clear hcm e2 hlk hlk2 HB HQ2 HQ3 HV8 HV9 HB8' HB9 T4 HN4
            go_wp2
            go_region_held3 (fun V => New wr V ∧ V.cell? ⟨p3, 0, none⟩ = some (.slice A1 l1 c1) ∧ V.cell? ⟨p8, 0, none⟩ = some (.slice A l c) ∧ V.cell? ⟨p9, 0, none⟩ = some (.slice A4 l4 c4))
              (first
                | exact ⟨(New.refl _).drew, by simpa using hc3, by simpa using hc8, by simpa using hc9⟩
                | (go_split_ands; exact ⟨New.trans (by assumption) (by assumption), New.still (by assumption) (by assumption), New.still (by assumption) (by assumption), New.still (by assumption) (by assumption)⟩)
                | (go_split_ands; exact ⟨by assumption, by assumption, by assumption, by assumption⟩))
              ((rw [if_pos (by rfl)]; go_big_op; go_split_ands; first
                | (with_reducible (refine (HA.out _ _ _ (NatV.new HX (by assumption)) (NatV.new HX (by assumption))).mono ?_); rintro e w' ⟨v', rfl, hv', hn⟩; dsimp only)
                | (with_reducible (refine (HC1.out _ _ _ (NatV.new HXA (by assumption)) (NatV.new HX (by assumption))).mono ?_); rintro e w' ⟨rfl, hn⟩; dsimp only)
                | (with_reducible (refine (HM.out _ _ _ (NatV.new HXA (by assumption)) (NatV.new HXB (by assumption))).mono ?_); rintro e w' ⟨v', rfl, hv', hn⟩; dsimp only)
                | (with_reducible (refine (HB3.out _ _ (NatV.new HXA (by assumption))).mono ?_); rintro e w' ⟨rfl, hn⟩; dsimp only)
                | (with_reducible (refine (HB2.out _ _ (by assumption)).mono ?_); rintro e w' ⟨rfl, hn⟩; dsimp only)
                | (with_reducible (refine (HC2.out _ _ _ (NatV.new HX (by assumption)) (by assumption)).mono ?_); rintro e w' ⟨rfl, hn⟩; dsimp only)))
            go_split_ands
            rename_i hN hd3 hd8 hd9
            have HNF := Lib.hid (HNW.out.trans hN)
            clear hN
            go_wp2
            go_ret
            exact ⟨rfl, HNF.out⟩
end Go.Proofs.YtjandmkopeapeaaDoor
