/- The reference of nat, part 9: small. -/
import Derived.Test.YtkjlmibleoecgaaGreatDoorRef5
import Derived.Test.YtkjlmibleoecgaaGreatDoorRef6
namespace Go.Proofs.YtkjlmibleoecgaaGreatDoor
set_option linter.unusedSimpArgs false
set_option linter.unusedVariables false
open Go.RowKit
/-- What holds in small's loop. -/
structure RSm (xs : List Nat) (n m k q : Nat) (L : List Nat) : Prop where
  len : L.length = k
  lt : ∀ d ∈ L, d < B9
  carry : q < B9
  sum : val B9 L + B9 ^ k * q = n * val B9 (xs.take k) + m
theorem RSm.step {xs L : List Nat} {n m k q : Nat} (h : RSm xs n m k q L) (hn : n < B9) (hx : xs.getD k 0 < B9) : RSm xs n m (k + 1) ((q + xs.getD k 0 * n) / B9) (L ++ [(q + xs.getD k 0 * n) % B9]) := by
  have hc := h.carry
  refine ⟨by simp [h.len], fun d hd => ?_, ?_, ?_⟩
  · rcases List.mem_append.1 hd with hd | hd
    · exact h.lt d hd
    · simp at hd; subst hd; exact Nat.mod_lt _ (by rw [B9_eq]; omega)
  · rw [Nat.div_lt_iff_lt_mul (by rw [B9_eq]; omega)]
    have : xs.getD k 0 * n ≤ (B9 - 1) * (B9 - 1) := Nat.mul_le_mul (by omega) (by omega)
    rw [B9_eq] at *
    omega
  · rw [val_snoc, h.len, val_take_succ _ xs, Nat.pow_succ]
    have h1 := h.sum
    have e := Nat.div_add_mod (q + xs.getD k 0 * n) B9
    generalize (q + xs.getD k 0 * n) / B9 = a at *
    generalize (q + xs.getD k 0 * n) % B9 = r at *
    have e1 : B9 ^ k * (B9 * a + r) = B9 ^ k * (q + xs.getD k 0 * n) := by rw [e]
    have e2 : n * (B9 ^ k * xs.getD k 0) = B9 ^ k * (xs.getD k 0 * n) := by rw [Nat.mul_left_comm, Nat.mul_comm n]
    simp only [Nat.mul_add, ← Nat.mul_assoc] at e1 e2 ⊢
    omega
theorem RSm.done {x n m k q : Nat} {L : List Nat} (h : RSm (dg B9 x) n m k q L) (hk : (dg B9 x).length ≤ k) : (∀ d ∈ L ++ [q], d < B9) ∧ val B9 (L ++ [q]) = x * n + m := by
  refine ⟨fun d hd => ?_, ?_⟩
  · rcases List.mem_append.1 hd with hd | hd
    · exact h.lt d hd
    · simp at hd; subst hd; exact h.carry
  · have h1 := h.sum
    rw [List.take_of_length_le hk, dg_val B9_2] at h1
    rw [val_snoc, h.len, h1, Nat.mul_comm]
set_option maxRecDepth 100000 in
set_option maxHeartbeats 4000000 in
theorem rsmall_c {x n m : Nat} {u : Value} {w : World} (hx : RefV w u x) (hn : n < B9) (hm : m < B9) (hl : (dg B9 x).length ≤ 1000000) :
    Calls Tryz.prog 79 #[u, .int .i64 (n : Int), .int .i64 (m : Int)] w fun e w' => ∃ v, e = .returned v ∧ RefV w' v (x * n + m) ∧ New w w' := by
  obtain ⟨A, l, c, rfl⟩ := hx.form
  have hll : l = (dg B9 x).length := by obtain ⟨_, e, A1, c1, rfl, _⟩ := hx; simp at e; omega
  obtain ⟨A1, c1, e1, _, _, hr⟩ := hx.sl
  obtain ⟨rfl, -, rfl⟩ : A1 = A ∧ (dg B9 x).length = l ∧ c1 = c := by injection e1 with a b c; exact ⟨a.symm, b.symm, c.symm⟩
  have HL := Lib.hid hll
  have HR := Lib.hid hr
  have hl3 : l ≤ 1000000 := by omega
  have hn9 : n < 1000000000 := by rw [B9_eq] at hn; exact hn
  have hm9 : m < 1000000000 := by rw [B9_eq] at hm; exact hm
  have HN9 := Lib.hid hn
  have HM9 := Lib.hid hm
  clear hx hll hl hr hn hm e1
  go_enter Tryz.func79, Tryz.ntmps79
  go_wp2
  obtain ⟨W0, hW0⟩ : ∃ X, X = ((w.alloc (.cells #[.slice A1 l c1] RNat)).alloc (.cells #[.slice none 0 0] RNat)).alloc (.cells #[] 3) := ⟨_, rfl⟩
  have HN0 : Hid (New w W0) := Lib.hid (by rw [hW0]; exact (((New.refl w).alloc _).alloc _).alloc _)
  have HB0 : Hid (Box W0 w.heap.size #[.slice A1 l c1] RNat) := Lib.hid (by rw [hW0]; exact ((Box.last w _ _).alloc _).alloc _)
  have HB2 : Hid (Box W0 (w.heap.size + 1) #[.slice none 0 0] RNat) := Lib.hid (by rw [hW0]; exact (Box.last2 w _ _ _).alloc _)
  have HO0 : Hid (OwnE encI 3 w.heap.size W0 (.slice (some ⟨w.heap.size + 1 + 1, 0, none⟩) 0 0) []) := Lib.hid (by
    rw [hW0]
    have := Box.last ((w.alloc (.cells #[.slice A1 l c1] RNat)).alloc (.cells #[.slice none 0 0] RNat)) #[] 3
    rw [World.size_alloc, World.size_alloc] at this
    exact OwnE.of_box (xs := []) this (by omega) (by decide))
  rw [← hW0]
  clear hW0
  go_loopw [2, 7, 8] (fun v2 v7 v8 w' => ∃ (k q : Nat) (L : List Nat) (A5 : Option Addr) (c5 : Nat), v7 = .slice A5 L.length c5 ∧ v2 = .int .i64 (q : Int) ∧ v8 = .int .i64 (k : Int) ∧ k ≤ l ∧ q < 1000000000 ∧ Hid (L.length = k) ∧ Hid (RSm (dg B9 x) n m k q L) ∧ Hid (OwnE encI 3 w.heap.size w' (.slice A5 L.length c5) L) ∧ Hid (Box w' w.heap.size #[.slice A1 l c1] RNat) ∧ Hid (Box w' (w.heap.size + 1) #[.slice none 0 0] RNat) ∧ Hid (New w w')) (fun _ _ v8 _ => l - (intOf v8).toNat)
  case atStart => exact ⟨0, m, [], _, _, rfl, rfl, rfl, by omega, hm9, (rfl : [].length = 0), (⟨rfl, by simp, HM9.out, by simp [val]⟩ : RSm _ _ _ 0 m []), HO0.out, HB0.out, HB2.out, HN0.out⟩
  case round =>
    obtain ⟨k, q, L, A5, c5, rfl, rfl, rfl, hk, hq, HLN, HI, HO, HB0, HB2, HN⟩ := hrel
    have c0 := HB0.out.cell 0
    simp only [List.getElem?_toArray, List.getElem?_cons_zero] at c0
    by_cases hkl : k < l
    · obtain ⟨b, o, C, fr, rfl, hbl, hcell⟩ := HR.out k (by rw [← HL.out]; exact hkl)
      have hst := HI.out.step HN9.out (getD_lt9 x k)
      have hcr := HN.out.still hcell
      have b1 := getD_lt9 x k
      generalize (dg B9 x).getD k 0 = dx at *
      have b3 : dx < 1000000000 := by rw [B9_eq] at b1; exact b1
      have hmul : (dx : Int) * (n : Int) = ((dx * n : Nat) : Int) := (Int.natCast_mul _ _).symm
      have hpl : dx * n ≤ 999999999 * 999999999 := Nat.mul_le_mul (by omega) (by omega)
      generalize dx * n = p at *
      have e1 : ((q : Int) + (p : Int)).tmod 1000000000 = (((q + p) % B9 : Nat) : Int) := by rw [B9_eq, Int.tmod_eq_emod_of_nonneg (by omega)]; omega
      have e2 : ((q : Int) + (p : Int)).tdiv 1000000000 = (((q + p) / B9 : Nat) : Int) := by rw [B9_eq, Int.tdiv_eq_ediv_of_nonneg (by omega)]; omega
      have e3 : ((q : Int) + (p : Int)) % 1000000000 = (((q + p) % B9 : Nat) : Int) := by rw [B9_eq]; omega
      have e4 : ((q : Int) + (p : Int)) / 1000000000 = (((q + p) / B9 : Nat) : Int) := by rw [B9_eq]; omega
      have hz : (q + p) / B9 < 1000000000 := by have := hst.carry; rw [B9_eq] at this ⊢; exact this
      generalize (q + p) / B9 = qq at *
      generalize (q + p) % B9 = rr at *
      have HST := Lib.hid hst
      clear hst b1 hbl hcell
      have HLL : Hid (L.length ≤ 2000000) := Lib.hid (by rw [HLN.out]; omega)
      have HCX := Lib.hid ((Box.last wr #[encI rr] 3).cell 0)
      have HOWN := Lib.hid (HO.out.new ((New.refl wr).alloc (.cells #[encI rr] 3)))
      have HNN := Lib.hid (HN.out.alloc (.cells #[encI rr] 3))
      go_wp2_with (at_builtin; refine app_own2 encI w _ rfl _ _ 27 3 rfl (.int .i64 0) 8 (by kernel_rfl) info_int rfl (by decide) _ L rfl HNN.out HOWN.out _ _ _ rr rfl HCX.out rfl (by have := HLL.out; omega) ?_)
      intro A6 c6 w3 hown3 hn3 hkept hsz3
      have HB0' := Lib.hid (hkept _ _ _ _ _ (HB0.out.alloc (.cells #[encI rr] 3)) (by decide))
      have HB2' := Lib.hid (hkept _ _ _ _ _ (HB2.out.alloc (.cells #[encI rr] 3)) (by decide))
      have HO4 := Lib.hid hown3
      have HN4 := Lib.hid hn3
      clear hown3 hn3 hkept hsz3 HCX HOWN HNN c0 hcr
      go_wp2
      go_roundw
      case rel => exact ⟨k + 1, qq, L ++ [rr], A6, c6, by simp, by go_num, by go_num, by omega, hz, by rw [List.length_append, HLN.out]; rfl, HST.out, by rw [List.length_append]; exact HO4.out, HB0'.out, HB2'.out, HN4.out⟩
      case measure => simp [intOf]; omega
    · have hk2 : k = l := by omega
      have hfin := HI.out.done (by rw [← HL.out]; omega)
      have HF := Lib.hid hfin
      have HLL : Hid (L.length ≤ 2000000) := Lib.hid (by rw [HLN.out]; omega)
      have HCX := Lib.hid ((Box.last wr #[encI q] 3).cell 0)
      have HOWN := Lib.hid (HO.out.new ((New.refl wr).alloc (.cells #[encI q] 3)))
      have HNN := Lib.hid (HN.out.alloc (.cells #[encI q] 3))
      have hka : ¬ (k : Int) < (l : Int) := by omega
      clear hfin hk2
      go_wp2_with (at_builtin; refine app_own2 encI w _ rfl _ _ 27 3 rfl (.int .i64 0) 8 (by kernel_rfl) info_int rfl (by decide) _ L rfl HNN.out HOWN.out _ _ _ q rfl HCX.out rfl (by have := HLL.out; omega) ?_)
      intro A6 c6 w3 hown3 hn3 hkept hsz3
      have HB2' := Lib.hid (hkept _ _ _ _ _ (HB2.out.alloc (.cells #[encI q] 3)) (by decide))
      have HN4 := Lib.hid hn3
      have hsl := hown3.sl
      have HT := Lib.hid (rtrim_c hsl)
      clear hown3 hn3 hkept hsz3 HCX HOWN HNN c0 hsl
      go_wp2_with fail
      refine HT.out.mono ?_
      rintro e w4 ⟨v, rfl, hv4, hn4⟩
      have hv := RefV.of_sl hv4 HF.out.1
      rw [HF.out.2] at hv
      obtain ⟨A7, l7, c7, e7⟩ := hv.form
      obtain rfl : v = .slice A7 l7 c7 := by simpa using e7
      have hb : Box w4 (w.heap.size + 1) #[.slice none 0 0] RNat := hn4.block HB2'.out
      have hc := hb.cell 0
      have hf := hb.frozen 0
      have HV := Lib.hid (hv.set hb (by decide) (i := 0) (.slice A7 l7 c7))
      have HZ := Lib.hid (hb.set 0 (.slice A7 l7 c7) |>.cell 0)
      have HNZ := Lib.hid ((HN4.out.trans hn4).setCell (p := ⟨w.heap.size + 1, 0, none⟩) (by show _ ≤ w.heap.size + 1; omega) (.slice A7 l7 c7))
      clear hv hv4 hn4 hb e7
      go_wp2
      have hz := HZ.out
      refine bodyPost_ret (v := .agg #[.slice A7 l7 c7]) (by simp [results, Tryz.results79, go_sem, hz]) rfl ⟨_, rfl, HV.out, HNZ.out⟩
end Go.Proofs.YtkjlmibleoecgaaGreatDoor
