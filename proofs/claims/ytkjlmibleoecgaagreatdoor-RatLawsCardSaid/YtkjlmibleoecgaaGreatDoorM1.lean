/- The reference of nat, part 3: Of, digit, Add. -/
import Derived.Test.YtkjlmibleoecgaaGreatDoorqRef2
import Derived.Test.YtkjlmibleoecgaaGreatDoorM0
import Derived.Deep.RegionHeld3
import Derived.Deep.RegionLaw
import Derived.Test.YtkjlmibleoecgaaGreatDoorShelf
import Derived.BigQuiet
import Derived.Deep.Cut
import Derived.Laws.AppendOwnNone
namespace Go.Proofs.YtkjlmibleoecgaaGreatDoor
set_option linter.unusedSimpArgs false
set_option linter.unusedVariables false
open Go.RowKit
abbrev RNat : TypeId := 29
theorem rof_of {n m : Nat} (h : 0 < m) {ds : List Nat} (e : dg B9 n = ds ++ dg B9 m) : dg B9 n = (ds ++ [m % B9]) ++ dg B9 (m / B9) := by
  rw [e, dg_pos B9_2 h]; simp
set_option maxHeartbeats 2000000 in
theorem rof_c {n : Nat} (hn : n < 18446744073709551616) (w : World) :
    Calls Tryz.prog 86 #[.int .u64 (n : Int)] w fun e w' => ∃ v, e = .returned v ∧ RefV w' v n ∧ New w w' := by
  go_enter Tryz.func86, Tryz.ntmps86
  have hb0 := (Box.last w #[.slice none 0 0] 29)
  go_wp2
  go_loopw [0, 3] (fun v0 v3 w' => ∃ (m : Nat) (ds : List Nat) (A : Option Addr) (c : Nat), v0 = .int .u64 (m : Int) ∧ v3 = .slice A ds.length c ∧ m ≤ n ∧ ds.length ≤ 64 ∧ Hid (dg B9 n = ds ++ dg B9 m) ∧ Hid (OwnE encI 3 w.heap.size w' (.slice A ds.length c) ds) ∧ Hid (Box w' w.heap.size #[.slice none 0 0] 29) ∧ Hid (New w w')) (fun v0 _ _ => (intOf v0).toNat)
  case atStart =>
    refine ⟨n, [], some ⟨w.heap.size + 1, 0, none⟩, 0, rfl, rfl, Nat.le_refl _, by simp, (by simp : dg B9 n = [] ++ dg B9 n), ?_, (hb0.alloc _ : Box _ _ _ _), (((New.refl w).alloc _).alloc _ : New w _)⟩
    exact (OwnE.of_box (xs := []) (Box.last2 w _ #[] 3) (by omega) (by decide) : OwnE encI 3 w.heap.size _ _ _)
  case round =>
    obtain ⟨m, ds, A, c, rfl, rfl, hm, hdl, HD, HO, HB, HN⟩ := hrel
    by_cases h0 : 0 < m
    · have hd2 := rof_of h0 HD.out
      have hdl2 : ds.length < 3 := by
        have h1 := dg_len (b := B9) (n := n) (L := 3) B9_2 (by rw [B9_eq]; omega)
        rw [hd2] at h1
        simp at h1
        omega
      have e1 : (m : Int) % 1000000000 = ((m % B9 : Nat) : Int) := by rw [B9_eq]; omega
      have e2 : (m : Int) / 1000000000 = ((m / B9 : Nat) : Int) := by rw [B9_eq]; omega
      have e3 : Int.tmod (m : Int) 1000000000 = ((m % B9 : Nat) : Int) := by rw [Int.tmod_eq_emod_of_nonneg (by omega), e1]
      have e4 : Int.tdiv (m : Int) 1000000000 = ((m / B9 : Nat) : Int) := by rw [Int.tdiv_eq_ediv_of_nonneg (by omega), e2]
      have hr : m % B9 < 1000000000 := by rw [B9_eq]; omega
      have hqm : m / B9 < m := Nat.div_lt_self h0 (by rw [B9_eq]; omega)
      generalize m % B9 = r at *
      generalize m / B9 = q at *
      have HD2 := Lib.hid hd2
      clear hd2
      have hw : IntKind.u64.wrap (q : Int) = (q : Int) := IntWalk.u64_in _ (by omega)
      have HCX := Lib.hid ((Box.last wr #[encI r] 3).cell 0)
      have HOWN := Lib.hid (HO.out.new ((New.refl wr).alloc (.cells #[encI r] 3)))
      have HNN := Lib.hid (HN.out.alloc (.cells #[encI r] 3))
      go_wp2_with (at_builtin; refine app_own2 encI w _ rfl _ _ 27 3 rfl (.int .i64 0) 8 (by kernel_rfl) info_int rfl (by decide) _ ds rfl HNN.out HOWN.out _ _ _ r rfl HCX.out rfl (by omega) ?_)
      intro A4 c4 w3 hown3 hn3 hkept hsz3
      have HB4 := Lib.hid (hkept _ _ _ _ _ (HB.out.alloc (.cells #[encI r] 3)) (by decide))
      have HO4 := Lib.hid hown3
      have HN4 := Lib.hid hn3
      clear hown3 hn3 hkept hsz3 HCX HOWN HNN
      go_wp2
      go_roundw
      case rel => exact ⟨q, ds ++ [r], A4, c4, by go_num, by simp, by omega, by simp; omega, HD2.out, by rw [List.length_append]; exact HO4.out, HB4.out, HN4.out⟩
      case measure => simp [intOf]; omega
    · obtain rfl : m = 0 := by omega
      have hds : ds = dg B9 n := by have := HD.out; rw [dg_zero, List.append_nil] at this; exact this.symm
      have hc := HB.out.cell 0
      have hf := HB.out.frozen 0
      have hv : RefV wr (.agg #[.slice A ds.length c]) n := ⟨_, rfl, by rw [← hds]; exact HO.out.sl⟩
      have HV := Lib.hid (hv.set HB.out (by decide) (i := 0) (.slice A ds.length c))
      have HZ := Lib.hid (HB.out.set 0 (.slice A ds.length c) |>.cell 0)
      have HNZ := Lib.hid (HN.out.setCell (p := ⟨w.heap.size, 0, none⟩) (Nat.le_refl _) (.slice A ds.length c))
      clear hds hv
      go_wp2
      have hz := HZ.out
      refine bodyPost_ret (v := .agg #[.slice A ds.length c]) (by simp [results, Tryz.results86, go_sem, hz]) rfl ⟨_, rfl, HV.out, HNZ.out⟩
end Go.Proofs.YtkjlmibleoecgaaGreatDoor
/- The program's nat, part 10: Bits. -/
namespace Go.Proofs.YtkjlmibleoecgaaGreatDoor
open Go.RowKit

/-- How many binary digits. -/
def bitsN (x : Nat) : Nat := if x = 0 then 0 else 32 * ((dg B32 x).length - 1) + Lib.bitLen ((dg B32 x).getD ((dg B32 x).length - 1) 0)

theorem bitLenAux_le64 : ∀ (f x : Nat), Lib.bitLenAux f x ≤ f
  | 0, _ => Nat.le_refl _
  | f + 1, x => by
    unfold Lib.bitLenAux
    have := bitLenAux_le64 f (x / 2)
    split <;> omega
theorem bitLen_le (x : Nat) : Lib.bitLen x ≤ 64 := bitLenAux_le64 64 x
set_option maxRecDepth 100000 in
set_option maxHeartbeats 2000000 in
theorem bits_c {x : Nat} {u : Value} {w : World} (hx : NatV w u x) (hl : (dg B32 x).length ≤ 1099511627776) :
    Calls Tryz.prog 22 #[u] w fun e w' => e = .returned (.int .i64 (bitsN x)) ∧ New w w' := by
  obtain ⟨_, rfl, A, c, rfl, hc, hmax, hr⟩ := hx
  have hlt := dg_lt B32_2 x
  have hz : x = 0 ↔ (dg B32 x).length = 0 := by rw [List.length_eq_zero_iff]; exact (dg_nil B32_2).symm
  have hbn : bitsN x = if x = 0 then 0 else 32 * ((dg B32 x).length - 1) + Lib.bitLen ((dg B32 x).getD ((dg B32 x).length - 1) 0) := rfl
  rw [hbn]
  clear hbn
  generalize dg B32 x = xs at *
  by_cases h0 : x = 0
  · have h1 := hz.1 h0
    rw [h1, if_pos h0]
    rw [h1] at hc
    clear hr hlt hz h0
    go_enter Tryz.func22, Tryz.ntmps22
    go_wp2
    go_ret
    exact ⟨rfl, (New.refl w).alloc _⟩
  · have h1 : 0 < xs.length := by have := fun h => h0 (hz.2 h); omega
    rw [if_neg h0]
    obtain ⟨b, o, C, fr, rfl, hbl, hcell⟩ := hr (xs.length - 1) (by omega)
    have hd := hlt _ (getD_mem (d := 0) (show xs.length - 1 < xs.length by omega))
    generalize xs.getD (xs.length - 1) 0 = d at *
    clear hr hlt hz h0 hbl
    generalize xs.length = n at *
    obtain ⟨m, rfl⟩ : ∃ m, n = m + 1 := ⟨n - 1, by omega⟩
    rw [Nat.add_sub_cancel] at *
    have hcx : (w.alloc (.cells #[.slice (some ⟨b, o, none⟩) (m + 1) c] 26)).cell? ⟨b, o + m, none⟩ = some (.int .u32 (d : Int)) := ((New.refl w).alloc _).still hcell
    have hcb : (w.alloc (.cells #[.slice (some ⟨b, o, none⟩) (m + 1) c] 26)).cell? ⟨w.heap.size, 0, none⟩ = some (.slice (some ⟨b, o, none⟩) (m + 1) c) := (Box.last w _ _).cell 0
    have hn : New w (w.alloc (.cells #[.slice (some ⟨b, o, none⟩) (m + 1) c] 26)) := (New.refl w).alloc _
    have hlen := fun W => Tryz.bits_Len32 (d : Int) W (by omega) (by rw [B32_eq] at hd; omega)
    have HLEN := Lib.hid hlen
    have HN := Lib.hid hn
    clear hlen hcell hn
    go_enter Tryz.func22, Tryz.ntmps22
    go_wp2
    generalize w.alloc (.cells #[.slice (some ⟨b, o, none⟩) (m + 1) c] 26) = W at *
    have hm1 : (m : Int) < (m : Int) + 1 := by omega
    have hm2 : (0 : Int) ≤ (m : Int) := by omega
    have hm3 : (m : Int) ≤ 1099511627776 := by omega
    have hb64 : Lib.bitLen (d : Int).toNat ≤ 64 := bitLen_le _
    have hw1 : IntKind.i64.wrap ((m : Int) + 1 - 1) = (m : Int) := by rw [IntWalk.i64_in _ (by omega)]; omega
    have hw2 : IntKind.i64.wrap (m : Int) = (m : Int) := IntWalk.i64_in _ (by omega)
    have hw3 : IntKind.i64.wrap (32 * (m : Int)) = 32 * (m : Int) := IntWalk.i64_in _ (by omega)
    have hw4 : IntKind.i64.wrap (32 * (m : Int) + (Lib.bitLen (d : Int).toNat : Int)) = 32 * (m : Int) + (Lib.bitLen (d : Int).toNat : Int) := IntWalk.i64_in _ (by omega)
    have hw5 : IntKind.i64.wrap (32 * (m : Int) + (Lib.bitLen d : Int)) = 32 * (m : Int) + (Lib.bitLen d : Int) := IntWalk.i64_in _ (by have := bitLen_le d; omega)
    go_region_held3 (fun V => V = W.drew ∧ V.cell? ⟨w.heap.size, 0, none⟩ = some (.slice (some ⟨b, o, none⟩) (m + 1) c) ∧ V.cell? ⟨b, o + m, none⟩ = some (.int .u32 (d : Int)))
      (first
        | exact ⟨rfl, by simpa using hcb, by simpa using hcx⟩
        | (go_split_ands; exact ⟨by assumption, by assumption, by assumption⟩))
      ((rw [if_pos (by rfl)]; go_big_op; go_split_ands; with_reducible (refine (HLEN.out _).mono ?_); rintro e w' ⟨rfl, rfl⟩; dsimp only))
    go_wp2
    go_ret
    exact ⟨rfl, HN.out.drew⟩
end Go.Proofs.YtkjlmibleoecgaaGreatDoor
/- Plain: how many binary digits a number has. -/
namespace Go.Proofs.YtkjlmibleoecgaaGreatDoor
open Go.RowKit

theorem bitLenAux_spec : ∀ (f x : Nat), 0 < x → x < 2 ^ f → 0 < Lib.bitLenAux f x ∧ 2 ^ (Lib.bitLenAux f x - 1) ≤ x ∧ x < 2 ^ Lib.bitLenAux f x
  | 0, x, h0, h => by simp at h; omega
  | f + 1, x, h0, h => by
    unfold Lib.bitLenAux
    rw [if_neg (by omega)]
    by_cases h1 : x = 1
    · subst h1
      have : Lib.bitLenAux f (1 / 2) = 0 := by cases f <;> simp [Lib.bitLenAux]
      rw [this]; simp
    · obtain ⟨a, b, c⟩ := bitLenAux_spec f (x / 2) (by omega) (by rw [Nat.pow_succ] at h; omega)
      generalize Lib.bitLenAux f (x / 2) = k at *
      obtain ⟨j, rfl⟩ : ∃ j, k = j + 1 := ⟨k - 1, by omega⟩
      rw [show j + 1 - 1 = j by omega] at b
      refine ⟨by omega, ?_, ?_⟩
      · rw [show 1 + (j + 1) - 1 = j + 1 by omega, Nat.pow_succ]; omega
      · rw [show 1 + (j + 1) = j + 1 + 1 by omega, Nat.pow_succ 2 (j + 1)]; omega
theorem bitLen_spec {x : Nat} (h0 : 0 < x) (h : x < 2 ^ 64) : 0 < Lib.bitLen x ∧ 2 ^ (Lib.bitLen x - 1) ≤ x ∧ x < 2 ^ Lib.bitLen x := bitLenAux_spec 64 x h0 h
theorem B32_pow (k : Nat) : B32 ^ k = 2 ^ (32 * k) := by rw [B32_eq, Nat.pow_mul]
theorem bitsN_zero : bitsN 0 = 0 := rfl
theorem bitsN_spec {x : Nat} (h0 : 0 < x) : 0 < bitsN x ∧ 2 ^ (bitsN x - 1) ≤ x ∧ x < 2 ^ bitsN x := by
  have hne : dg B32 x ≠ [] := fun h => by rw [dg_nil B32_2] at h; omega
  have hl : 0 < (dg B32 x).length := List.length_pos_iff.2 hne
  have hv := dg_val B32_2 x
  have hlast := dg_last B32_2 x
  have hlt := dg_lt B32_2 x
  unfold bitsN
  rw [if_neg (by omega)]
  generalize dg B32 x = xs at *
  rcases List.eq_nil_or_concat xs with rfl | ⟨l, t, rfl⟩
  · exact absurd rfl hne
  · rw [List.concat_eq_append] at *
    have ht : t ≠ 0 := hlast t (by simp)
    have htl : t < B32 := hlt t (by simp)
    rw [val_snoc] at hv
    have hlow := val_lt (b := B32) (xs := l) (by rw [B32_eq]; omega) (fun d hd => hlt d (by simp [hd]))
    have hg : (l ++ [t]).getD ((l ++ [t]).length - 1) 0 = t := by simp
    rw [hg]
    obtain ⟨a, b, c⟩ := bitLen_spec (x := t) (by omega) (by rw [B32_eq] at htl; omega)
    generalize Lib.bitLen t = k at *
    rw [show (l ++ [t]).length - 1 = l.length by simp, ← hv]
    rw [B32_pow] at *
    obtain ⟨j, rfl⟩ : ∃ j, k = j + 1 := ⟨k - 1, by omega⟩
    rw [show j + 1 - 1 = j by omega] at b
    refine ⟨by omega, ?_, ?_⟩
    · rw [show 32 * l.length + (j + 1) - 1 = 32 * l.length + j by omega, Nat.pow_add]
      exact Nat.le_trans (Nat.mul_le_mul_left _ b) (Nat.le_add_left _ _)
    · rw [Nat.pow_add]
      have : 2 ^ (32 * l.length) * (t + 1) ≤ 2 ^ (32 * l.length) * 2 ^ (j + 1) := Nat.mul_le_mul_left _ (by omega)
      rw [Nat.mul_add] at this
      omega
theorem bitsN_is {x k : Nat} (h1 : 2 ^ k ≤ x) (h2 : x < 2 ^ (k + 1)) : bitsN x = k + 1 := by
  have h0 : 0 < x := Nat.lt_of_lt_of_le (Nat.pow_pos (by omega)) h1
  obtain ⟨a, b, c⟩ := bitsN_spec h0
  have e1 : k < bitsN x := (Nat.pow_lt_pow_iff_right (by omega)).1 (Nat.lt_of_le_of_lt h1 c)
  have e2 : bitsN x - 1 < k + 1 := (Nat.pow_lt_pow_iff_right (by omega)).1 (Nat.lt_of_le_of_lt b h2)
  omega
theorem bitsN_two {x : Nat} (h0 : 0 < x) : bitsN (x + x) = bitsN x + 1 := by
  obtain ⟨a, b, c⟩ := bitsN_spec h0
  generalize bitsN x = k at *
  obtain ⟨j, rfl⟩ : ∃ j, k = j + 1 := ⟨k - 1, by omega⟩
  rw [show j + 1 - 1 = j by omega] at b
  exact bitsN_is (by rw [Nat.pow_succ]; omega) (by rw [Nat.pow_succ 2 (j + 1)]; omega)
theorem bitsN_pow (k : Nat) : bitsN (2 ^ k) = k + 1 := bitsN_is (Nat.le_refl _) (Nat.pow_lt_pow_right (by omega) (by omega))
theorem bitsN_le {x k : Nat} (h : x < 2 ^ k) : bitsN x ≤ k := by
  rcases Nat.eq_zero_or_pos x with rfl | h0
  · rw [bitsN_zero]; omega
  · obtain ⟨a, b, c⟩ := bitsN_spec h0
    have : bitsN x - 1 < k := (Nat.pow_lt_pow_iff_right (by omega)).1 (Nat.lt_of_le_of_lt b h)
    omega
end Go.Proofs.YtkjlmibleoecgaaGreatDoor
/- The reference of nat, part 4: digit, Add. -/
namespace Go.Proofs.YtkjlmibleoecgaaGreatDoor
set_option linter.unusedSimpArgs false
set_option linter.unusedVariables false
open Go.RowKit
theorem RefV.sl {w : World} {u : Value} {n : Nat} (h : RefV w (.agg #[u]) n) : Sl 3 .i64 w u (dg B9 n) := by
  obtain ⟨x, e, h⟩ := h; obtain rfl : u = x := by simpa using e
  exact h
set_option maxHeartbeats 800000 in
theorem digit_c {xs : List Nat} {v : Value} {w : World} (h : Sl 3 .i64 w v xs) (i : Nat) :
    Calls Tryz.prog 89 #[v, .int .i64 (i : Int)] w fun e w' => e = .returned (.int .i64 ((xs.getD i 0 : Nat) : Int)) ∧ w' = w := by
  obtain ⟨A, c, rfl, hc, hm, hr⟩ := h
  have hm0 := hm
  unfold maxLen at hm
  by_cases hi : i < xs.length
  · obtain ⟨b, o, C, fr, rfl, hbl, hcell⟩ := hr i hi
    have hi2 : (i : Int) < (xs.length : Int) := by omega
    generalize xs.getD i 0 = d at *
    clear hr hbl
    go_enter Tryz.func89, Tryz.ntmps89
    go_wp2
    go_ret
    exact ⟨rfl, rfl⟩
  · have hz : xs.getD i 0 = 0 := by rw [List.getD_eq_getElem?_getD, List.getElem?_eq_none (by omega)]; rfl
    rw [hz]
    have hi2 : ¬ (i : Int) < (xs.length : Int) := by omega
    clear hr hz
    go_enter Tryz.func89, Tryz.ntmps89
    go_wp2
    go_ret
    exact ⟨rfl, rfl⟩
/-- What holds in the reference's Add. -/
structure RAdd (xs ys : List Nat) (k c : Nat) (L : List Nat) : Prop where
  len : L.length = k
  lt : ∀ d ∈ L, d < B9
  carry : c ≤ 1
  sum : val B9 L + B9 ^ k * c = val B9 (xs.take k) + val B9 (ys.take k)
theorem RAdd.step {xs ys L : List Nat} {k c : Nat} (h : RAdd xs ys k c L) (hx : xs.getD k 0 < B9) (hy : ys.getD k 0 < B9) : RAdd xs ys (k + 1) ((c + xs.getD k 0 + ys.getD k 0) / B9) (L ++ [(c + xs.getD k 0 + ys.getD k 0) % B9]) := by
  have hc := h.carry
  refine ⟨by simp [h.len], fun d hd => ?_, ?_, ?_⟩
  · rcases List.mem_append.1 hd with hd | hd
    · exact h.lt d hd
    · simp at hd; subst hd; exact Nat.mod_lt _ (by rw [B9_eq]; omega)
  · have : (c + xs.getD k 0 + ys.getD k 0) / B9 < 2 := by rw [Nat.div_lt_iff_lt_mul (by rw [B9_eq]; omega)]; rw [B9_eq] at *; omega
    omega
  · rw [val_snoc, h.len, val_take_succ _ ys, val_take_succ _ xs, Nat.pow_succ]
    have h1 := h.sum
    have e := Nat.div_add_mod (c + xs.getD k 0 + ys.getD k 0) B9
    generalize (c + xs.getD k 0 + ys.getD k 0) / B9 = q at *
    generalize (c + xs.getD k 0 + ys.getD k 0) % B9 = r at *
    have e1 : B9 ^ k * (B9 * q + r) = B9 ^ k * (c + xs.getD k 0 + ys.getD k 0) := by rw [e]
    simp only [Nat.mul_add, ← Nat.mul_assoc] at e1 ⊢
    omega
theorem getD_lt9 (n k : Nat) : (dg B9 n).getD k 0 < B9 := by
  by_cases h : k < (dg B9 n).length
  · exact dg_lt B9_2 n _ (getD_mem h)
  · rw [List.getD_eq_getElem?_getD, List.getElem?_eq_none (by omega), B9_eq]; simp
theorem RAdd.done {x y k c : Nat} {L : List Nat} (h : RAdd (dg B9 x) (dg B9 y) k c L) (hx : (dg B9 x).length ≤ k) (hy : (dg B9 y).length ≤ k) : (∀ d ∈ L ++ [c], d < B9) ∧ val B9 (L ++ [c]) = x + y := by
  refine ⟨fun d hd => ?_, ?_⟩
  · rcases List.mem_append.1 hd with hd | hd
    · exact h.lt d hd
    · simp at hd; subst hd; have := h.carry; rw [B9_eq]; omega
  · have h1 := h.sum
    rw [List.take_of_length_le hx, List.take_of_length_le hy, dg_val B9_2, dg_val B9_2] at h1
    rw [val_snoc, h.len, h1]
set_option maxHeartbeats 2000000 in
set_option maxRecDepth 100000 in
theorem radd_c {x y : Nat} {u v : Value} {w : World} (hx : RefV w u x) (hy : RefV w v y) (hl : (dg B9 x).length ≤ 1000000) (hl2 : (dg B9 y).length ≤ 1000000) :
    Calls Tryz.prog 95 #[u, v] w fun e w' => ∃ v, e = .returned v ∧ RefV w' v (x + y) ∧ New w w' := by
  obtain ⟨A, l, c, rfl⟩ := hx.form
  obtain ⟨A', l', c', rfl⟩ := hy.form
  have hll : l = (dg B9 x).length := by obtain ⟨_, e, A1, c1, rfl, _⟩ := hx; simp at e; omega
  have hll' : l' = (dg B9 y).length := by obtain ⟨_, e, A1, c1, rfl, _⟩ := hy; simp at e; omega
  have HX := Lib.hid hx.sl
  have HY := Lib.hid hy.sl
  have HL := Lib.hid hll
  have HL' := Lib.hid hll'
  have hl3 : l ≤ 1000000 := by omega
  have hl4 : l' ≤ 1000000 := by omega
  clear hx hy hll hll' hl hl2
  go_enter Tryz.func95, Tryz.ntmps95
  go_wp2
  obtain ⟨W0, hW0⟩ : ∃ X, X = (((w.alloc (.cells #[.slice A l c] 29)).alloc (.cells #[.slice A' l' c'] 29)).alloc (.cells #[.slice none 0 0] 29)).alloc (.cells #[] 3) := ⟨_, rfl⟩
  have HN0 : Hid (New w W0) := Lib.hid (by rw [hW0]; exact ((((New.refl w).alloc _).alloc _).alloc _).alloc _)
  have HB0 : Hid (Box W0 w.heap.size #[.slice A l c] 29) := Lib.hid (by rw [hW0]; exact (((Box.last w _ _).alloc _).alloc _).alloc _)
  have HB1 : Hid (Box W0 (w.heap.size + 1) #[.slice A' l' c'] 29) := Lib.hid (by rw [hW0]; exact ((Box.last2 w _ _ _).alloc _).alloc _)
  have HB2 : Hid (Box W0 (w.heap.size + 1 + 1) #[.slice none 0 0] 29) := Lib.hid (by rw [hW0]; exact (Box.last3 w _ _ _ _).alloc _)
  have HO0 : Hid (OwnE encI 3 w.heap.size W0 (.slice (some ⟨w.heap.size + 1 + 1 + 1, 0, none⟩) 0 0) []) := Lib.hid (by
    rw [hW0]
    have := Box.last (((w.alloc (.cells #[.slice A l c] 29)).alloc (.cells #[.slice A' l' c'] 29)).alloc (.cells #[.slice none 0 0] 29)) #[] 3
    rw [World.size_alloc, World.size_alloc, World.size_alloc] at this
    exact OwnE.of_box (xs := []) this (by omega) (by decide))
  rw [← hW0]
  clear hW0
  go_loopw [5, 6, 7] (fun v5 v6 v7 w' => ∃ (k q : Nat) (L : List Nat) (A5 : Option Addr) (c5 : Nat), v5 = .slice A5 L.length c5 ∧ v6 = .int .i64 (q : Int) ∧ v7 = .int .i64 (k : Int) ∧ k ≤ max l l' ∧ q ≤ 1 ∧ Hid (L.length = k) ∧ Hid (RAdd (dg B9 x) (dg B9 y) k q L) ∧ Hid (OwnE encI 3 w.heap.size w' (.slice A5 L.length c5) L) ∧ Hid (Box w' w.heap.size #[.slice A l c] 29) ∧ Hid (Box w' (w.heap.size + 1) #[.slice A' l' c'] 29) ∧ Hid (Box w' (w.heap.size + 1 + 1) #[.slice none 0 0] 29) ∧ Hid (New w w')) (fun _ _ v7 _ => max l l' - (intOf v7).toNat)
  case atStart => exact ⟨0, 0, [], _, _, rfl, rfl, rfl, by omega, by omega, (rfl : [].length = 0), (⟨rfl, by simp, by omega, by simp [val]⟩ : RAdd _ _ 0 0 []), HO0.out, HB0.out, HB1.out, HB2.out, HN0.out⟩
  case round =>
    obtain ⟨k, q, L, A5, c5, rfl, rfl, rfl, hk, hq, HLN, HI, HO, HB0, HB1, HB2, HN⟩ := hrel
    have c0 := HB0.out.cell 0
    have c1 := HB1.out.cell 0
    simp only [List.getElem?_toArray, List.getElem?_cons_zero] at c0 c1
    by_cases hkl : k < max l l'
    · have hst := HI.out.step (getD_lt9 x k) (getD_lt9 y k)
      have HD1 := Lib.hid (fun n => digit_c (HX.out.new (HN.out.drewN n)) k)
      have HD2 := Lib.hid (fun n => digit_c (HY.out.new (HN.out.drewN n)) k)
      have b1 := getD_lt9 x k
      have b2 := getD_lt9 y k
      generalize (dg B9 x).getD k 0 = dx at *
      generalize (dg B9 y).getD k 0 = dy at *
      have e1 : ((q : Int) + (dx : Int) + (dy : Int)).tmod 1000000000 = (((q + dx + dy) % B9 : Nat) : Int) := by rw [B9_eq, Int.tmod_eq_emod_of_nonneg (by omega)]; omega
      have e2 : ((q : Int) + (dx : Int) + (dy : Int)).tdiv 1000000000 = (((q + dx + dy) / B9 : Nat) : Int) := by rw [B9_eq, Int.tdiv_eq_ediv_of_nonneg (by omega)]; omega
      have e3 : ((q : Int) + (dx : Int) + (dy : Int)) % 1000000000 = (((q + dx + dy) % B9 : Nat) : Int) := by rw [B9_eq]; omega
      have e4 : ((q : Int) + (dx : Int) + (dy : Int)) / 1000000000 = (((q + dx + dy) / B9 : Nat) : Int) := by rw [B9_eq]; omega
      have hz : (q + dx + dy) / B9 ≤ 1 := hst.carry
      have b3 : dx < 1000000000 := by rw [B9_eq] at b1; exact b1
      have b4 : dy < 1000000000 := by rw [B9_eq] at b2; exact b2
      generalize (q + dx + dy) / B9 = qq at *
      generalize (q + dx + dy) % B9 = rr at *
      have HST := Lib.hid hst
      clear hst b1 b2
      have HLL : Hid (L.length ≤ 2000000) := Lib.hid (by rw [HLN.out]; omega)
      by_cases hka : k < l
      all_goals (try (have hkb : k < l' := by omega))
      all_goals
        go_wp2
        go_quiet (first
          | (with_reducible exact Calls.quiet_of_same (HD2.out _))
          | (with_reducible exact Calls.quiet_of_same (HD1.out _)))
        obtain ⟨W2, hW2⟩ : ∃ X, X = wr.drewN nq := ⟨_, rfl⟩
        have hn2 : New wr W2 := by rw [hW2]; exact (New.refl _).drewN _
        rw [← hW2]
        clear hW2
        have HCX := Lib.hid ((Box.last W2 #[encI rr] 3).cell 0)
        have HOWN := Lib.hid ((HO.out.new hn2).new ((New.refl W2).alloc (.cells #[encI rr] 3)))
        have HNN := Lib.hid ((HN.out.trans hn2).alloc (.cells #[encI rr] 3))
        go_wp2_with (at_builtin; refine app_own2 encI w _ rfl _ _ 27 3 rfl (.int .i64 0) 8 (by kernel_rfl) info_int rfl (by decide) _ L rfl HNN.out HOWN.out _ _ _ rr rfl HCX.out rfl (by have := HLL.out; omega) ?_)
        intro A6 c6 w3 hown3 hn3 hkept hsz3
        have HB0' := Lib.hid (hkept _ _ _ _ _ ((HB0.out.new hn2).alloc (.cells #[encI rr] 3)) (by decide))
        have HB1' := Lib.hid (hkept _ _ _ _ _ ((HB1.out.new hn2).alloc (.cells #[encI rr] 3)) (by decide))
        have HB2' := Lib.hid (hkept _ _ _ _ _ ((HB2.out.new hn2).alloc (.cells #[encI rr] 3)) (by decide))
        have HO4 := Lib.hid hown3
        have HN4 := Lib.hid hn3
        clear hown3 hn3 hkept hsz3 HCX HOWN HNN hn2 c0 c1
        go_wp2
        go_roundw
        case rel => exact ⟨k + 1, qq, L ++ [rr], A6, c6, by simp, by go_num, by go_num, by omega, hz, by rw [List.length_append, HLN.out]; rfl, HST.out, by rw [List.length_append]; exact HO4.out, HB0'.out, HB1'.out, HB2'.out, HN4.out⟩
        case measure => simp [intOf]; omega
    · have hk2 : k = max l l' := by omega
      have hka : ¬ (k : Int) < (l : Int) := by omega
      have hkb : ¬ (k : Int) < (l' : Int) := by omega
      have hfin := HI.out.done (by rw [← HL.out]; omega) (by rw [← HL'.out]; omega)
      have HF := Lib.hid hfin
      have HLL : Hid (L.length ≤ 2000000) := Lib.hid (by rw [HLN.out]; omega)
      have HCX := Lib.hid ((Box.last wr #[encI q] 3).cell 0)
      have HOWN := Lib.hid (HO.out.new ((New.refl wr).alloc (.cells #[encI q] 3)))
      have HNN := Lib.hid (HN.out.alloc (.cells #[encI q] 3))
      clear hfin hk2
      go_wp2_with (at_builtin; refine app_own2 encI w _ rfl _ _ 27 3 rfl (.int .i64 0) 8 (by kernel_rfl) info_int rfl (by decide) _ L rfl HNN.out HOWN.out _ _ _ q rfl HCX.out rfl (by have := HLL.out; omega) ?_)
      intro A6 c6 w3 hown3 hn3 hkept hsz3
      have HB2' := Lib.hid (hkept _ _ _ _ _ (HB2.out.alloc (.cells #[encI q] 3)) (by decide))
      have HN4 := Lib.hid hn3
      have hsl := hown3.sl
      have HT := Lib.hid (rtrim_c hsl)
      clear hown3 hn3 hkept hsz3 HCX HOWN HNN c0 c1 hsl
      go_wp2_with fail
      refine HT.out.mono ?_
      rintro e w4 ⟨v, rfl, hv4, hn4⟩
      have hv := RefV.of_sl hv4 HF.out.1
      rw [HF.out.2] at hv
      obtain ⟨A7, l7, c7, e7⟩ := hv.form
      obtain rfl : v = .slice A7 l7 c7 := by simpa using e7
      have hb : Box w4 (w.heap.size + 1 + 1) #[.slice none 0 0] 29 := hn4.block HB2'.out
      have hc := hb.cell 0
      have hf := hb.frozen 0
      have HV := Lib.hid (hv.set hb (by decide) (i := 0) (.slice A7 l7 c7))
      have HZ := Lib.hid (hb.set 0 (.slice A7 l7 c7) |>.cell 0)
      have HNZ := Lib.hid ((HN4.out.trans hn4).setCell (p := ⟨w.heap.size + 1 + 1, 0, none⟩) (by show _ ≤ w.heap.size + 1 + 1; omega) (.slice A7 l7 c7))
      clear hv hv4 hn4 hb e7
      go_wp2
      have hz := HZ.out
      refine bodyPost_ret (v := .agg #[.slice A7 l7 c7]) (by simp [results, Tryz.results95, go_sem, hz]) rfl ⟨_, rfl, HV.out, HNZ.out⟩
end Go.Proofs.YtkjlmibleoecgaaGreatDoor
/- The program's nat, part 12: shifted, Add32, LeadingZeros32. -/
namespace Go.Proofs.YtkjlmibleoecgaaGreatDoor
set_option linter.unusedSimpArgs false
set_option linter.unusedVariables false
open Go.RowKit
/-- The list, k limbs of it shifted by s binary digits. -/
structure Shf (xs : List Nat) (s k : Nat) (L : List Nat) : Prop where
  len : L.length = xs.length + 1
  lt : ∀ d ∈ L, d < B32
  top : L.getD k 0 < 2 ^ s
  rest : ∀ j, k < j → L.getD j 0 = 0
  v : val B32 L = 2 ^ s * val B32 (xs.take k)
theorem Shf.start (xs : List Nat) {s : Nat} : Shf xs s 0 (List.replicate (xs.length + 1) 0) := by
  refine ⟨by simp, fun d hd => ?_, ?_, fun j _ => ?_, by simp [val, val_replicate]⟩
  · rw [List.mem_replicate] at hd; rw [hd.2, B32_eq]; omega
  · simp; exact Nat.pow_pos (by omega)
  · simp [List.getD_eq_getElem?_getD, List.getElem?_replicate]; split <;> rfl
theorem Shf.step {xs : List Nat} {s k : Nat} {L : List Nat} (h : Shf xs s k L) (hs : s < 32) (hk : k < xs.length) (hx : xs.getD k 0 < B32) :
    Shf xs s (k + 1) ((L.set k (L.getD k 0 + xs.getD k 0 * 2 ^ s % B32)).set (k + 1) (xs.getD k 0 * 2 ^ s / B32)) ∧ L.getD k 0 + xs.getD k 0 * 2 ^ s % B32 < B32 := by
  have hk1 : k < L.length := by rw [h.len]; omega
  have hk2 : k + 1 < L.length := by rw [h.len]; omega
  obtain ⟨r, hr⟩ : ∃ r, r + s = 32 := ⟨32 - s, by omega⟩
  have hB : B32 = 2 ^ s * 2 ^ r := by rw [← Nat.pow_add, Nat.add_comm, hr]; rfl
  have hsp : 0 < 2 ^ s := Nat.pow_pos (by omega)
  have hrp : 0 < 2 ^ r := Nat.pow_pos (by omega)
  have e1 : xs.getD k 0 * 2 ^ s % B32 = 2 ^ s * (xs.getD k 0 % 2 ^ r) := by rw [hB, Nat.mul_comm, Nat.mul_mod_mul_left]
  have h1 := h.top
  have hlow : L.getD k 0 + xs.getD k 0 * 2 ^ s % B32 < B32 := by
    rw [e1]
    have h2 : xs.getD k 0 % 2 ^ r + 1 ≤ 2 ^ r := Nat.mod_lt _ hrp
    have h3 : 2 ^ s * (xs.getD k 0 % 2 ^ r + 1) ≤ 2 ^ s * 2 ^ r := Nat.mul_le_mul_left _ h2
    rw [Nat.mul_add, ← hB] at h3
    omega
  have hhi : xs.getD k 0 * 2 ^ s / B32 < 2 ^ s := by
    rw [Nat.div_lt_iff_lt_mul (by rw [B32_eq]; omega), Nat.mul_comm]
    exact Nat.mul_lt_mul_of_pos_left hx hsp
  have hsB : 2 ^ s ≤ B32 := by rw [hB]; exact Nat.le_mul_of_pos_right _ hrp
  refine ⟨⟨by simp [h.len], lt_set (lt_set h.lt _ hlow) _ (by omega), ?_, fun j hj => ?_, ?_⟩, hlow⟩
  · rw [List.getD_eq_getElem?_getD, List.getElem?_set_self (by simpa using hk2)]; exact hhi
  · rw [getD_set_ne _ (by omega), getD_set_ne _ (by omega)]; exact h.rest j (by omega)
  · have f1 := vset B32 L k (L.getD k 0 + xs.getD k 0 * 2 ^ s % B32) hk1
    have f2 := vset B32 (L.set k (L.getD k 0 + xs.getD k 0 * 2 ^ s % B32)) (k + 1) (xs.getD k 0 * 2 ^ s / B32) (by simpa using hk2)
    rw [getD_set_ne _ (by omega), h.rest (k + 1) (by omega), Nat.mul_zero, Nat.add_zero] at f2
    have f3 := Nat.div_add_mod (xs.getD k 0 * 2 ^ s) B32
    rw [Nat.pow_succ] at f2
    rw [f2, vtake, Nat.mul_add, ← h.v]
    rw [Nat.mul_add] at f1
    clear f2
    generalize xs.getD k 0 * 2 ^ s / B32 = q at *
    generalize xs.getD k 0 * 2 ^ s % B32 = m at *
    have f4 : B32 ^ k * (B32 * q + m) = B32 ^ k * (xs.getD k 0 * 2 ^ s) := by rw [f3]
    have f5 : 2 ^ s * (B32 ^ k * xs.getD k 0) = B32 ^ k * (xs.getD k 0 * 2 ^ s) := by rw [Nat.mul_left_comm, Nat.mul_comm (2 ^ s)]
    rw [Nat.mul_add, ← Nat.mul_assoc] at f4
    omega
theorem or_u32 {a c s : Nat} (ha : a < 2 ^ s) (hm : c % 2 ^ s = 0) (h : a + c < 4294967296) : Go.bits .or .u32 (a : Int) (c : Int) = ((a + c : Nat) : Int) := by
  have h1 := Nat.two_pow_add_eq_or_of_lt (i := s) ha (c / 2 ^ s)
  have h2 := Nat.div_add_mod c (2 ^ s)
  rw [hm, Nat.add_zero] at h2
  rw [h2] at h1
  rw [u32_or_nat _ _ (by omega) (by omega), Nat.or_comm, ← h1, Nat.add_comm]
set_option maxHeartbeats 2000000 in
theorem shifted_c {x s : Nat} {v : Value} {w : World} (h : NatV w v x) (hs : s < 32) (hl : (dg B32 x).length ≤ 1000000) :
    Calls Tryz.prog 71 #[v, .int .u64 (s : Int)] w fun e w' => ∃ (g : Nat) (L : List Nat), e = .returned (.slice (some ⟨g, 0, none⟩) ((dg B32 x).length + 1) ((dg B32 x).length + 1)) ∧ w.heap.size ≤ g ∧ Box w' g (ecells .u32 L) 89 ∧ L.length = (dg B32 x).length + 1 ∧ (∀ d ∈ L, d < B32) ∧ val B32 L = 2 ^ s * x ∧ New w w' := by
  obtain ⟨_, rfl, A, c, rfl, hc, hmax, hr⟩ := h
  have hxs := dg_lt B32_2 x
  have hval := dg_val B32_2 x
  generalize dg B32 x = xs at *
  generalize hn : xs.length = n at *
  have hmk := make_u32 (n + 1) (by omega)
  rw [show ((n + 1 : Nat) : Int) = (n : Int) + 1 from by omega] at hmk
  have HV := Lib.hid hval
  have HXS := Lib.hid hxs
  have HN := Lib.hid hn
  have HR := Lib.hid hr
  clear hval hxs hn hr
  go_enter Tryz.func71, Tryz.ntmps71
  go_wp2
  go_loopw [17] (fun i w' => ∃ (k : Nat) (L : List Nat), k ≤ n ∧ i = .int .i64 (k : Int) ∧ Hid (Shf xs s k L) ∧
    w' = (w.alloc (.cells #[.slice A n c] 26)).alloc (.cells (ecells .u32 L) 89)) (fun i _ => n - (intOf i).toNat)
  case atStart => exact ⟨0, List.replicate (n + 1) 0, by omega, rfl, by have := Shf.start xs (s := s); rw [HN.out] at this; exact this, rfl⟩
  case round =>
    obtain ⟨k, L, hk, rfl, HI, rfl⟩ := hrel
    have hlen : L.length = n + 1 := by rw [HI.out.len, HN.out]
    by_cases hlt : k < n
    · obtain ⟨b, o, C, fr, rfl, hbl, hcell⟩ := HR.out k hlt
      have hc3 := fun o1 o2 => (((New.refl w).alloc o1).alloc o2).still hcell
      have hxd : xs.getD k 0 < B32 := HXS.out _ (getD_mem (by rw [HN.out]; exact hlt))
      obtain ⟨hst, hlow⟩ := HI.out.step hs (by rw [HN.out]; exact hlt) hxd
      have htop := HI.out.top
      have hck : (ecells .u32 L)[k]? = some (.int .u32 (L.getD k 0 : Nat)) := ecells_get _ (by omega)
      have hck2 : (ecells .u32 L)[k + 1]? = some (.int .u32 (L.getD (k + 1) 0 : Nat)) := ecells_get _ (by omega)
      rw [HI.out.rest (k + 1) (by omega)] at hck2
      have HST := Lib.hid hst
      have E3 : Hid (∀ z q : Nat, ((ecells .u32 L).setIfInBounds k (.int .u32 (z : Int))).setIfInBounds (k + 1) (.int .u32 (q : Int)) = ecells .u32 ((L.set k z).set (k + 1) q)) := Lib.hid (fun z q => by rw [ecells_set, ecells_set])
      generalize L.getD k 0 = l at *
      generalize xs.getD k 0 = xd at *
      have hp2 : ((xd * 2 ^ s : Nat) : Int) = (xd : Int) * 2 ^ s := by rw [Int.natCast_mul, Int.natCast_pow]; rfl
      have hpl : xd * 2 ^ s < 18446744073709551616 := by
        have h1 : 2 ^ s ≤ 2 ^ 31 := Nat.pow_le_pow_right (by omega) (by omega)
        have h2 : xd * 2 ^ s ≤ 4294967295 * 2 ^ 31 := Nat.mul_le_mul (by rw [B32_eq] at hxd; omega) h1
        omega
      have hm0 : xd * 2 ^ s % B32 % 2 ^ s = 0 := by
        rw [Nat.mod_mod_of_dvd _ ⟨2 ^ (32 - s), by rw [← Nat.pow_add, show s + (32 - s) = 32 by omega]; rfl⟩, Nat.mul_mod_left]
      have hw1 : IntKind.u64.wrap (xd : Int) = (xd : Int) := IntWalk.u64_in _ (by rw [B32_eq] at hxd; omega)
      have hw2 : IntKind.u64.wrap ((xd : Int) * 2 ^ s) = ((xd * 2 ^ s : Nat) : Int) := by rw [← hp2]; exact IntWalk.u64_in _ (by omega)
      have hor := or_u32 (c := xd * 2 ^ s % B32) htop hm0 (by rw [B32_eq] at hlow ⊢; exact hlow)
      clear hst hcell hbl htop hm0 hp2
      generalize xd * 2 ^ s = p at *
      have e1 : (p : Int) % 4294967296 = ((p % B32 : Nat) : Int) := by rw [B32_eq]; omega
      have e2 : (p : Int) / 4294967296 = ((p / B32 : Nat) : Int) := by rw [B32_eq]; omega
      have e4 : p / B32 < 4294967296 := by rw [B32_eq]; omega
      have e3 : ((p / B32 : Nat) : Int) % 4294967296 = ((p / B32 : Nat) : Int) := by omega
      generalize p / B32 = q at *
      generalize p % B32 = m at *
      generalize hz : l + m = z at *
      generalize ecells .u32 L = EC at *
      clear hlow hpl hz
      go_wp2
      go_roundw
      case rel => exact ⟨k + 1, _, by omega, by go_num, HST.out, by rw [E3.out]⟩
      case measure => simp [intOf]; omega
    · obtain rfl : k = n := by omega
      have hbx := Box.last2 w (.cells #[.slice A k c] 26) (ecells .u32 L) 89
      have hv := HI.out.v
      have hlt2 := HI.out.lt
      rw [List.take_of_length_le (by rw [HN.out]; omega), HV.out] at hv
      have HBX := Lib.hid hbx
      have HLT := Lib.hid hlt2
      have HVV := Lib.hid hv
      have HLN := Lib.hid hlen
      clear hmk hbx hv hlt2 hlen
      go_wp2
      go_ret
      exact ⟨_, L, rfl, by omega, HBX.out, HLN.out, HLT.out, HVV.out, ((New.refl w).alloc _).alloc _⟩
set_option maxHeartbeats 800000 in
theorem add32_c {x y b : Nat} (hx : x < B32) (hy : y < B32) (hb : b ≤ 1) (w : World) :
    Calls Tryz.prog 73 #[.int .u32 (x : Int), .int .u32 (y : Int), .int .u32 (b : Int)] w fun e w' => ∃ d c : Nat, d < B32 ∧ c ≤ 1 ∧ d + B32 * c = x + y + b ∧ e = .returned (.tuple #[.int .u32 (d : Int), .int .u32 (c : Int)]) ∧ w = w' := by
  rw [B32_eq] at *
  have hw1 : IntKind.u64.wrap (x : Int) = (x : Int) := IntWalk.u64_in _ (by omega)
  have hw2 : IntKind.u64.wrap (y : Int) = (y : Int) := IntWalk.u64_in _ (by omega)
  have hw3 : IntKind.u64.wrap (b : Int) = (b : Int) := IntWalk.u64_in _ (by omega)
  have hw4 : IntKind.u64.wrap ((x : Int) + (y : Int)) = (x : Int) + (y : Int) := IntWalk.u64_in _ (by omega)
  have hw5 : IntKind.u64.wrap ((x : Int) + (y : Int) + (b : Int)) = (x : Int) + (y : Int) + (b : Int) := IntWalk.u64_in _ (by omega)
  have e1 : ((x : Int) + (y : Int) + (b : Int)) % 4294967296 = (((x + y + b) % 4294967296 : Nat) : Int) := by omega
  have e2 : ((x : Int) + (y : Int) + (b : Int)) / 4294967296 = (((x + y + b) / 4294967296 : Nat) : Int) := by omega
  have hd : (x + y + b) % 4294967296 < 4294967296 := by omega
  have E1 := Lib.hid e1
  have hc : (x + y + b) / 4294967296 ≤ 1 := by omega
  have hs : (x + y + b) % 4294967296 + 4294967296 * ((x + y + b) / 4294967296) = x + y + b := by omega
  have hc2 : (((x + y + b) / 4294967296 : Nat) : Int) % 4294967296 = (((x + y + b) / 4294967296 : Nat) : Int) := by omega
  have HD := Lib.hid hd
  have HC := Lib.hid hc
  have HS := Lib.hid hs
  clear hd hc hs
  generalize (x + y + b) % 4294967296 = d at *
  generalize (x + y + b) / 4294967296 = c at *
  go_enter Tryz.func73, Tryz.ntmps73
  go_wp2
  go_ret2
  exact ⟨d, c, HD.out, HC.out, HS.out, by first | rfl | (rw [← E1.out]; rfl), rfl⟩
theorem add32_q {x y b d c : Nat} (hx : x < B32) (hy : y < B32) (hb : b ≤ 1) (hd : d = (x + y + b) % B32) (hc : c = (x + y + b) / B32) (w : World) :
    Calls Tryz.prog 73 #[.int .u32 (x : Int), .int .u32 (y : Int), .int .u32 (b : Int)] w fun e w' => e = .returned (.tuple #[.int .u32 (d : Int), .int .u32 (c : Int)]) ∧ w' = w := by
  refine (add32_c hx hy hb w).mono ?_
  rintro e w' ⟨d', c', h1, h2, h3, rfl, rfl⟩
  have e1 : (x + y + b) % B32 = d' := by rw [← h3, Nat.add_mul_mod_self_left, Nat.mod_eq_of_lt h1]
  have e2 : (x + y + b) / B32 = c' := by rw [← h3, Nat.add_mul_div_left _ _ (by rw [B32_eq]; omega), Nat.div_eq_of_lt h1, Nat.zero_add]
  rw [hd, hc, e1, e2]
  exact ⟨rfl, rfl⟩
/-- What the shift is: the highest limb's free binary digits. -/
theorem lz_c {t : Nat} (h0 : 0 < t) (h : t < B32) (w : World) :
    Calls Tryz.prog 70 #[.int .u32 (t : Int)] w fun e w' => ∃ s : Nat, s < 32 ∧ t * 2 ^ s < B32 ∧ e = .returned (.int .i64 (s : Int)) ∧ w' = w := by
  have h2 : t < 4294967296 := by rw [B32_eq] at h; exact h
  obtain ⟨a, b, c⟩ := bitLen_spec h0 (by omega)
  have h3 : Lib.bitLen t - 1 < 32 := (Nat.pow_lt_pow_iff_right (a := 2) (by omega)).1 (by omega)
  refine (Tryz.bits_LeadingZeros32 (t : Int) w (by omega) (by omega)).mono ?_
  rintro e w' ⟨rfl, rfl⟩
  refine ⟨32 - Lib.bitLen t, by omega, ?_, ?_, rfl⟩
  · have h4 : (t + 1) * 2 ^ (32 - Lib.bitLen t) ≤ 2 ^ Lib.bitLen t * 2 ^ (32 - Lib.bitLen t) := Nat.mul_le_mul_right _ (by omega)
    rw [← Nat.pow_add, show Lib.bitLen t + (32 - Lib.bitLen t) = 32 by omega, Nat.add_mul] at h4
    have h5 : 0 < 2 ^ (32 - Lib.bitLen t) := Nat.pow_pos (by omega)
    rw [B32_eq]
    omega
  · rw [Int.toNat_natCast]
    congr 2
    omega
end Go.Proofs.YtkjlmibleoecgaaGreatDoor
/- The reference of nat, part 5: Cmp. -/
namespace Go.Proofs.YtkjlmibleoecgaaGreatDoor
set_option linter.unusedSimpArgs false
set_option linter.unusedVariables false
open Go.RowKit
theorem val_ext {b : Nat} : ∀ {xs ys : List Nat}, (∀ j, xs.getD j 0 = ys.getD j 0) → val b xs = val b ys
  | [], ys, h => by
    have : val b ys = 0 := val_zero_of fun j => by rw [← h j]; rfl
    rw [this]; rfl
  | x :: xs, [], h => by
    have : val b (x :: xs) = 0 := val_zero_of fun j => by rw [h j]; rfl
    rw [this]; rfl
  | x :: xs, y :: ys, h => by
    have h0 : x = y := by simpa using h 0
    have hr : val b xs = val b ys := val_ext fun j => by simpa [List.getD_eq_getElem?_getD] using h (j + 1)
    rw [val, val, h0, hr]
theorem rcmp_lt {x y k : Nat} (he : ∀ j, k + 1 ≤ j → (dg B9 x).getD j 0 = (dg B9 y).getD j 0) (h : (dg B9 x).getD k 0 < (dg B9 y).getD k 0) : x < y := by
  have hb : 0 < B9 := by rw [B9_eq]; omega
  have h1 := val_div_pow hb (dg_lt B9_2 x) k
  have h2 := val_div_pow hb (dg_lt B9_2 y) k
  rw [dg_val B9_2, val_drop_succ] at h1 h2
  have h3 : val B9 ((dg B9 x).drop (k + 1)) = val B9 ((dg B9 y).drop (k + 1)) := val_ext fun j => by
    rw [List.getD_eq_getElem?_getD, List.getElem?_drop, ← List.getD_eq_getElem?_getD, List.getD_eq_getElem?_getD (l := (dg B9 y).drop _), List.getElem?_drop, ← List.getD_eq_getElem?_getD]
    exact he _ (by omega)
  rw [h3] at h1
  have h4 : x / B9 ^ k < y / B9 ^ k := by omega
  refine Nat.lt_of_not_le fun hle => ?_
  have := Nat.div_le_div_right (c := B9 ^ k) hle
  omega
theorem rcmp_eq {x y : Nat} (he : ∀ j, (dg B9 x).getD j 0 = (dg B9 y).getD j 0) : x = y := by
  have := val_ext (b := B9) he
  rwa [dg_val B9_2, dg_val B9_2] at this
theorem cmpN_lt {x y : Nat} (h : x < y) : cmpN x y = -1 := by unfold cmpN; rw [if_pos h]
theorem cmpN_gt {x y : Nat} (h : y < x) : cmpN x y = 1 := by unfold cmpN; rw [if_neg (by omega), if_pos h]
theorem cmpN_eq (x : Nat) : cmpN x x = 0 := by unfold cmpN; rw [if_neg (by omega), if_neg (by omega)]
set_option maxHeartbeats 2000000 in
set_option maxRecDepth 100000 in
theorem rcmp_c {x y : Nat} {u v : Value} {w : World} (hx : RefV w u x) (hy : RefV w v y) (hl : (dg B9 x).length ≤ 1000000) (hl2 : (dg B9 y).length ≤ 1000000) :
    Calls Tryz.prog 21 #[u, v] w fun e w' => e = .returned (.int .i64 (cmpN x y)) ∧ New w w' := by
  obtain ⟨A, l, c, rfl⟩ := hx.form
  obtain ⟨A', l', c', rfl⟩ := hy.form
  have hll : l = (dg B9 x).length := by obtain ⟨_, e, A1, c1, rfl, _⟩ := hx; simp at e; omega
  have hll' : l' = (dg B9 y).length := by obtain ⟨_, e, A1, c1, rfl, _⟩ := hy; simp at e; omega
  have hz : ∀ j, max l l' ≤ j → (dg B9 x).getD j 0 = (dg B9 y).getD j 0 := fun j hj => by
    rw [List.getD_eq_getElem?_getD, List.getD_eq_getElem?_getD, List.getElem?_eq_none (by omega), List.getElem?_eq_none (by omega)]
  have HX := Lib.hid hx.sl
  have HY := Lib.hid hy.sl
  have HZ := Lib.hid hz
  have hl3 : l ≤ 1000000 := by omega
  have hl4 : l' ≤ 1000000 := by omega
  clear hx hy hl hl2 hll hll' hz
  obtain ⟨m, hm⟩ : ∃ m, m = max l l' := ⟨_, rfl⟩
  rw [← hm] at HZ
  have hm2 : m ≤ 1000000 := by omega
  have HM := Lib.hid hm
  clear hm
  have hcs : l < l' ∨ l' < l ∨ l = l' := by omega
  rcases hcs with hcs | hcs | hcs
  · go_enter Tryz.func21, Tryz.ntmps21
    go_wp2
    obtain ⟨W0, hW0⟩ : ∃ X, X = (w.alloc (.cells #[.slice A l c] 29)).alloc (.cells #[.slice A' l' c'] 29) := ⟨_, rfl⟩
    have HN0 : Hid (New w W0) := Lib.hid (by rw [hW0]; exact ((New.refl w).alloc _).alloc _)
    have HB0 : Hid (Box W0 w.heap.size #[.slice A l c] 29) := Lib.hid (by rw [hW0]; exact ((Box.last w _ _).alloc _))
    have HB1 : Hid (Box W0 (w.heap.size + 1) #[.slice A' l' c'] 29) := Lib.hid (by rw [hW0]; exact (Box.last2 w _ _ _))
    rw [← hW0]
    clear hW0
    go_loopw [5] (fun v5 w' => ∃ k : Nat, v5 = .int .i64 ((k : Int) - 1) ∧ k ≤ m ∧ Hid (∀ j, k ≤ j → (dg B9 x).getD j 0 = (dg B9 y).getD j 0) ∧ Hid (New w w') ∧ Hid (Box w' w.heap.size #[.slice A l c] 29) ∧ Hid (Box w' (w.heap.size + 1) #[.slice A' l' c'] 29)) (fun v5 _ => (intOf v5 + 1).toNat)
    case atStart =>
      have hM := HM.out
      obtain ⟨mm, hmm⟩ : ∃ mm : Nat, mm = m := ⟨_, rfl⟩
      exact ⟨mm, by (have : (mm : Int) = max (l : Int) (l' : Int) := by omega); (first | (rw [this]; congr 2; omega) | (congr 2; omega)), by omega, by rw [hmm]; exact HZ.out, HN0.out, HB0.out, HB1.out⟩
    case round =>
      clear HN0 HB0 HB1
      obtain ⟨k, rfl, hk, HE, HN, HB0, HB1⟩ := hrel
      by_cases h0 : 0 < k
      · obtain ⟨i, rfl⟩ : ∃ i, k = i + 1 := ⟨k - 1, by omega⟩
        have hi1 : ((i + 1 : Nat) : Int) - 1 = (i : Int) := by omega
        have hdlt : (dg B9 x).getD i 0 < (dg B9 y).getD i 0 → x < y := rcmp_lt HE.out
        have hdgt : (dg B9 y).getD i 0 < (dg B9 x).getD i 0 → y < x := rcmp_lt fun j hj => (HE.out j hj).symm
        have heq : (dg B9 x).getD i 0 = (dg B9 y).getD i 0 → ∀ j, i ≤ j → (dg B9 x).getD j 0 = (dg B9 y).getD j 0 := fun he j hj => by
          by_cases hij : i = j
          · subst hij; exact he
          · exact HE.out j (by omega)
        have HD1 := Lib.hid (fun n => digit_c (HX.out.new (HN.out.drewN n)) i)
        have HD2 := Lib.hid (fun n => digit_c (HY.out.new (HN.out.drewN n)) i)
        have HD3 := Lib.hid (fun W (h : New wr W) => digit_c (HX.out.new (HN.out.trans h)) i)
        have HD4 := Lib.hid (fun W (h : New wr W) => digit_c (HY.out.new (HN.out.trans h)) i)
        have HL1 := Lib.hid hdlt
        have HG1 := Lib.hid hdgt
        have HQ1 := Lib.hid heq
        clear hdlt hdgt heq HE
        generalize (dg B9 x).getD i 0 = dx at *
        generalize (dg B9 y).getD i 0 = dy at *
        rw [hi1]
        have c0 := HB0.out.cell 0
        have c1 := HB1.out.cell 0
        simp only [List.getElem?_toArray, List.getElem?_cons_zero] at c0 c1
        have hd3 : dx < dy ∨ dy < dx ∨ dx = dy := by omega
        rcases hd3 with hd | hd | hd
        · go_wp2
          go_quiet (first
            | (with_reducible exact Calls.quiet_of_same (HD2.out _))
            | (with_reducible exact Calls.quiet_of_same (HD1.out _)))
          go_wp2
          go_ret
          exact ⟨by rw [cmpN_lt (HL1.out hd)]; rfl, HN.out.drewN _⟩
        · go_wp2
          go_quiet (first
            | (with_reducible exact Calls.quiet_of_same (HD2.out _))
            | (with_reducible exact Calls.quiet_of_same (HD1.out _)))
          go_wp2
          obtain ⟨W2, hW2⟩ : ∃ X, X = wr.drewN nq := ⟨_, rfl⟩
          have hn2 : New wr W2 := by rw [hW2]; exact (New.refl _).drewN _
          rw [← hW2]
          clear hW2 c0 c1
          have c0 := (HB0.out.new hn2).cell 0
          have c1 := (HB1.out.new hn2).cell 0
          simp only [List.getElem?_toArray, List.getElem?_cons_zero] at c0 c1
          have HE1 := Lib.hid (fun n => HD3.out (W2.drewN n) (hn2.drewN n))
          have HE2 := Lib.hid (fun n => HD4.out (W2.drewN n) (hn2.drewN n))
          have HN2 := Lib.hid (HN.out.trans hn2)
          go_quiet (first
            | (with_reducible exact Calls.quiet_of_same (HE2.out _))
            | (with_reducible exact Calls.quiet_of_same (HE1.out _)))
          go_wp2
          go_ret
          exact ⟨by rw [cmpN_gt (HG1.out hd)]; rfl, HN2.out.drewN _⟩
        · subst hd
          go_wp2
          go_quiet (first
            | (with_reducible exact Calls.quiet_of_same (HD2.out _))
            | (with_reducible exact Calls.quiet_of_same (HD1.out _)))
          go_wp2
          obtain ⟨W2, hW2⟩ : ∃ X, X = wr.drewN nq := ⟨_, rfl⟩
          have hn2 : New wr W2 := by rw [hW2]; exact (New.refl _).drewN _
          rw [← hW2]
          clear hW2 c0 c1
          have c0 := (HB0.out.new hn2).cell 0
          have c1 := (HB1.out.new hn2).cell 0
          simp only [List.getElem?_toArray, List.getElem?_cons_zero] at c0 c1
          have HE1 := Lib.hid (fun n => HD3.out (W2.drewN n) (hn2.drewN n))
          have HE2 := Lib.hid (fun n => HD4.out (W2.drewN n) (hn2.drewN n))
          have HN2 := Lib.hid (HN.out.trans hn2)
          have HBa := Lib.hid (HB0.out.new hn2)
          have HBb := Lib.hid (HB1.out.new hn2)
          go_quiet (first
            | (with_reducible exact Calls.quiet_of_same (HE2.out _))
            | (with_reducible exact Calls.quiet_of_same (HE1.out _)))
          go_wp2
          go_roundw
          case rel => exact ⟨i, by go_num, by omega, (by first | exact HQ1.out rfl | exact HQ1.out trivial), HN2.out.drewN _, HBa.out.new ((New.refl _).drewN _), HBb.out.new ((New.refl _).drewN _)⟩
          case measure => (simp [intOf]; try omega)
      · obtain rfl : k = 0 := by omega
        have hxy := rcmp_eq (fun j => HE.out j (Nat.zero_le _))
        subst hxy
        clear HE
        go_wp2
        go_ret
        exact ⟨by rw [cmpN_eq]; rfl, HN.out⟩
  · go_enter Tryz.func21, Tryz.ntmps21
    go_wp2
    obtain ⟨W0, hW0⟩ : ∃ X, X = (w.alloc (.cells #[.slice A l c] 29)).alloc (.cells #[.slice A' l' c'] 29) := ⟨_, rfl⟩
    have HN0 : Hid (New w W0) := Lib.hid (by rw [hW0]; exact ((New.refl w).alloc _).alloc _)
    have HB0 : Hid (Box W0 w.heap.size #[.slice A l c] 29) := Lib.hid (by rw [hW0]; exact ((Box.last w _ _).alloc _))
    have HB1 : Hid (Box W0 (w.heap.size + 1) #[.slice A' l' c'] 29) := Lib.hid (by rw [hW0]; exact (Box.last2 w _ _ _))
    rw [← hW0]
    clear hW0
    go_loopw [5] (fun v5 w' => ∃ k : Nat, v5 = .int .i64 ((k : Int) - 1) ∧ k ≤ m ∧ Hid (∀ j, k ≤ j → (dg B9 x).getD j 0 = (dg B9 y).getD j 0) ∧ Hid (New w w') ∧ Hid (Box w' w.heap.size #[.slice A l c] 29) ∧ Hid (Box w' (w.heap.size + 1) #[.slice A' l' c'] 29)) (fun v5 _ => (intOf v5 + 1).toNat)
    case atStart =>
      have hM := HM.out
      obtain ⟨mm, hmm⟩ : ∃ mm : Nat, mm = m := ⟨_, rfl⟩
      exact ⟨mm, by (have : (mm : Int) = max (l : Int) (l' : Int) := by omega); (first | (rw [this]; congr 2; omega) | (congr 2; omega)), by omega, by rw [hmm]; exact HZ.out, HN0.out, HB0.out, HB1.out⟩
    case round =>
      clear HN0 HB0 HB1
      obtain ⟨k, rfl, hk, HE, HN, HB0, HB1⟩ := hrel
      by_cases h0 : 0 < k
      · obtain ⟨i, rfl⟩ : ∃ i, k = i + 1 := ⟨k - 1, by omega⟩
        have hi1 : ((i + 1 : Nat) : Int) - 1 = (i : Int) := by omega
        have hdlt : (dg B9 x).getD i 0 < (dg B9 y).getD i 0 → x < y := rcmp_lt HE.out
        have hdgt : (dg B9 y).getD i 0 < (dg B9 x).getD i 0 → y < x := rcmp_lt fun j hj => (HE.out j hj).symm
        have heq : (dg B9 x).getD i 0 = (dg B9 y).getD i 0 → ∀ j, i ≤ j → (dg B9 x).getD j 0 = (dg B9 y).getD j 0 := fun he j hj => by
          by_cases hij : i = j
          · subst hij; exact he
          · exact HE.out j (by omega)
        have HD1 := Lib.hid (fun n => digit_c (HX.out.new (HN.out.drewN n)) i)
        have HD2 := Lib.hid (fun n => digit_c (HY.out.new (HN.out.drewN n)) i)
        have HD3 := Lib.hid (fun W (h : New wr W) => digit_c (HX.out.new (HN.out.trans h)) i)
        have HD4 := Lib.hid (fun W (h : New wr W) => digit_c (HY.out.new (HN.out.trans h)) i)
        have HL1 := Lib.hid hdlt
        have HG1 := Lib.hid hdgt
        have HQ1 := Lib.hid heq
        clear hdlt hdgt heq HE
        generalize (dg B9 x).getD i 0 = dx at *
        generalize (dg B9 y).getD i 0 = dy at *
        rw [hi1]
        have c0 := HB0.out.cell 0
        have c1 := HB1.out.cell 0
        simp only [List.getElem?_toArray, List.getElem?_cons_zero] at c0 c1
        have hd3 : dx < dy ∨ dy < dx ∨ dx = dy := by omega
        rcases hd3 with hd | hd | hd
        · go_wp2
          go_quiet (first
            | (with_reducible exact Calls.quiet_of_same (HD2.out _))
            | (with_reducible exact Calls.quiet_of_same (HD1.out _)))
          go_wp2
          go_ret
          exact ⟨by rw [cmpN_lt (HL1.out hd)]; rfl, HN.out.drewN _⟩
        · go_wp2
          go_quiet (first
            | (with_reducible exact Calls.quiet_of_same (HD2.out _))
            | (with_reducible exact Calls.quiet_of_same (HD1.out _)))
          go_wp2
          obtain ⟨W2, hW2⟩ : ∃ X, X = wr.drewN nq := ⟨_, rfl⟩
          have hn2 : New wr W2 := by rw [hW2]; exact (New.refl _).drewN _
          rw [← hW2]
          clear hW2 c0 c1
          have c0 := (HB0.out.new hn2).cell 0
          have c1 := (HB1.out.new hn2).cell 0
          simp only [List.getElem?_toArray, List.getElem?_cons_zero] at c0 c1
          have HE1 := Lib.hid (fun n => HD3.out (W2.drewN n) (hn2.drewN n))
          have HE2 := Lib.hid (fun n => HD4.out (W2.drewN n) (hn2.drewN n))
          have HN2 := Lib.hid (HN.out.trans hn2)
          go_quiet (first
            | (with_reducible exact Calls.quiet_of_same (HE2.out _))
            | (with_reducible exact Calls.quiet_of_same (HE1.out _)))
          go_wp2
          go_ret
          exact ⟨by rw [cmpN_gt (HG1.out hd)]; rfl, HN2.out.drewN _⟩
        · subst hd
          go_wp2
          go_quiet (first
            | (with_reducible exact Calls.quiet_of_same (HD2.out _))
            | (with_reducible exact Calls.quiet_of_same (HD1.out _)))
          go_wp2
          obtain ⟨W2, hW2⟩ : ∃ X, X = wr.drewN nq := ⟨_, rfl⟩
          have hn2 : New wr W2 := by rw [hW2]; exact (New.refl _).drewN _
          rw [← hW2]
          clear hW2 c0 c1
          have c0 := (HB0.out.new hn2).cell 0
          have c1 := (HB1.out.new hn2).cell 0
          simp only [List.getElem?_toArray, List.getElem?_cons_zero] at c0 c1
          have HE1 := Lib.hid (fun n => HD3.out (W2.drewN n) (hn2.drewN n))
          have HE2 := Lib.hid (fun n => HD4.out (W2.drewN n) (hn2.drewN n))
          have HN2 := Lib.hid (HN.out.trans hn2)
          have HBa := Lib.hid (HB0.out.new hn2)
          have HBb := Lib.hid (HB1.out.new hn2)
          go_quiet (first
            | (with_reducible exact Calls.quiet_of_same (HE2.out _))
            | (with_reducible exact Calls.quiet_of_same (HE1.out _)))
          go_wp2
          go_roundw
          case rel => exact ⟨i, by go_num, by omega, (by first | exact HQ1.out rfl | exact HQ1.out trivial), HN2.out.drewN _, HBa.out.new ((New.refl _).drewN _), HBb.out.new ((New.refl _).drewN _)⟩
          case measure => (simp [intOf]; try omega)
      · obtain rfl : k = 0 := by omega
        have hxy := rcmp_eq (fun j => HE.out j (Nat.zero_le _))
        subst hxy
        clear HE
        go_wp2
        go_ret
        exact ⟨by rw [cmpN_eq]; rfl, HN.out⟩
  · subst hcs
    go_enter Tryz.func21, Tryz.ntmps21
    go_wp2
    obtain ⟨W0, hW0⟩ : ∃ X, X = (w.alloc (.cells #[.slice A l c] 29)).alloc (.cells #[.slice A' l c'] 29) := ⟨_, rfl⟩
    have HN0 : Hid (New w W0) := Lib.hid (by rw [hW0]; exact ((New.refl w).alloc _).alloc _)
    have HB0 : Hid (Box W0 w.heap.size #[.slice A l c] 29) := Lib.hid (by rw [hW0]; exact ((Box.last w _ _).alloc _))
    have HB1 : Hid (Box W0 (w.heap.size + 1) #[.slice A' l c'] 29) := Lib.hid (by rw [hW0]; exact (Box.last2 w _ _ _))
    rw [← hW0]
    clear hW0
    go_loopw [5] (fun v5 w' => ∃ k : Nat, v5 = .int .i64 ((k : Int) - 1) ∧ k ≤ m ∧ Hid (∀ j, k ≤ j → (dg B9 x).getD j 0 = (dg B9 y).getD j 0) ∧ Hid (New w w') ∧ Hid (Box w' w.heap.size #[.slice A l c] 29) ∧ Hid (Box w' (w.heap.size + 1) #[.slice A' l c'] 29)) (fun v5 _ => (intOf v5 + 1).toNat)
    case atStart =>
      have hM := HM.out
      obtain ⟨mm, hmm⟩ : ∃ mm : Nat, mm = m := ⟨_, rfl⟩
      exact ⟨mm, by (have : (mm : Int) = max (l : Int) (l : Int) := by omega); (first | (rw [this]; congr 2; omega) | (congr 2; omega)), by omega, by rw [hmm]; exact HZ.out, HN0.out, HB0.out, HB1.out⟩
    case round =>
      clear HN0 HB0 HB1
      obtain ⟨k, rfl, hk, HE, HN, HB0, HB1⟩ := hrel
      by_cases h0 : 0 < k
      · obtain ⟨i, rfl⟩ : ∃ i, k = i + 1 := ⟨k - 1, by omega⟩
        have hi1 : ((i + 1 : Nat) : Int) - 1 = (i : Int) := by omega
        have hdlt : (dg B9 x).getD i 0 < (dg B9 y).getD i 0 → x < y := rcmp_lt HE.out
        have hdgt : (dg B9 y).getD i 0 < (dg B9 x).getD i 0 → y < x := rcmp_lt fun j hj => (HE.out j hj).symm
        have heq : (dg B9 x).getD i 0 = (dg B9 y).getD i 0 → ∀ j, i ≤ j → (dg B9 x).getD j 0 = (dg B9 y).getD j 0 := fun he j hj => by
          by_cases hij : i = j
          · subst hij; exact he
          · exact HE.out j (by omega)
        have HD1 := Lib.hid (fun n => digit_c (HX.out.new (HN.out.drewN n)) i)
        have HD2 := Lib.hid (fun n => digit_c (HY.out.new (HN.out.drewN n)) i)
        have HD3 := Lib.hid (fun W (h : New wr W) => digit_c (HX.out.new (HN.out.trans h)) i)
        have HD4 := Lib.hid (fun W (h : New wr W) => digit_c (HY.out.new (HN.out.trans h)) i)
        have HL1 := Lib.hid hdlt
        have HG1 := Lib.hid hdgt
        have HQ1 := Lib.hid heq
        clear hdlt hdgt heq HE
        generalize (dg B9 x).getD i 0 = dx at *
        generalize (dg B9 y).getD i 0 = dy at *
        rw [hi1]
        have c0 := HB0.out.cell 0
        have c1 := HB1.out.cell 0
        simp only [List.getElem?_toArray, List.getElem?_cons_zero] at c0 c1
        have hd3 : dx < dy ∨ dy < dx ∨ dx = dy := by omega
        rcases hd3 with hd | hd | hd
        · go_wp2
          go_quiet (first
            | (with_reducible exact Calls.quiet_of_same (HD2.out _))
            | (with_reducible exact Calls.quiet_of_same (HD1.out _)))
          go_wp2
          go_ret
          exact ⟨by rw [cmpN_lt (HL1.out hd)]; rfl, HN.out.drewN _⟩
        · go_wp2
          go_quiet (first
            | (with_reducible exact Calls.quiet_of_same (HD2.out _))
            | (with_reducible exact Calls.quiet_of_same (HD1.out _)))
          go_wp2
          obtain ⟨W2, hW2⟩ : ∃ X, X = wr.drewN nq := ⟨_, rfl⟩
          have hn2 : New wr W2 := by rw [hW2]; exact (New.refl _).drewN _
          rw [← hW2]
          clear hW2 c0 c1
          have c0 := (HB0.out.new hn2).cell 0
          have c1 := (HB1.out.new hn2).cell 0
          simp only [List.getElem?_toArray, List.getElem?_cons_zero] at c0 c1
          have HE1 := Lib.hid (fun n => HD3.out (W2.drewN n) (hn2.drewN n))
          have HE2 := Lib.hid (fun n => HD4.out (W2.drewN n) (hn2.drewN n))
          have HN2 := Lib.hid (HN.out.trans hn2)
          go_quiet (first
            | (with_reducible exact Calls.quiet_of_same (HE2.out _))
            | (with_reducible exact Calls.quiet_of_same (HE1.out _)))
          go_wp2
          go_ret
          exact ⟨by rw [cmpN_gt (HG1.out hd)]; rfl, HN2.out.drewN _⟩
        · subst hd
          go_wp2
          go_quiet (first
            | (with_reducible exact Calls.quiet_of_same (HD2.out _))
            | (with_reducible exact Calls.quiet_of_same (HD1.out _)))
          go_wp2
          obtain ⟨W2, hW2⟩ : ∃ X, X = wr.drewN nq := ⟨_, rfl⟩
          have hn2 : New wr W2 := by rw [hW2]; exact (New.refl _).drewN _
          rw [← hW2]
          clear hW2 c0 c1
          have c0 := (HB0.out.new hn2).cell 0
          have c1 := (HB1.out.new hn2).cell 0
          simp only [List.getElem?_toArray, List.getElem?_cons_zero] at c0 c1
          have HE1 := Lib.hid (fun n => HD3.out (W2.drewN n) (hn2.drewN n))
          have HE2 := Lib.hid (fun n => HD4.out (W2.drewN n) (hn2.drewN n))
          have HN2 := Lib.hid (HN.out.trans hn2)
          have HBa := Lib.hid (HB0.out.new hn2)
          have HBb := Lib.hid (HB1.out.new hn2)
          go_quiet (first
            | (with_reducible exact Calls.quiet_of_same (HE2.out _))
            | (with_reducible exact Calls.quiet_of_same (HE1.out _)))
          go_wp2
          go_roundw
          case rel => exact ⟨i, by go_num, by omega, (by first | exact HQ1.out rfl | exact HQ1.out trivial), HN2.out.drewN _, HBa.out.new ((New.refl _).drewN _), HBb.out.new ((New.refl _).drewN _)⟩
          case measure => (simp [intOf]; try omega)
      · obtain rfl : k = 0 := by omega
        have hxy := rcmp_eq (fun j => HE.out j (Nat.zero_le _))
        subst hxy
        clear HE
        go_wp2
        go_ret
        exact ⟨by rw [cmpN_eq]; rfl, HN.out⟩
end Go.Proofs.YtkjlmibleoecgaaGreatDoor
/- The reference of nat, part 8: Text. -/
namespace Go.Proofs.YtkjlmibleoecgaaGreatDoor
set_option linter.unusedSimpArgs false
set_option linter.unusedVariables false
open Go.RowKit
open Go.Lib (decDigits)
abbrev encB : UInt8 → Value := fun x : UInt8 => Value.int .u8 (x.toNat : Int)
theorem info_u8 : (Tryz.prog.info? 5).map (fun i => (i.zero, i.size, i.bytes)) = some (some (.int .u8 0), 1, 1) := by kernel_rfl
theorem dgt_nat {d : Nat} (h : d < 10) : (dgt d).toNat = 48 + d := by unfold dgt; rw [UInt8.toNat_ofNat']; omega
theorem own_str0 {P : Program} {w : World} {src dst E B : Nat} {v : Value} {l : List UInt8} (hs : P.underlying src = some (.slice E)) (he : P.underlying E = some (.int .u8)) (hd : P.underlying dst = some .string)
    (h : OwnE encB E B w v l) : (convert src dst v).run P w = .ok (.string ⟨l.toArray⟩) w := by
  by_cases h0 : l = []
  · subst h0
    rcases h.2 with ⟨rfl, _⟩ | ⟨g, cap, cur, rfl, _⟩
    · rw [run_convert_bytes_string w src dst E _ _ _ hs he hd]
      simp [Conv.bytesToString]
      rfl
    · exact run_convert_bytes_back w src dst E ⟨g, 0, none⟩ cap [] hs he hd fun j hj => by cases hj
  · obtain ⟨g, c, rfl, h1, h2, hB, _, h4⟩ := h.at h0
    refine run_convert_bytes_back w src dst E _ c l hs he hd fun j hj => ?_
    rw [Addr.add_lit, Nat.zero_add]
    exact h4 j hj
set_option maxHeartbeats 2000000 in
set_option maxRecDepth 100000 in
theorem rtext_c {n : Nat} {u : Value} {w : World} (hx : RefV w u n) (hl : (dg B9 n).length ≤ 1000000) :
    Calls Tryz.prog 17 #[u] w fun e w' => e = .returned (.string ⟨(decDigits n).toArray⟩) ∧ New w w' := by
  obtain ⟨A, l, c, rfl⟩ := hx.form
  have hll : l = (dg B9 n).length := by obtain ⟨_, e, A1, c1, rfl, _⟩ := hx; simp at e; omega
  have HX := Lib.hid hx.sl
  by_cases h0 : n = 0
  · subst h0
    rw [dg_zero] at hll
    have hl0 : l = 0 := hll
    subst hl0
    clear hll hl hx HX
    go_enter Tryz.func17, Tryz.ntmps17
    go_wp2
    go_ret
    exact ⟨by rw [show decDigits 0 = [48] from dec_small (by omega)]; rfl, (New.refl w).alloc _⟩
  have hlp : 0 < l := by rw [hll]; exact List.length_pos_iff.2 fun h => h0 ((dg_nil B9_2).1 h)
  have hl0b : ((l : Int) == 0) = false := by rw [beq_eq_false_iff_ne]; omega
  have hl3 : l ≤ 1000000 := by omega
  have HL := Lib.hid hll
  have HD := Lib.hid (dec_dg (by omega : 0 < n))
  have HTL : Hid ((dg 10 n).length ≤ 9000000) := Lib.hid (by
    refine Nat.le_trans (dg_len (b := 10) (L := 9 * l) (by omega) ?_) (by omega)
    rw [Nat.pow_mul, show (10 : Nat) ^ 9 = B9 from rfl, hll]
    exact dg_lt_pow B9_2 n)
  have HAB : Hid (∀ k, k < l ↔ 0 < n / B9 ^ k) := Lib.hid (fun k => by rw [hll]; exact dg_above B9_2)
  have HLT := Lib.hid (dg_lt B9_2 n)
  clear hx hll hl h0
  go_enter Tryz.func17, Tryz.ntmps17
  go_wp2
  obtain ⟨W0, hW0⟩ : ∃ X, X = (w.alloc (.cells #[.slice A l c] 29)).alloc (.cells #[] 5) := ⟨_, rfl⟩
  have HN0 : Hid (New w W0) := Lib.hid (by rw [hW0]; exact ((New.refl w).alloc _).alloc _)
  have HB0 : Hid (Box W0 w.heap.size #[.slice A l c] 29) := Lib.hid (by rw [hW0]; exact (Box.last w _ _).alloc _)
  have HO0 : Hid (OwnE encB 5 w.heap.size W0 (.slice (some ⟨w.heap.size + 1, 0, none⟩) 0 0) []) := Lib.hid (by
    rw [hW0]
    exact OwnE.of_box (xs := []) (Box.last2 w _ #[] 5) (by omega) (by decide))
  rw [← hW0]
  clear hW0
  go_loopw [3, 4] (fun v3 v4 w' => ∃ (k : Nat) (ds : List Nat) (A3 : Option Addr) (m3 c3 : Nat), v3 = .slice A3 m3 c3 ∧ v4 = .int .i64 (k : Int) ∧ k ≤ l ∧ m3 ≤ 9000000 ∧ Hid (m3 = ds.length) ∧ Hid (dg 10 n = ds ++ dg 10 (n / B9 ^ k)) ∧ Hid (OwnE encB 5 w.heap.size w' (.slice A3 m3 c3) (ds.map dgt)) ∧ Hid (Box w' w.heap.size #[.slice A l c] 29) ∧ Hid (New w w')) (fun _ v4 _ => l - (intOf v4).toNat)
  case atStart => exact ⟨0, [], _, 0, _, rfl, rfl, by omega, by omega, rfl, (by simp : dg 10 n = [] ++ dg 10 (n / B9 ^ 0)), HO0.out, HB0.out, HN0.out⟩
  case round =>
    obtain ⟨k, ds, A3, m3, c3, rfl, rfl, hk, hm3, HM, HI, HO, HB, HN⟩ := hrel
    have c0 := HB.out.cell 0
    simp only [List.getElem?_toArray, List.getElem?_cons_zero] at c0
    by_cases hkl : k < l
    · obtain ⟨A', c', e, hc', hmx, hr⟩ := HX.out.new HN.out
      injection e with e1 e2 e3
      subst e1; subst e3
      clear e2
      have hkl2 : k < (dg B9 n).length := by have := HL.out; omega
      obtain ⟨b, o, C, fr, hA, hbl, hcell⟩ := hr k hkl2
      rw [hA] at c0
      clear hA
      have hd9 := HLT.out _ (getD_mem (d := 0) hkl2)
      have HR := Lib.hid (RT.start HI.out)
      have HHI : Hid (k + 1 < l ↔ 0 < n / B9 ^ (k + 1)) := Lib.hid (HAB.out (k + 1))
      have HHD := HR
      generalize (dg B9 n).getD k 0 = d at *
      generalize hM : n / B9 ^ (k + 1) = M at *
      rw [B9_eq] at hd9
      clear hr hc' hmx hbl HHD
      have hcc := hcell
      go_wp2
      go_loopw [3, 5, 6] (fun v3 v5 v6 w' => ∃ (q j e : Nat) (es : List Nat) (A3 : Option Addr) (m3 c3 : Nat), v3 = .slice A3 m3 c3 ∧ v5 = .int .i64 (q : Int) ∧ v6 = .int .i64 (j : Int) ∧ j + e = 9 ∧ q ≤ 1000000000 ∧ m3 ≤ 9000000 ∧ Hid (m3 = es.length) ∧ Hid (RT n q e M es) ∧ Hid (OwnE encB 5 w.heap.size w' (.slice A3 m3 c3) (es.map dgt)) ∧ Hid (Box w' w.heap.size #[.slice A l c] 29) ∧ Hid (New w w')) (fun _ _ v6 _ => 9 - (intOf v6).toNat)
      case atStart => exact ⟨d, 0, 9, ds, A3, m3, c3, rfl, rfl, rfl, by omega, by omega, hm3, HM.out, HR.out, HO.out, HB.out, HN.out⟩
      case round =>
        obtain ⟨q, j, e, es, A4, m4, c4, rfl, rfl, rfl, hje, hq, hm4, HM4, HR4, HO4, HB4, HN4⟩ := hrel
        have c1 := HB4.out.cell 0
        simp only [List.getElem?_toArray, List.getElem?_cons_zero] at c1
        by_cases hc : j < 9 ∧ (0 < q ∨ k + 1 < l)
        · obtain ⟨hj9, hor⟩ := hc
          obtain ⟨e', rfl⟩ : ∃ e', e = e' + 1 := ⟨e - 1, by omega⟩
          have hst := HR4.out.step (hor.imp id HHI.out.1)
          have hln := hst.len
          have HST := Lib.hid hst
          have hm4b : m4 + 1 ≤ 9000000 := by
            have h1 := HTL.out
            have h2 := HM4.out
            simp at hln; omega
          have e1 : (q : Int).tmod 10 = ((q % 10 : Nat) : Int) := by rw [Int.tmod_eq_emod_of_nonneg (by omega)]; omega
          have e2 : (q : Int).tdiv 10 = ((q / 10 : Nat) : Int) := by rw [Int.tdiv_eq_ediv_of_nonneg (by omega)]; omega
          have e3 : (q : Int) % 10 = ((q % 10 : Nat) : Int) := by omega
          have e4 : (q : Int) / 10 = ((q / 10 : Nat) : Int) := by omega
          have hq2 : q / 10 ≤ 1000000000 := by omega
          have hr10 : q % 10 < 10 := Nat.mod_lt _ (by omega)
          have hdg := dgt_nat hr10
          generalize q / 10 = qq at *
          generalize hrr : q % 10 = rr at *
          have hw8 : IntKind.u8.wrap (48 + (rr : Int)) = ((dgt rr).toNat : Int) := by rw [hdg, IntWalk.u8_in _ (by omega)]; omega
          have HCX := Lib.hid ((Box.last wr #[encB (dgt rr)] 5).cell 0)
          have HOWN := Lib.hid (HO4.out.new ((New.refl wr).alloc (.cells #[encB (dgt rr)] 5)))
          have HNN := Lib.hid (HN4.out.alloc (.cells #[encB (dgt rr)] 5))
          have HM5 : Hid (m4 = (es.map dgt).length) := Lib.hid (by rw [List.length_map]; exact HM4.out)
          clear hst hln hdg hrr
          have hcase : (0 < q ∨ (¬ 0 < q ∧ k + 1 < l)) := by omega
          rcases hcase with hq0 | ⟨hq0, hk1⟩
          all_goals
            go_wp2_with (at_builtin; refine app_own2 encB w _ rfl _ _ 111 5 rfl (.int .u8 0) 1 (by kernel_rfl) info_u8 rfl (by decide) _ (es.map dgt) rfl HNN.out HOWN.out _ _ _ (dgt rr) rfl HCX.out rfl (by rw [← HM5.out]; omega) ?_)
            intro A5 c5 w3 hown3 hn3 hkept hsz3
            rw [← HM4.out] at hown3 ⊢
            have HB5 := Lib.hid (hkept _ _ _ _ _ (HB4.out.alloc (.cells #[encB (dgt rr)] 5)) (by decide))
            have HO5 := Lib.hid hown3
            have HN5 := Lib.hid hn3
            clear hown3 hn3 hkept hsz3 HCX HOWN HNN
            go_wp2
            go_roundw
            case rel => exact ⟨qq, j + 1, e', es ++ [rr], A5, m4 + 1, c5, rfl, by go_num, by go_num, by omega, hq2, by omega, (by simp [HM4.out] : m4 + 1 = (es ++ [rr]).length), HST.out, (by rw [List.map_append]; exact HO5.out : OwnE encB 5 w.heap.size _ _ ((es ++ [rr]).map dgt)), HB5.out, HN5.out⟩
            case measure => simp [intOf]; omega
        · have hdn := HR4.out.done (by
            by_cases hj9 : j < 9
            · have h2 : ¬ (0 < q ∨ k + 1 < l) := fun h => hc ⟨hj9, h⟩
              have := HHI.out
              refine Or.inr ⟨by omega, ?_⟩
              rcases Nat.eq_zero_or_pos M with h | h
              · exact h
              · exact absurd (this.2 h) (by omega)
            · exact Or.inl (by omega))
          have HDN := Lib.hid hdn
          clear hdn
          by_cases hj9 : j < 9
          · have h2 : ¬ (0 < q ∨ k + 1 < l) := fun h => hc ⟨hj9, h⟩
            have hq0 : ¬ 0 < q := by omega
            have hk1 : ¬ k + 1 < l := by omega
            go_wp2
            go_roundw
            case rel => exact ⟨k + 1, es, A4, m4, c4, rfl, by go_num, by omega, hm4, HM4.out, (by rw [hM]; exact HDN.out : dg 10 n = es ++ dg 10 (n / B9 ^ (k + 1))), HO4.out, HB4.out, HN4.out⟩
            case measure => simp [intOf]; omega
          · go_wp2
            go_roundw
            case rel => exact ⟨k + 1, es, A4, m4, c4, rfl, by go_num, by omega, hm4, HM4.out, (by rw [hM]; exact HDN.out : dg 10 n = es ++ dg 10 (n / B9 ^ (k + 1))), HO4.out, HB4.out, HN4.out⟩
            case measure => simp [intOf]; omega
    · obtain rfl : k = l := by omega
      have hds : dg 10 n = ds := by
        have h1 := HI.out
        have h2 : ¬ 0 < n / B9 ^ k := fun h => absurd ((HAB.out k).2 h) (by omega)
        rw [h1, Nat.eq_zero_of_not_pos h2, dg_zero, List.append_nil]
      have HDS : Hid (decDigits n = (ds.reverse).map dgt) := Lib.hid (by rw [HD.out, hds])
      have HM5 : Hid (m3 = (ds.map dgt).length) := Lib.hid (by rw [List.length_map]; exact HM.out)
      have hb0 := Box.last wr #[] 5
      clear HX HD HTL HAB HLT HI
      go_wp2
      clear HB0 HO0 HN0 W0
      rename World => wo
      obtain ⟨W1, hW1⟩ : ∃ X, X = wo.alloc (.cells #[] 5) := ⟨_, rfl⟩
      have HN1 : Hid (New wo W1) := Lib.hid (by rw [hW1]; exact (New.refl wo).alloc _)
      have HO1 : Hid (OwnE encB 5 wo.heap.size W1 (.slice (some ⟨wo.heap.size, 0, none⟩) 0 0) []) := Lib.hid (by rw [hW1]; exact OwnE.of_box (xs := []) hb0 (by omega) (by decide))
      rw [← hW1]
      clear hW1 hb0
      go_loopw [7, 8] (fun v7 v8 w' => ∃ (i j : Nat) (z : Int) (A7 : Option Addr) (c7 : Nat), v7 = .slice A7 j c7 ∧ v8 = .int .i64 z ∧ z + 1 = (i : Int) ∧ i + j = m3 ∧ Hid (OwnE encB 5 wo.heap.size w' (.slice A7 j c7) ((ds.map dgt).reverse.take j)) ∧ Hid (New wo w')) (fun _ v8 _ => (intOf v8 + 1).toNat)
      case atStart => exact ⟨m3, 0, (m3 : Int) - 1, _, _, rfl, rfl, by omega, by omega, HO1.out, HN1.out⟩
      case round =>
        obtain ⟨i, j, z, A7, c7, rfl, rfl, hz, hij, HO7, HN7⟩ := hrel
        by_cases hi : 0 < i
        · obtain ⟨i', rfl⟩ : ∃ i', i = i' + 1 := ⟨i - 1, by omega⟩
          obtain rfl : z = (i' : Int) := by omega
          have hlm : i' < (ds.map dgt).length := by have := HM5.out; omega
          have hne : ds.map dgt ≠ [] := fun h => by rw [h] at hlm; cases hlm
          obtain ⟨g, k', e, h1, h2, hBg, ⟨cur, hcur⟩, hcells⟩ := (HO.out.new HN7.out).at hne
          have hA3 : A3 = some ⟨g, 0, none⟩ := by injection e
          have hck : m3 ≤ c3 := by injection e with _ _ e3; rw [e3, HM5.out]; exact h1
          have hcell := hcells i' hlm
          have HT : Hid ((ds.map dgt).reverse.take (j + 1) = (ds.map dgt).reverse.take j ++ [(ds.map dgt)[i']]) := Lib.hid (by
            rw [List.take_succ_eq_append_getElem (by simp; have := HM5.out; simp at this; omega)]
            congr 2
            rw [List.getElem_reverse]
            congr 1
            have := HM5.out
            omega)
          generalize (ds.map dgt)[i'] = y at *
          subst hA3
          clear hcells e h1 h2 hcur hne
          have HLJ : Hid (((ds.map dgt).reverse.take j).length = j) := Lib.hid (by have := HM5.out; simp at this; simp; omega)
          generalize (ds.map dgt).reverse.take j = rs at *
          have HCX := Lib.hid ((Box.last wr #[encB y] 5).cell 0)
          have HOWN := Lib.hid (HO7.out.new ((New.refl wr).alloc (.cells #[encB y] 5)))
          have HNN := Lib.hid (HN7.out.alloc (.cells #[encB y] 5))
          go_wp2_with (at_builtin; refine app_own2 encB wo _ rfl _ _ 111 5 rfl (.int .u8 0) 1 (by kernel_rfl) info_u8 rfl (by decide) _ rs rfl HNN.out HOWN.out _ _ _ y rfl HCX.out rfl (by rw [HLJ.out]; omega) ?_)
          intro A5 c5 w3 hown3 hn3 hkept hsz3
          rw [HLJ.out] at hown3 ⊢
          have HO5 := Lib.hid hown3
          have HN5 := Lib.hid hn3
          clear hown3 hn3 hkept hsz3 HCX HOWN HNN
          go_wp2
          go_roundw
          case rel => exact ⟨i', j + 1, (i' : Int) - 1, A5, c5, rfl, by go_num, by omega, by omega, (by rw [HT.out]; exact HO5.out), HN5.out⟩
          case measure => simp [intOf]
        · obtain rfl : i = 0 := by omega
          obtain rfl : j = m3 := by omega
          obtain rfl : z = -1 := by omega
          have hcv : (convert 111 9 (.slice A7 j c7)).run Tryz.prog wr = .ok (.string ⟨((ds.map dgt).reverse.take j).toArray⟩) wr := own_str0 rfl rfl rfl HO7.out
          rw [List.take_of_length_le (by rw [List.length_reverse]; have := HM5.out; omega), ← List.map_reverse, ← HDS.out] at hcv
          have HN8 := Lib.hid (HN.out.trans HN7.out)
          go_wp2
          go_ret
          exact ⟨rfl, HN8.out⟩
end Go.Proofs.YtkjlmibleoecgaaGreatDoor
/- DivMod: what holds ahead of the digits and behind them, in plain words; the world between. -/
namespace Go.Proofs.YtkjlmibleoecgaaGreatDoor
set_option linter.unusedSimpArgs false
set_option linter.unusedVariables false
open Go.RowKit
theorem top_room {y s : Nat} (hy : 0 < y) (hs : s < 32) (ht : (dg B32 y).getD ((dg B32 y).length - 1) 0 * 2 ^ s < B32) : 2 ^ s * y < B32 ^ (dg B32 y).length := by
  have hv := dg_val B32_2 y
  have hlt := dg_lt B32_2 y
  have hne : dg B32 y ≠ [] := fun h => by rw [dg_nil B32_2] at h; omega
  generalize dg B32 y = ys at *
  rcases List.eq_nil_or_concat ys with rfl | ⟨l, t, rfl⟩
  · exact absurd rfl hne
  · rw [List.concat_eq_append] at *
    have hg : (l ++ [t]).getD ((l ++ [t]).length - 1) 0 = t := by simp
    rw [hg] at ht
    rw [val_snoc] at hv
    have hlow := val_lt (b := B32) (xs := l) (by rw [B32_eq]; omega) (fun d hd => hlt d (by simp [hd]))
    obtain ⟨r, hr⟩ : ∃ r, r + s = 32 := ⟨32 - s, by omega⟩
    have hB : B32 = 2 ^ s * 2 ^ r := by rw [← Nat.pow_add, Nat.add_comm, hr]; rfl
    have hsp : 0 < 2 ^ s := Nat.pow_pos (by omega)
    have h1 : t < 2 ^ r := by
      rw [hB, Nat.mul_comm] at ht
      exact Nat.lt_of_mul_lt_mul_left ht
    have h2 : 2 ^ s * (t + 1) ≤ B32 := by rw [hB]; exact Nat.mul_le_mul_left _ h1
    rw [List.length_append, List.length_singleton, Nat.pow_succ]
    have h3 : y < B32 ^ l.length * (t + 1) := by rw [← hv, Nat.mul_add]; omega
    have h4 : 2 ^ s * y < 2 ^ s * (B32 ^ l.length * (t + 1)) := Nat.mul_lt_mul_of_pos_left h3 hsp
    have h5 : 2 ^ s * (B32 ^ l.length * (t + 1)) = B32 ^ l.length * (2 ^ s * (t + 1)) := Nat.mul_left_comm ..
    have h6 : B32 ^ l.length * (2 ^ s * (t + 1)) ≤ B32 ^ l.length * B32 := Nat.mul_le_mul_left _ h2
    omega
theorem vs_of {b n Y : Nat} {V : List Nat} (hb : 2 ≤ b) (hl : V.length = n + 1) (hd : ∀ d ∈ V, d < b) (hv : val b V = Y) (hY : Y < b ^ n) (h1 : b ^ (n - 1) ≤ Y) (hn : 1 ≤ n) :
    (V.take n).length = n ∧ (∀ d ∈ V.take n, d < b) ∧ val b (V.take n) = Y ∧ 1 ≤ (V.take n).getD (n - 1) 0 := by
  have hz := getD_zero_of (b := b) (by omega) hd (j := n) (by omega) n (Nat.le_refl _)
  have ht := vtake b V n
  rw [List.take_of_length_le (by omega), hz, Nat.mul_zero, Nat.add_zero, hv] at ht
  have hlt : ∀ d ∈ V.take n, d < b := fun d h => hd d (List.mem_of_mem_take h)
  refine ⟨by rw [List.length_take]; omega, hlt, ht.symm, ?_⟩
  rcases Nat.eq_zero_or_pos ((V.take n).getD (n - 1) 0) with h0 | h0
  · exfalso
    rw [getD_take _ _ _ _ (by omega)] at h0
    have h2 := vtake b V (n - 1)
    rw [show n - 1 + 1 = n by omega, h0, Nat.mul_zero, Nat.add_zero] at h2
    have h3 := val_lt (b := b) (xs := V.take (n - 1)) (by omega) (fun d h => hd d (List.mem_of_mem_take h))
    rw [List.length_take, show min (n - 1) V.length = n - 1 by omega] at h3
    omega
  · exact h0
theorem div_start {b n m S x y : Nat} {U vs : List Nat} (hb : 2 ≤ b) (hn : 1 ≤ n) (hnm : n ≤ m) (hU : ∀ d ∈ U, d < b) (hv : val b U = S * x) (hvs : val b vs = S * y) (hS : 0 < S) (hx : x < b ^ m) (hy : b ^ (n - 1) ≤ y) :
    DivInv b n (S * x) vs (m + 1 - n) U (List.replicate (m + 1 - n) 0) := by
  refine ⟨hU, fun d hd => ?_, ?_, fun j _ => ?_, ?_⟩
  · rw [List.mem_replicate] at hd; rw [hd.2]; omega
  · rw [hv, hvs, Nat.mul_left_comm]
    refine Nat.mul_lt_mul_of_pos_left ?_ hS
    refine Nat.lt_of_lt_of_le hx ?_
    have h1 : b ^ (m + 1 - n) * b ^ (n - 1) ≤ b ^ (m + 1 - n) * y := Nat.mul_le_mul_left _ hy
    rw [← Nat.pow_add, show m + 1 - n + (n - 1) = m by omega] at h1
    exact h1
  · simp [List.getD_eq_getElem?_getD, List.getElem?_replicate]; split <;> rfl
  · rw [hv, val_replicate]; omega
theorem div_done {b n S x y : Nat} {U vs Q : List Nat} (h : DivInv b n (S * x) vs 0 U Q) (hvs : val b vs = S * y) (hS : 0 < S) (hy : 0 < y) : val b Q = x / y ∧ val b U = S * (x % y) := by
  obtain ⟨h1, h2⟩ := h.done (by rw [hvs]; exact Nat.mul_pos hS hy)
  rw [hvs] at h1 h2
  exact ⟨by rw [h1, Nat.mul_div_mul_left _ _ hS], by rw [h2, Nat.mul_mod_mul_left]⟩
theorem div_rest {s n z : Nat} {U R : List Nat} (hs : s < 32) (hU : ∀ d ∈ U, d < B32) (hv : val B32 U = 2 ^ s * z) (hl : R.length = n) (hz : z < B32 ^ n) (hR : ∀ j, j < n → R.getD j 0 = (U.getD (j + 1) 0 * B32 + U.getD j 0) / 2 ^ s % B32) : val B32 R = z := by
  have hsp : 0 < 2 ^ s := Nat.pow_pos (by omega)
  have h1 := val_digits B32_2 z R (fun i hi => by
    rw [hR i (by omega), shifted_digit (t := 2 ^ (32 - s)) (by rw [← Nat.pow_add, show s + (32 - s) = 32 by omega]; rfl) hsp hU (by rw [B32_eq]; omega), hv, Nat.mul_div_cancel_left _ hsp])
  rw [h1, hl, Nat.mod_eq_of_lt hz]
theorem bx_cell0 {w : World} {p : Nat} {v : Value} {T : TypeId} (h : Box w p #[v] T) : w.cell? ⟨p, 0, none⟩ = some v ∧ w.frozen? ⟨p, 0, none⟩ = false := ⟨h.cell 0, h.frozen 0⟩
/-- The world between the digits: the rows of the divisor, of what is left, of the quotient; the results' boxes. -/
structure DSt (w0 w : World) (p4 p5 gU gV gQ : Nat) (V U Q : List Nat) : Prop where
  nw : New w0 w
  b4 : Box w p4 #[.slice none 0 0] 26
  b5 : Box w p5 #[.slice none 0 0] 26
  bu : Box w gU (ecells .u32 U) 89
  bv : Box w gV (ecells .u32 V) 89
  bq : Box w gQ (ecells .u32 Q) 89
  ne : (gU ≠ gV ∧ gU ≠ gQ ∧ gV ≠ gQ) ∧ (p4 ≠ gU ∧ p4 ≠ gQ ∧ p5 ≠ gU ∧ p5 ≠ gQ)
  le : w0.heap.size ≤ gU ∧ w0.heap.size ≤ gQ
theorem Box.ecset {w : World} {g : Nat} {L : List Nat} {T : TypeId} {k : IntKind} (h : Box w g (ecells k L) T) (i z : Nat) : Box (w.setCell ⟨g, i, none⟩ (.int k (z : Int))) g (ecells k (L.set i z)) T := by
  rw [← ecells_set]; exact h.set i _
theorem DSt.setU {w0 w : World} {p4 p5 gU gV gQ : Nat} {V U Q : List Nat} (h : DSt w0 w p4 p5 gU gV gQ V U Q) (i z : Nat) : DSt w0 (w.setCell ⟨gU, i, none⟩ (.int .u32 (z : Int))) p4 p5 gU gV gQ V (U.set i z) Q :=
  ⟨h.nw.setCell (p := ⟨gU, i, none⟩) h.le.1 _, h.b4.far h.ne.2.1 _, h.b5.far h.ne.2.2.2.1 _, h.bu.ecset i z, h.bv.far h.ne.1.1.symm _, h.bq.far h.ne.1.2.1.symm _, h.ne, h.le⟩
theorem DSt.setQ {w0 w : World} {p4 p5 gU gV gQ : Nat} {V U Q : List Nat} (h : DSt w0 w p4 p5 gU gV gQ V U Q) (i z : Nat) : DSt w0 (w.setCell ⟨gQ, i, none⟩ (.int .u32 (z : Int))) p4 p5 gU gV gQ V U (Q.set i z) :=
  ⟨h.nw.setCell (p := ⟨gQ, i, none⟩) h.le.2 _, h.b4.far h.ne.2.2.1 _, h.b5.far h.ne.2.2.2.2 _, h.bu.far h.ne.1.2.1 _, h.bv.far h.ne.1.2.2 _, h.bq.ecset i z, h.ne, h.le⟩
theorem Box.ecell {w : World} {g : Nat} {L : List Nat} {T : TypeId} {k : IntKind} (h : Box w g (ecells k L) T) {i : Nat} (hi : i < L.length) : w.cell? ⟨g, i, none⟩ = some (.int k (L.getD i 0 : Nat)) := by rw [h.cell, ecells_get k hi]
theorem DSt.drewN {w0 w : World} {p4 p5 gU gV gQ : Nat} {V U Q : List Nat} (h : DSt w0 w p4 p5 gU gV gQ V U Q) (n : Nat) : DSt w0 (w.drewN n) p4 p5 gU gV gQ V U Q :=
  have hn : New w (w.drewN n) := (New.refl w).drewN n
  ⟨h.nw.trans hn, h.b4.new hn, h.b5.new hn, h.bu.new hn, h.bv.new hn, h.bq.new hn, h.ne, h.le⟩
theorem DSt.drew {w0 w : World} {p4 p5 gU gV gQ : Nat} {V U Q : List Nat} (h : DSt w0 w p4 p5 gU gV gQ V U Q) : DSt w0 w.drew p4 p5 gU gV gQ V U Q :=
  have hn : New w w.drew := (New.refl w).drew
  ⟨h.nw.trans hn, h.b4.new hn, h.b5.new hn, h.bu.new hn, h.bv.new hn, h.bq.new hn, h.ne, h.le⟩
/-- The world behind the digits: the row of the remainder is being written. -/
structure RSt (w0 w : World) (p4 p5 gU gQ gR : Nat) (U Q R : List Nat) : Prop where
  nw : New w0 w
  b4 : Box w p4 #[.slice none 0 0] 26
  b5 : Box w p5 #[.slice none 0 0] 26
  bu : Box w gU (ecells .u32 U) 89
  bq : Box w gQ (ecells .u32 Q) 89
  br : Box w gR (ecells .u32 R) 89
  ne : p4 ≠ gR ∧ p5 ≠ gR ∧ gU ≠ gR ∧ gQ ≠ gR
  le : w0.heap.size ≤ gR
theorem DSt.rest {w0 w : World} {p4 p5 gU gV gQ : Nat} {V U Q : List Nat} (h : DSt w0 w p4 p5 gU gV gQ V U Q) (R : List Nat) : RSt w0 (w.alloc (.cells (ecells .u32 R) 89)) p4 p5 gU gQ w.heap.size U Q R :=
  ⟨h.nw.alloc _, h.b4.alloc _, h.b5.alloc _, h.bu.alloc _, h.bq.alloc _, Box.last w _ _, ⟨Nat.ne_of_lt h.b4.lt, Nat.ne_of_lt h.b5.lt, Nat.ne_of_lt h.bu.lt, Nat.ne_of_lt h.bq.lt⟩, h.nw.le⟩
theorem RSt.new {w0 w w' : World} {p4 p5 gU gQ gR : Nat} {U Q R : List Nat} (h : RSt w0 w p4 p5 gU gQ gR U Q R) (hn : New w w') : RSt w0 w' p4 p5 gU gQ gR U Q R :=
  ⟨h.nw.trans hn, h.b4.new hn, h.b5.new hn, h.bu.new hn, h.bq.new hn, h.br.new hn, h.ne, h.le⟩
theorem RSt.setR {w0 w : World} {p4 p5 gU gQ gR : Nat} {U Q R : List Nat} (h : RSt w0 w p4 p5 gU gQ gR U Q R) (i z : Nat) : RSt w0 (w.setCell ⟨gR, i, none⟩ (.int .u32 (z : Int))) p4 p5 gU gQ gR U Q (R.set i z) :=
  ⟨h.nw.setCell (p := ⟨gR, i, none⟩) h.le _, h.b4.far h.ne.1 _, h.b5.far h.ne.2.1 _, h.bu.far h.ne.2.2.1 _, h.bq.far h.ne.2.2.2 _, h.br.ecset i z, h.ne, h.le⟩
theorem dv_rest_step {U R : List Nat} {n s i : Nat} (hl : R.length = n) (hi : i < n) (h : ∀ j, j < i → R.getD j 0 = (U.getD (j + 1) 0 * B32 + U.getD j 0) / 2 ^ s % B32) :
    ∀ j, j < i + 1 → (R.set i ((U.getD (i + 1) 0 * B32 + U.getD i 0) / 2 ^ s % B32)).getD j 0 = (U.getD (j + 1) 0 * B32 + U.getD j 0) / 2 ^ s % B32 := by
  intro j hj
  by_cases e : i = j
  · subst e
    rw [List.getD_eq_getElem?_getD, List.getElem?_set_self (by omega), Option.getD_some]
  · rw [getD_set_ne _ e]; exact h j (by omega)
theorem dv_lt_of_getD {R : List Nat} {n : Nat} {f : Nat → Nat} (hl : R.length = n) (h : ∀ j, j < n → R.getD j 0 = f j % B32) : ∀ d ∈ R, d < B32 := by
  intro d hd
  obtain ⟨i, hi, rfl⟩ := List.getElem_of_mem hd
  have := h i (by omega)
  rw [getD_lt hi] at this
  rw [this]; exact Nat.mod_lt _ (by rw [B32_eq]; omega)
theorem dv_two_boxes {w : World} {p q : Nat} {a b u v : Value} {T : TypeId} (hp : Box w p #[a] T) (hq : Box w q #[b] T) (hne : p ≠ q) :
    Box ((w.setCell ⟨p, 0, none⟩ u).setCell ⟨q, 0, none⟩ v) p #[u] T ∧ Box ((w.setCell ⟨p, 0, none⟩ u).setCell ⟨q, 0, none⟩ v) q #[v] T :=
  ⟨(hp.set 0 u).far hne v, (hq.far (Ne.symm hne) u).set 0 v⟩
end Go.Proofs.YtkjlmibleoecgaaGreatDoor
/- The reference of nat, part 6: Sub. (Printed by mkref6.py.) -/
namespace Go.Proofs.YtkjlmibleoecgaaGreatDoor
set_option linter.unusedSimpArgs false
set_option linter.unusedVariables false
open Go.RowKit
/-- What holds in the reference's Sub. -/
structure RSub (xs ys : List Nat) (k c : Nat) (L : List Nat) : Prop where
  len : L.length = k
  lt : ∀ d ∈ L, d < B9
  carry : c ≤ 1
  sum : val B9 L + val B9 (ys.take k) = val B9 (xs.take k) + B9 ^ k * c
theorem RSub.step {xs ys L : List Nat} {k c d c' : Nat} (h : RSub xs ys k c L) (hd : d < B9) (hc : c' ≤ 1) (e : d + ys.getD k 0 + c = xs.getD k 0 + B9 * c') : RSub xs ys (k + 1) c' (L ++ [d]) := by
  refine ⟨by simp [h.len], fun z hz => ?_, hc, ?_⟩
  · rcases List.mem_append.1 hz with hz | hz
    · exact h.lt z hz
    · simp at hz; subst hz; exact hd
  · rw [val_snoc, h.len, val_take_succ _ ys, val_take_succ _ xs, Nat.pow_succ]
    have h1 := h.sum
    have e1 : B9 ^ k * (d + ys.getD k 0 + c) = B9 ^ k * (xs.getD k 0 + B9 * c') := by rw [e]
    simp only [Nat.mul_add, ← Nat.mul_assoc] at e1 ⊢
    omega
theorem RSub.done {x y c : Nat} {L : List Nat} (h : RSub (dg B9 x) (dg B9 y) (dg B9 x).length c L) (hle : y ≤ x) : val B9 L = x - y := by
  have h1 := h.sum
  rw [List.take_of_length_le (Nat.le_refl _), List.take_of_length_le (dg_len_mono B9_2 hle), dg_val B9_2, dg_val B9_2] at h1
  have h2 := val_lt (b := B9) (by rw [B9_eq]; omega) h.lt
  rw [h.len] at h2
  cases c with
  | zero => omega
  | succ c => rw [Nat.mul_succ] at h1; omega
set_option maxHeartbeats 2000000 in
set_option maxRecDepth 100000 in
theorem rsub_c {x y : Nat} {u v : Value} {w : World} (hx : RefV w u x) (hy : RefV w v y) (hl : (dg B9 x).length ≤ 1000000) (hl2 : (dg B9 y).length ≤ 1000000) :
    Calls Tryz.prog 78 #[u, v] w fun e w' => ∃ v, e = .returned (.tuple #[v, .int .i64 (subE x y)]) ∧ RefV w' v (x - y) ∧ New w w' := by
  obtain ⟨A, l, c, rfl⟩ := hx.form
  obtain ⟨A', l', c', rfl⟩ := hy.form
  have hll : l = (dg B9 x).length := by obtain ⟨_, e, A1, c1, rfl, _⟩ := hx; simp at e; omega
  have HX := Lib.hid hx.sl
  have HY := Lib.hid hy.sl
  have HXV := Lib.hid hx
  have HYV := Lib.hid hy
  have HL := Lib.hid hll
  have HLL1 := Lib.hid hl
  have HLL2 := Lib.hid hl2
  have hl3 : l ≤ 1000000 := by omega
  clear hx hy hll hl hl2
  go_enter Tryz.func78, Tryz.ntmps78
  go_wp2_with fail
  obtain ⟨W0, hW0⟩ : ∃ X, X = ((w.alloc (.cells #[.slice A l c] 29)).alloc (.cells #[.slice A' l' c'] 29)).alloc (.cells #[.slice none 0 0] 29) := ⟨_, rfl⟩
  have HN0 : Hid (New w W0) := Lib.hid (by rw [hW0]; exact (((New.refl w).alloc _).alloc _).alloc _)
  have HB0 : Hid (Box W0 w.heap.size #[.slice A l c] 29) := Lib.hid (by rw [hW0]; exact (((Box.last w _ _).alloc _).alloc _))
  have HB1 : Hid (Box W0 (w.heap.size + 1) #[.slice A' l' c'] 29) := Lib.hid (by rw [hW0]; exact ((Box.last2 w _ _ _).alloc _))
  have HB2 : Hid (Box W0 (w.heap.size + 1 + 1) #[.slice none 0 0] 29) := Lib.hid (by rw [hW0]; exact (Box.last3 w _ _ _ _))
  rw [← hW0]
  clear hW0
  refine (rcmp_c (HXV.out.new HN0.out) (HYV.out.new HN0.out) HLL1.out HLL2.out).mono ?_
  rintro e W1 ⟨rfl, hn1⟩
  have HN1 := Lib.hid (HN0.out.trans hn1)
  have HB0 := Lib.hid (HB0.out.new hn1)
  have HB1 := Lib.hid (HB1.out.new hn1)
  have HB2 := Lib.hid (HB2.out.new hn1)
  clear hn1 HN0
  rcases Nat.lt_or_ge x y with hlt | hle
  · have hcm := cmpN_lt hlt
    rw [hcm]
    have hb := HB2.out
    have hf := hb.frozen 0
    have hc := hb.cell 0
    have hxy : x - y = 0 := by omega
    have hse : subE x y = 11 := by unfold subE; rw [if_pos hlt]
    have HZ := Lib.hid (hb.set 0 (.slice none 0 0) |>.cell 0)
    have HNZ := Lib.hid (HN1.out.setCell (p := ⟨w.heap.size + 1 + 1, 0, none⟩) (by show _ ≤ w.heap.size + 1 + 1; omega) (.slice none 0 0))
    have HE := Lib.hid hse
    have HX0 := Lib.hid hxy
    clear hb hcm hxy hse
    go_wp2
    have hz := HZ.out
    refine bodyPost_ret (v := .tuple #[.agg #[.slice none 0 0], .int .i64 11]) (by simp [results, Tryz.results78, go_sem, hz]) rfl ⟨_, by rw [HE.out], by rw [HX0.out]; exact RefV.zero _, HNZ.out⟩
  · have hcm : 0 ≤ cmpN x y := by unfold cmpN; rw [if_neg (by omega)]; split <;> omega
    have hse : subE x y = 0 := by unfold subE; rw [if_neg (by omega)]
    have HE := Lib.hid hse
    have HLE := Lib.hid hle
    generalize cmpN x y = cm at *
    clear hse hle
    go_wp2
    have HO0 : Hid (OwnE encI 3 w.heap.size (W1.alloc (.cells #[] 3)) (.slice (some ⟨W1.heap.size, 0, none⟩) 0 0) []) := Lib.hid (OwnE.of_box (xs := []) (Box.last W1 #[] 3) HN1.out.le (by decide))
    have HN2 := Lib.hid (HN1.out.alloc (.cells #[] 3))
    have HB0 := Lib.hid (HB0.out.alloc (.cells #[] 3))
    have HB1 := Lib.hid (HB1.out.alloc (.cells #[] 3))
    have HB2 := Lib.hid (HB2.out.alloc (.cells #[] 3))
    generalize W1.alloc (.cells #[] 3) = W2 at *
    go_loopw [6, 7, 8] (fun v6 v7 v8 w' => ∃ (k q : Nat) (L : List Nat) (A5 : Option Addr) (c5 : Nat), v6 = .slice A5 L.length c5 ∧ v7 = .int .i64 (q : Int) ∧ v8 = .int .i64 (k : Int) ∧ k ≤ l ∧ q ≤ 1 ∧ Hid (L.length = k) ∧ Hid (RSub (dg B9 x) (dg B9 y) k q L) ∧ Hid (OwnE encI 3 w.heap.size w' (.slice A5 L.length c5) L) ∧ Hid (Box w' w.heap.size #[.slice A l c] 29) ∧ Hid (Box w' (w.heap.size + 1) #[.slice A' l' c'] 29) ∧ Hid (Box w' (w.heap.size + 1 + 1) #[.slice none 0 0] 29) ∧ Hid (New w w')) (fun _ _ v8 _ => l - (intOf v8).toNat)
    case atStart => exact ⟨0, 0, [], _, _, rfl, rfl, rfl, by omega, by omega, (rfl : [].length = 0), (⟨rfl, by simp, by omega, by simp [val]⟩ : RSub _ _ 0 0 []), HO0.out, HB0.out, HB1.out, HB2.out, HN2.out⟩
    case round =>
      clear HN1 HN2 HB0 HB1 HB2 HO0
      obtain ⟨k, q, L, A5, c5, rfl, rfl, rfl, hk, hq, HLN, HI, HO, HB0, HB1, HB2, HN⟩ := hrel
      have c0 := HB0.out.cell 0
      have c1 := HB1.out.cell 0
      simp only [List.getElem?_toArray, List.getElem?_cons_zero] at c0 c1
      by_cases hkl : k < l
      · obtain ⟨A0, cc0, e0, z1, z2, z3⟩ := HX.out
        obtain ⟨rfl, rfl, rfl⟩ : A = A0 ∧ l = (dg B9 x).length ∧ c = cc0 := by simpa using e0
        obtain ⟨b, o, C, fr, rfl, hbl, hcell⟩ := z3 k hkl
        have hcell2 := HN.out.still hcell
        have HSTEP := Lib.hid (fun d c' => HI.out.step (d := d) (c' := c'))
        have HD2 := Lib.hid (fun n => digit_c (HY.out.new (HN.out.drewN n)) k)
        have b1 := getD_lt9 x k
        have b2 := getD_lt9 y k
        generalize (dg B9 x).getD k 0 = dx at *
        generalize (dg B9 y).getD k 0 = dy at *
        rw [B9_eq] at b1 b2
        have HLL : Hid (L.length ≤ 2000000) := Lib.hid (by rw [HLN.out]; omega)
        have HZ2 := Lib.hid z2
        have HLK := Lib.hid hkl
        unfold maxLen at z2
        clear e0 z1 z3 hcell hbl
        have hpart : ∃ d qq : Nat, d < 1000000000 ∧ qq ≤ 1 ∧ d + dy + q = dx + 1000000000 * qq ∧ ((dx : Int) - dy - q = d ∧ qq = 0 ∨ (dx : Int) - dy - q + 1000000000 = d ∧ (dx : Int) - dy - q < 0 ∧ qq = 1) := by
          rcases Nat.lt_or_ge dx (dy + q) with h | h
          · exact ⟨dx + 1000000000 - dy - q, 1, by omega, by omega, by omega, .inr ⟨by omega, by omega, rfl⟩⟩
          · exact ⟨dx - dy - q, 0, by omega, by omega, by omega, .inl ⟨by omega, rfl⟩⟩
        obtain ⟨d, qq, hd1, hqq, hsum, hcs⟩ := hpart
        have HST := Lib.hid (HSTEP.out d qq (by rw [B9_eq]; exact hd1) hqq (by rw [B9_eq]; exact hsum))
        clear HSTEP hsum
        rcases hcs with ⟨hcs, rfl⟩ | ⟨hcs, hneg, rfl⟩
        · go_wp2
          go_quiet (first
            | (with_reducible exact Calls.quiet_of_same (HD2.out _)))
          obtain ⟨W3, hW3⟩ : ∃ X, X = wr.drewN nq := ⟨_, rfl⟩
          have hn2 : New wr W3 := by rw [hW3]; exact (New.refl _).drewN _
          rw [← hW3]
          clear hW3
          have HCX := Lib.hid ((Box.last W3 #[encI d] 3).cell 0)
          have HOWN := Lib.hid ((HO.out.new hn2).new ((New.refl W3).alloc (.cells #[encI d] 3)))
          have HNN := Lib.hid ((HN.out.trans hn2).alloc (.cells #[encI d] 3))
          go_wp2_with (at_builtin; refine app_own2 encI w _ rfl _ _ 27 3 rfl (.int .i64 0) 8 (by kernel_rfl) info_int rfl (by decide) _ L rfl HNN.out HOWN.out _ _ _ d rfl HCX.out rfl (by have := HLL.out; omega) ?_)
          intro A6 c6 w3 hown3 hn3 hkept hsz3
          have HB0' := Lib.hid (hkept _ _ _ _ _ ((HB0.out.new hn2).alloc (.cells #[encI d] 3)) (by decide))
          have HB1' := Lib.hid (hkept _ _ _ _ _ ((HB1.out.new hn2).alloc (.cells #[encI d] 3)) (by decide))
          have HB2' := Lib.hid (hkept _ _ _ _ _ ((HB2.out.new hn2).alloc (.cells #[encI d] 3)) (by decide))
          have HO4 := Lib.hid hown3
          have HN4 := Lib.hid hn3
          clear hown3 hn3 hkept hsz3 HCX HOWN HNN hn2 c0 c1
          go_wp2
          go_roundw
          case rel => exact ⟨k + 1, 0, L ++ [d], A6, c6, by simp, by go_num, by go_num, by omega, by omega, by rw [List.length_append, HLN.out]; rfl, HST.out, by rw [List.length_append]; exact HO4.out, HB0'.out, HB1'.out, HB2'.out, HN4.out⟩
          case measure => simp [intOf]; omega
        · go_wp2
          go_quiet (first
            | (with_reducible exact Calls.quiet_of_same (HD2.out _)))
          obtain ⟨W3, hW3⟩ : ∃ X, X = wr.drewN nq := ⟨_, rfl⟩
          have hn2 : New wr W3 := by rw [hW3]; exact (New.refl _).drewN _
          rw [← hW3]
          clear hW3
          have HCX := Lib.hid ((Box.last W3 #[encI d] 3).cell 0)
          have HOWN := Lib.hid ((HO.out.new hn2).new ((New.refl W3).alloc (.cells #[encI d] 3)))
          have HNN := Lib.hid ((HN.out.trans hn2).alloc (.cells #[encI d] 3))
          go_wp2_with (at_builtin; refine app_own2 encI w _ rfl _ _ 27 3 rfl (.int .i64 0) 8 (by kernel_rfl) info_int rfl (by decide) _ L rfl HNN.out HOWN.out _ _ _ d rfl HCX.out rfl (by have := HLL.out; omega) ?_)
          intro A6 c6 w3 hown3 hn3 hkept hsz3
          have HB0' := Lib.hid (hkept _ _ _ _ _ ((HB0.out.new hn2).alloc (.cells #[encI d] 3)) (by decide))
          have HB1' := Lib.hid (hkept _ _ _ _ _ ((HB1.out.new hn2).alloc (.cells #[encI d] 3)) (by decide))
          have HB2' := Lib.hid (hkept _ _ _ _ _ ((HB2.out.new hn2).alloc (.cells #[encI d] 3)) (by decide))
          have HO4 := Lib.hid hown3
          have HN4 := Lib.hid hn3
          clear hown3 hn3 hkept hsz3 HCX HOWN HNN hn2 c0 c1
          go_wp2
          go_roundw
          case rel => exact ⟨k + 1, 1, L ++ [d], A6, c6, by simp, by go_num, by go_num, by omega, by omega, by rw [List.length_append, HLN.out]; rfl, HST.out, by rw [List.length_append]; exact HO4.out, HB0'.out, HB1'.out, HB2'.out, HN4.out⟩
          case measure => simp [intOf]; omega
      · obtain rfl : k = l := by omega
        have hfin := RSub.done (c := q) (L := L) (by rw [← HL.out]; exact HI.out) HLE.out
        have hsl := HO.out.sl
        have HT := Lib.hid (rtrim_c hsl)
        have HF := Lib.hid (And.intro HI.out.lt hfin)
        clear hsl hfin
        go_wp2_with fail
        refine HT.out.mono ?_
        rintro e w4 ⟨v, rfl, hv4, hn4⟩
        have hv := RefV.of_sl hv4 HF.out.1
        rw [HF.out.2] at hv
        obtain ⟨A7, l7, c7, e7⟩ := hv.form
        obtain rfl : v = .slice A7 l7 c7 := by simpa using e7
        have hb := HB2.out.new hn4
        have hc := hb.cell 0
        have hf := hb.frozen 0
        have HV := Lib.hid (hv.set hb (by decide) (i := 0) (.slice A7 l7 c7))
        have HZ := Lib.hid (hb.set 0 (.slice A7 l7 c7) |>.cell 0)
        have HNZ := Lib.hid ((HN.out.trans hn4).setCell (p := ⟨w.heap.size + 1 + 1, 0, none⟩) (by show _ ≤ w.heap.size + 1 + 1; omega) (.slice A7 l7 c7))
        clear hv hv4 hn4 hb e7
        go_wp2
        have hz := HZ.out
        refine bodyPost_ret (v := .tuple #[.agg #[.slice A7 l7 c7], .int .i64 0]) (by simp [results, Tryz.results78, go_sem, hz]) rfl ⟨_, by rw [HE.out], HV.out, HNZ.out⟩
end Go.Proofs.YtkjlmibleoecgaaGreatDoor
/- The reference of nat, part 7: Mul. (Printed by mkref7.py.) -/
namespace Go.Proofs.YtkjlmibleoecgaaGreatDoor
set_option linter.unusedSimpArgs false
set_option linter.unusedVariables false
open Go.RowKit
/-- What holds in Mul's outer loop .. -/
structure RMulInv (xs ys : List Nat) (i : Nat) (L : List Nat) : Prop where
  len : L.length = xs.length + ys.length
  lt : ∀ d ∈ L, d < B9
  rest : ∀ j, i + ys.length ≤ j → L.getD j 0 = 0
  prod : val B9 L = val B9 (xs.take i) * val B9 ys
/-- .. and in its inner one. -/
structure RMulIn (xs ys : List Nat) (i k c : Nat) (L : List Nat) : Prop where
  len : L.length = xs.length + ys.length
  lt : ∀ d ∈ L, d < B9
  rest : ∀ j, i + ys.length ≤ j → L.getD j 0 = 0
  carry : c < B9
  prod : val B9 L + B9 ^ (i + k) * c = val B9 (xs.take i) * val B9 ys + B9 ^ i * (xs.getD i 0 * val B9 (ys.take k))
theorem RMulInv.start (xs ys : List Nat) : RMulInv xs ys 0 (List.replicate (xs.length + ys.length) 0) := by
  refine ⟨by simp, fun d hd => ?_, fun j _ => ?_, by simp [val, val_replicate]⟩
  · rw [List.mem_replicate] at hd; rw [hd.2, B9_eq]; omega
  · simp [List.getD_eq_getElem?_getD, List.getElem?_replicate]; split <;> rfl
theorem RMulInv.enter {xs ys : List Nat} {i : Nat} {L : List Nat} (h : RMulInv xs ys i L) : RMulIn xs ys i 0 0 L :=
  ⟨h.len, h.lt, h.rest, by rw [B9_eq]; omega, by simp [val, h.prod]⟩
theorem RMulIn.z_le {xs ys : List Nat} {i k c : Nat} {L : List Nat} (h : RMulIn xs ys i k c L) (hx : xs.getD i 0 < B9) (hy : ys.getD k 0 < B9) (hl : L.getD (i + k) 0 < B9) : c + (L.getD (i + k) 0 + xs.getD i 0 * ys.getD k 0) < B9 * B9 := by
  have hc := h.carry
  have h1 : xs.getD i 0 * ys.getD k 0 ≤ (B9 - 1) * (B9 - 1) := Nat.mul_le_mul (by omega) (by omega)
  generalize xs.getD i 0 * ys.getD k 0 = p at *
  rw [B9_eq] at *; omega
theorem RMulIn.step {xs ys : List Nat} {i k c : Nat} {L : List Nat} (h : RMulIn xs ys i k c L) (hi : i < xs.length) (hk : k < ys.length) (hx : xs.getD i 0 < B9) (hy : ys.getD k 0 < B9) :
    RMulIn xs ys i (k + 1) ((c + (L.getD (i + k) 0 + xs.getD i 0 * ys.getD k 0)) / B9) (L.set (i + k) ((c + (L.getD (i + k) 0 + xs.getD i 0 * ys.getD k 0)) % B9)) := by
  have hL : i + k < L.length := by rw [h.len]; omega
  have hz := h.z_le hx hy (h.lt _ (getD_mem hL))
  refine ⟨by simp [h.len], lt_set h.lt _ (Nat.mod_lt _ (by rw [B9_eq]; omega)), fun j hj => ?_, ?_, ?_⟩
  · rw [List.getD_eq_getElem?_getD, List.getElem?_set_ne (show i + k ≠ j by omega), ← List.getD_eq_getElem?_getD]; exact h.rest j hj
  · rw [Nat.div_lt_iff_lt_mul (by rw [B9_eq]; omega)]; exact hz
  · have e0 := val_set B9 L (i + k) ((c + (L.getD (i + k) 0 + xs.getD i 0 * ys.getD k 0)) % B9) hL
    have e := Nat.div_add_mod (c + (L.getD (i + k) 0 + xs.getD i 0 * ys.getD k 0)) B9
    have h1 := h.prod
    generalize (c + (L.getD (i + k) 0 + xs.getD i 0 * ys.getD k 0)) / B9 = q at *
    generalize (c + (L.getD (i + k) 0 + xs.getD i 0 * ys.getD k 0)) % B9 = r at *
    generalize L.getD (i + k) 0 = l at *
    have e1 : B9 ^ (i + k) * (B9 * q + r) = B9 ^ (i + k) * (c + (l + xs.getD i 0 * ys.getD k 0)) := by rw [e]
    rw [val_take_succ, show i + (k + 1) = (i + k) + 1 from by omega, Nat.pow_succ]
    have e2 : B9 ^ i * (xs.getD i 0 * (B9 ^ k * ys.getD k 0)) = B9 ^ (i + k) * (xs.getD i 0 * ys.getD k 0) := by
      rw [Nat.pow_add, Nat.mul_assoc, ← Nat.mul_assoc (xs.getD i 0), Nat.mul_comm (xs.getD i 0), Nat.mul_assoc]
    simp only [Nat.mul_add, ← Nat.mul_assoc] at e1 e2 h1 e0 ⊢
    omega
theorem RMulIn.leave {xs ys : List Nat} {i c : Nat} {L : List Nat} (h : RMulIn xs ys i ys.length c L) (hi : i < xs.length) : RMulInv xs ys (i + 1) (L.set (i + ys.length) c) := by
  have hL : i + ys.length < L.length := by rw [h.len]; omega
  refine ⟨by simp [h.len], lt_set h.lt _ h.carry, fun j hj => ?_, ?_⟩
  · rw [List.getD_eq_getElem?_getD, List.getElem?_set_ne (show i + ys.length ≠ j by omega), ← List.getD_eq_getElem?_getD]; exact h.rest j (by omega)
  · have e0 := val_set B9 L (i + ys.length) c hL
    rw [h.rest _ (Nat.le_refl _)] at e0
    have h1 := h.prod
    rw [List.take_of_length_le (Nat.le_refl _)] at h1
    rw [val_take_succ, Nat.add_mul, Nat.mul_assoc]
    omega

theorem make_i64 (n : Nat) (h : n ≤ 4000000) (w : World) : (Instr.makeSlice 27 (.int .i64 (n : Int)) (.int .i64 (n : Int))).run Tryz.prog w = .ok (.slice (some ⟨w.heap.size, 0, none⟩) n n) (w.alloc (.cells (ecells .i64 (List.replicate n 0)) 3)) := by
  rw [← ecells_made]
  exact run_make_row' 27 3 _ 8 (by kernel_rfl) info_int rfl .i64 .i64 n (by omega) (by omega) w
set_option maxHeartbeats 4000000 in
set_option maxRecDepth 100000 in
theorem rmul_c {x y : Nat} {u v : Value} {w : World} (hx : RefV w u x) (hy : RefV w v y) (hl : (dg B9 x).length ≤ 1000000) (hl2 : (dg B9 y).length ≤ 1000000) :
    Calls Tryz.prog 97 #[u, v] w fun e w' => ∃ v, e = .returned v ∧ RefV w' v (x * y) ∧ New w w' := by
  obtain ⟨_, rfl, A, c, rfl, hc, hmax, hr⟩ := hx
  obtain ⟨_, rfl, A', c', rfl, hc', hmax', hr'⟩ := hy
  have hxs := dg_lt B9_2 x
  have hval := dg_val B9_2 x
  have hys := dg_lt B9_2 y
  have hval' := dg_val B9_2 y
  have hz1 : (dg B9 x).length = 0 → x = 0 := fun h => (dg_nil B9_2).1 (List.length_eq_zero_iff.1 h)
  have hz2 : (dg B9 y).length = 0 → y = 0 := fun h => (dg_nil B9_2).1 (List.length_eq_zero_iff.1 h)
  generalize dg B9 x = xs at *
  generalize dg B9 y = ys at *
  generalize hn : xs.length = n at *
  generalize hm : ys.length = m at *
  have hmk := make_i64 (n + m) (by omega)
  rw [show ((n + m : Nat) : Int) = (n : Int) + (m : Int) from by omega] at hmk
  have HV := Lib.hid hval
  have HV' := Lib.hid hval'
  have HXS := Lib.hid hxs
  have HYS := Lib.hid hys
  have HN := Lib.hid hn
  have HM := Lib.hid hm
  have HR := Lib.hid hr
  have HR' := Lib.hid hr'
  have HZ1 := Lib.hid hz1
  have HZ2 := Lib.hid hz2
  unfold maxLen at hmax hmax'
  clear hval hval' hxs hys hn hm hr hr' hz1 hz2
  have hcs : n = 0 ∨ (0 < n ∧ m = 0) ∨ (0 < n ∧ 0 < m) := by omega
  rcases hcs with h0 | ⟨h1, h0⟩ | ⟨h1, h2⟩
  · subst h0
    go_enter Tryz.func97, Tryz.ntmps97
    go_wp2
    obtain ⟨W0, hW0⟩ : ∃ X, X = ((w.alloc (.cells #[.slice A 0 c] 29)).alloc (.cells #[.slice A' m c'] 29)).alloc (.cells #[.slice none 0 0] 29) := ⟨_, rfl⟩
    refine bodyPost_ret (v := .agg #[.slice none 0 0]) (by simp [results, Tryz.results97, go_sem]) rfl ⟨_, rfl, ?_, ?_⟩
    · rw [HZ1.out trivial, Nat.zero_mul]; exact RefV.zero _
    · exact ((((New.refl w).alloc _).alloc _).alloc _)
  · subst h0; have hn0 : ((n : Int) == 0) = false := by rw [beq_eq_false_iff_ne]; omega
    go_enter Tryz.func97, Tryz.ntmps97
    go_wp2
    obtain ⟨W0, hW0⟩ : ∃ X, X = ((w.alloc (.cells #[.slice A n c] 29)).alloc (.cells #[.slice A' 0 c'] 29)).alloc (.cells #[.slice none 0 0] 29) := ⟨_, rfl⟩
    refine bodyPost_ret (v := .agg #[.slice none 0 0]) (by simp [results, Tryz.results97, go_sem]) rfl ⟨_, rfl, ?_, ?_⟩
    · rw [HZ2.out trivial, Nat.mul_zero]; exact RefV.zero _
    · exact ((((New.refl w).alloc _).alloc _).alloc _)
  · have hn0 : ((n : Int) == 0) = false := by rw [beq_eq_false_iff_ne]; omega
    have hm0 : ((m : Int) == 0) = false := by rw [beq_eq_false_iff_ne]; omega
    go_enter Tryz.func97, Tryz.ntmps97
    go_wp2
    obtain ⟨W0, hW0⟩ : ∃ X, X = (((w.alloc (.cells #[.slice A n c] 29)).alloc (.cells #[.slice A' m c'] 29)).alloc (.cells #[.slice none 0 0] 29)).alloc (.cells (ecells .i64 (List.replicate (n + m) 0)) 3) := ⟨_, rfl⟩
    have HN0 : Hid (New w W0) := Lib.hid (by rw [hW0]; exact ((((New.refl w).alloc _).alloc _).alloc _).alloc _)
    have HB0 : Hid (Box W0 w.heap.size #[.slice A n c] 29) := Lib.hid (by rw [hW0]; exact (((Box.last w _ _).alloc _).alloc _).alloc _)
    have HB1 : Hid (Box W0 (w.heap.size + 1) #[.slice A' m c'] 29) := Lib.hid (by rw [hW0]; exact ((Box.last2 w _ _ _).alloc _).alloc _)
    have HB2 : Hid (Box W0 (w.heap.size + 1 + 1) #[.slice none 0 0] 29) := Lib.hid (by rw [hW0]; exact (Box.last3 w _ _ _ _).alloc _)
    have HB3 : Hid (Box W0 (w.heap.size + 1 + 1 + 1) (ecells .i64 (List.replicate (n + m) 0)) 3) := Lib.hid (by
      rw [hW0]
      have := Box.last (((w.alloc (.cells #[.slice A n c] 29)).alloc (.cells #[.slice A' m c'] 29)).alloc (.cells #[.slice none 0 0] 29)) (ecells .i64 (List.replicate (n + m) 0)) 3
      rw [World.size_alloc, World.size_alloc, World.size_alloc] at this
      exact this)
    rw [← hW0]
    clear hW0 hmk
    go_loopw [6] (fun i w' => ∃ (k : Nat) (L : List Nat), k ≤ n ∧ i = .int .i64 (k : Int) ∧ Hid (RMulInv xs ys k L) ∧ Hid (New w w') ∧ Hid (Box w' w.heap.size #[.slice A n c] 29) ∧ Hid (Box w' (w.heap.size + 1) #[.slice A' m c'] 29) ∧ Hid (Box w' (w.heap.size + 1 + 1) #[.slice none 0 0] 29) ∧ Hid (Box w' (w.heap.size + 1 + 1 + 1) (ecells .i64 L) 3)) (fun i _ => n - (intOf i).toNat)
    case atStart => exact ⟨0, List.replicate (n + m) 0, by omega, rfl, by have := RMulInv.start xs ys; rw [HN.out, HM.out] at this; exact this, HN0.out, HB0.out, HB1.out, HB2.out, HB3.out⟩
    case round =>
      clear HN0 HB0 HB1 HB2 HB3
      obtain ⟨i, L, hi, rfl, HI, HNw, HB0, HB1, HB2, HB3⟩ := hrel
      have c0 := HB0.out.cell 0
      have c1 := HB1.out.cell 0
      simp only [List.getElem?_toArray, List.getElem?_cons_zero] at c0 c1
      by_cases hlt : i < n
      · obtain ⟨b, o, C, fr, rfl, hbl, hcell⟩ := HR.out i hlt
        have hxd : xs.getD i 0 < B9 := HXS.out _ (getD_mem (by rw [HN.out]; exact hlt))
        have HMI := Lib.hid (RMulInv.enter HI.out)
        generalize hxk : xs.getD i 0 = xd at *
        have HXK := Lib.hid hxk
        have HCELL := Lib.hid hcell
        clear hcell hbl hxk
        go_wp2
        go_loopw [7, 8] (fun c8 k8 w' => ∃ (k q : Nat) (L : List Nat), k ≤ m ∧ k8 = .int .i64 (k : Int) ∧ c8 = .int .i64 (q : Int) ∧ Hid (RMulIn xs ys i k q L) ∧ Hid (New w w') ∧ Hid (Box w' w.heap.size #[.slice (some ⟨b, o, none⟩) n c] 29) ∧ Hid (Box w' (w.heap.size + 1) #[.slice A' m c'] 29) ∧ Hid (Box w' (w.heap.size + 1 + 1) #[.slice none 0 0] 29) ∧ Hid (Box w' (w.heap.size + 1 + 1 + 1) (ecells .i64 L) 3)) (fun _ k _ => m - (intOf k).toNat)
        case atStart => exact ⟨0, 0, L, by omega, rfl, rfl, HMI.out, HNw.out, HB0.out, HB1.out, HB2.out, HB3.out⟩
        case round =>
          clear HNw HB0 HB1 HB2 HB3 c0 c1
          obtain ⟨k, q, L, hk, rfl, rfl, HJ, HNw, HB0, HB1, HB2, HB3⟩ := hrel
          have c0 := HB0.out.cell 0
          have c1 := HB1.out.cell 0
          simp only [List.getElem?_toArray, List.getElem?_cons_zero] at c0 c1
          have hlen : L.length = n + m := by rw [HJ.out.len, HN.out, HM.out]
          have hqc := HJ.out.carry
          by_cases hkm : k < m
          · obtain ⟨b', o', C', fr', rfl, hbl', hcell'⟩ := HR'.out k hkm
            have hcx := HNw.out.still HCELL.out
            have hcy := HNw.out.still hcell'
            have hyd : ys.getD k 0 < B9 := HYS.out _ (getD_mem (by rw [HM.out]; exact hkm))
            have hst := HJ.out.step (by rw [HN.out]; exact hlt) (by rw [HM.out]; exact hkm) (by rw [HXK.out]; exact hxd) hyd
            have hld : L.getD (i + k) 0 < B9 := HJ.out.lt _ (getD_mem (by omega))
            have hz := HJ.out.z_le (by rw [HXK.out]; exact hxd) hyd hld
            have hck := (HB3.out.cell (i + k)).trans (ecells_get .i64 (show i + k < L.length by omega))
            have hset := fun z => ecells_set .i64 L (i + k) z
            have hfz := HB3.out.frozen (i + k)
            rw [HXK.out] at hst hz
            generalize L.getD (i + k) 0 = l at *
            generalize ys.getD k 0 = yd at *
            have hxd' : (xd : Int) ≤ 999999999 := by rw [B9_eq] at hxd; omega
            have hyd' : (yd : Int) ≤ 999999999 := by rw [B9_eq] at hyd; omega
            have hld' : (l : Int) ≤ 999999999 := by rw [B9_eq] at hld; omega
            have hq' : (q : Int) ≤ 999999999 := by rw [B9_eq] at hqc; omega
            have hp1 : xd * yd ≤ 999999999 * 999999999 := Nat.mul_le_mul (by omega) (by omega)
            have hmul : (xd : Int) * (yd : Int) = ((xd * yd : Nat) : Int) := (Int.natCast_mul _ _).symm
            generalize xd * yd = p at *
            have e0 : (q : Int) + (l : Int) + (p : Int) = ((q + (l + p) : Nat) : Int) := by omega
            obtain ⟨z, hzz⟩ : ∃ z : Nat, z = q + (l + p) := ⟨_, rfl⟩
            have hzb : z ≤ 999999999999999999 := by omega
            rw [← hzz] at e0 hst hz
            have e1 : (z : Int).tmod 1000000000 = ((z % B9 : Nat) : Int) := by rw [B9_eq, Int.tmod_eq_emod_of_nonneg (by omega)]; omega
            have e2 : (z : Int).tdiv 1000000000 = ((z / B9 : Nat) : Int) := by rw [B9_eq, Int.tdiv_eq_ediv_of_nonneg (by omega)]; omega
            have e3 : (z : Int) % 1000000000 = ((z % B9 : Nat) : Int) := by rw [B9_eq]; omega
            have e4 : (z : Int) / 1000000000 = ((z / B9 : Nat) : Int) := by rw [B9_eq]; omega
            have hqq : z / B9 ≤ 999999999 := by rw [B9_eq]; omega
            have hik : ((i : Int) + (k : Int)).toNat = i + k := by omega
            have es := hset (z % B9)
            have hrr : z % B9 < 1000000000 := by rw [B9_eq]; omega
            generalize z / B9 = qq at *
            generalize z % B9 = rr at *
            have HST := Lib.hid hst
            have ES := Lib.hid es
            have HLN := Lib.hid hlen
            clear hcell' hbl' hst hset hlen hz es hzz
            go_upto_region 11 with fail
            go_quiet (fail)
            obtain ⟨W2, hW2⟩ : ∃ X, X = wr.drewN nq := ⟨_, rfl⟩
            have hn2 : New wr W2 := by rw [hW2]; exact (New.refl _).drewN _
            rw [← hW2]
            clear hW2 c0 c1 hck hfz hcx hcy
            have HBb := Lib.hid (HB3.out.new hn2)
            have hck := (HBb.out.cell (i + k)).trans (ecells_get .i64 (show i + k < L.length by rw [HLN.out]; omega))
            have hfz := HBb.out.frozen (i + k)
            generalize L.getD (i + k) 0 = l2 at hck
            have HBS := Lib.hid (HBb.out.set (i + k) (.int .i64 (rr : Int)))
            rw [ES.out] at HBS
            have HB0' := Lib.hid ((HB0.out.new hn2).far (p := w.heap.size + 1 + 1 + 1) (i := i + k) (by omega) (.int .i64 (rr : Int)))
            have HB1' := Lib.hid ((HB1.out.new hn2).far (p := w.heap.size + 1 + 1 + 1) (i := i + k) (by omega) (.int .i64 (rr : Int)))
            have HB2' := Lib.hid ((HB2.out.new hn2).far (p := w.heap.size + 1 + 1 + 1) (i := i + k) (by omega) (.int .i64 (rr : Int)))
            have HN' := Lib.hid ((HNw.out.trans hn2).setCell (p := ⟨w.heap.size + 1 + 1 + 1, i + k, none⟩) (by show _ ≤ w.heap.size + 1 + 1 + 1; omega) (.int .i64 (rr : Int)))
            clear hn2
            go_wp2
            go_roundw
            case rel => exact ⟨k + 1, qq, _, by omega, by go_num, by go_num, HST.out, HN'.out, HB0'.out, HB1'.out, HB2'.out, HBS.out⟩
            case measure => simp [intOf]; omega
          · obtain rfl : k = m := by omega
            have hlv := RMulIn.leave (xs := xs) (ys := ys) (i := i) (c := q) (L := L) (by rw [HM.out]; exact HJ.out) (by rw [HN.out]; exact hlt)
            rw [HM.out] at hlv
            have hck := (HB3.out.cell (i + k)).trans (ecells_get .i64 (show i + k < L.length by omega))
            have hfz := HB3.out.frozen (i + k)
            generalize L.getD (i + k) 0 = l at hck
            have e3 := ecells_set .i64 L (i + k) q
            have hik : ((i : Int) + (k : Int)).toNat = i + k := by omega
            have HLV := Lib.hid hlv
            have HBS := Lib.hid (HB3.out.set (i + k) (.int .i64 (q : Int)))
            rw [e3] at HBS
            have HB0' := Lib.hid ((HB0.out).far (p := w.heap.size + 1 + 1 + 1) (i := i + k) (by omega) (.int .i64 (q : Int)))
            have HB1' := Lib.hid ((HB1.out).far (p := w.heap.size + 1 + 1 + 1) (i := i + k) (by omega) (.int .i64 (q : Int)))
            have HB2' := Lib.hid ((HB2.out).far (p := w.heap.size + 1 + 1 + 1) (i := i + k) (by omega) (.int .i64 (q : Int)))
            have HN' := Lib.hid ((HNw.out).setCell (p := ⟨w.heap.size + 1 + 1 + 1, i + k, none⟩) (by show _ ≤ w.heap.size + 1 + 1 + 1; omega) (.int .i64 (q : Int)))
            have HLN := Lib.hid hlen
            clear hlv e3 hlen
            go_wp2
            go_roundw
            case rel => exact ⟨i + 1, _, by omega, by go_num, HLV.out, HN'.out, HB0'.out, HB1'.out, HB2'.out, HBS.out⟩
            case measure => simp [intOf]; omega
      · obtain rfl : i = n := by omega
        have hpr := HI.out.prod
        rw [List.take_of_length_le (by rw [HN.out]; omega), HV.out, HV'.out] at hpr
        have hlen : L.length = i + m := by rw [HI.out.len, HN.out, HM.out]
        have hlts := HI.out.lt
        have HP := Lib.hid hpr
        have HLT := Lib.hid hlts
        have hs := Sl.of_block HB3.out (by rw [hlen]; simp [maxLen]; omega)
        rw [hlen] at hs
        have HT := Lib.hid (rtrim_c hs)
        clear hpr hlen hlts hs
        go_wp2_with fail
        refine HT.out.mono ?_
        rintro e w4 ⟨v, rfl, hv4, hn4⟩
        have hv := RefV.of_sl hv4 HLT.out
        rw [HP.out] at hv
        obtain ⟨A7, l7, c7, e7⟩ := hv.form
        obtain rfl : v = .slice A7 l7 c7 := by simpa using e7
        have hb := HB2.out.new hn4
        have hc := hb.cell 0
        have hf := hb.frozen 0
        have HV := Lib.hid (hv.set hb (by decide) (i := 0) (.slice A7 l7 c7))
        have HZ := Lib.hid (hb.set 0 (.slice A7 l7 c7) |>.cell 0)
        have HNZ := Lib.hid ((HNw.out.trans hn4).setCell (p := ⟨w.heap.size + 1 + 1, 0, none⟩) (by show _ ≤ w.heap.size + 1 + 1; omega) (.slice A7 l7 c7))
        clear hv hv4 hn4 hb e7
        go_wp2
        have hz := HZ.out
        refine bodyPost_ret (v := .agg #[.slice A7 l7 c7]) (by simp [results, Tryz.results97, go_sem, hz]) rfl ⟨_, rfl, HV.out, HNZ.out⟩
end Go.Proofs.YtkjlmibleoecgaaGreatDoor
/- The reference of nat, part 9: small. -/
namespace Go.Proofs.YtkjlmibleoecgaaGreatDoor
set_option linter.unusedSimpArgs false
set_option linter.unusedVariables false
open Go.RowKit
/-- What holds in small's loop. -/
structure RSm (xs : List Nat) (n m k q : Nat) (L : List Nat) : Prop where
  len : L.length = k
  lt : ∀ d ∈ L, d < B9
  carry : q < B9
  sum : val B9 L + B9 ^ k * q = n * val B9 (xs.take k) + m
theorem RSm.step {xs L : List Nat} {n m k q : Nat} (h : RSm xs n m k q L) (hn : n < B9) (hx : xs.getD k 0 < B9) : RSm xs n m (k + 1) ((q + xs.getD k 0 * n) / B9) (L ++ [(q + xs.getD k 0 * n) % B9]) := by
  have hc := h.carry
  refine ⟨by simp [h.len], fun d hd => ?_, ?_, ?_⟩
  · rcases List.mem_append.1 hd with hd | hd
    · exact h.lt d hd
    · simp at hd; subst hd; exact Nat.mod_lt _ (by rw [B9_eq]; omega)
  · rw [Nat.div_lt_iff_lt_mul (by rw [B9_eq]; omega)]
    have : xs.getD k 0 * n ≤ (B9 - 1) * (B9 - 1) := Nat.mul_le_mul (by omega) (by omega)
    rw [B9_eq] at *
    omega
  · rw [val_snoc, h.len, val_take_succ _ xs, Nat.pow_succ]
    have h1 := h.sum
    have e := Nat.div_add_mod (q + xs.getD k 0 * n) B9
    generalize (q + xs.getD k 0 * n) / B9 = a at *
    generalize (q + xs.getD k 0 * n) % B9 = r at *
    have e1 : B9 ^ k * (B9 * a + r) = B9 ^ k * (q + xs.getD k 0 * n) := by rw [e]
    have e2 : n * (B9 ^ k * xs.getD k 0) = B9 ^ k * (xs.getD k 0 * n) := by rw [Nat.mul_left_comm, Nat.mul_comm n]
    simp only [Nat.mul_add, ← Nat.mul_assoc] at e1 e2 ⊢
    omega
theorem RSm.done {x n m k q : Nat} {L : List Nat} (h : RSm (dg B9 x) n m k q L) (hk : (dg B9 x).length ≤ k) : (∀ d ∈ L ++ [q], d < B9) ∧ val B9 (L ++ [q]) = x * n + m := by
  refine ⟨fun d hd => ?_, ?_⟩
  · rcases List.mem_append.1 hd with hd | hd
    · exact h.lt d hd
    · simp at hd; subst hd; exact h.carry
  · have h1 := h.sum
    rw [List.take_of_length_le hk, dg_val B9_2] at h1
    rw [val_snoc, h.len, h1, Nat.mul_comm]
set_option maxRecDepth 100000 in
set_option maxHeartbeats 4000000 in
theorem rsmall_c {x n m : Nat} {u : Value} {w : World} (hx : RefV w u x) (hn : n < B9) (hm : m < B9) (hl : (dg B9 x).length ≤ 1000000) :
    Calls Tryz.prog 79 #[u, .int .i64 (n : Int), .int .i64 (m : Int)] w fun e w' => ∃ v, e = .returned v ∧ RefV w' v (x * n + m) ∧ New w w' := by
  obtain ⟨A, l, c, rfl⟩ := hx.form
  have hll : l = (dg B9 x).length := by obtain ⟨_, e, A1, c1, rfl, _⟩ := hx; simp at e; omega
  obtain ⟨A1, c1, e1, _, _, hr⟩ := hx.sl
  obtain ⟨rfl, -, rfl⟩ : A1 = A ∧ (dg B9 x).length = l ∧ c1 = c := by injection e1 with a b c; exact ⟨a.symm, b.symm, c.symm⟩
  have HL := Lib.hid hll
  have HR := Lib.hid hr
  have hl3 : l ≤ 1000000 := by omega
  have hn9 : n < 1000000000 := by rw [B9_eq] at hn; exact hn
  have hm9 : m < 1000000000 := by rw [B9_eq] at hm; exact hm
  have HN9 := Lib.hid hn
  have HM9 := Lib.hid hm
  clear hx hll hl hr hn hm e1
  go_enter Tryz.func79, Tryz.ntmps79
  go_wp2
  obtain ⟨W0, hW0⟩ : ∃ X, X = ((w.alloc (.cells #[.slice A1 l c1] RNat)).alloc (.cells #[.slice none 0 0] RNat)).alloc (.cells #[] 3) := ⟨_, rfl⟩
  have HN0 : Hid (New w W0) := Lib.hid (by rw [hW0]; exact (((New.refl w).alloc _).alloc _).alloc _)
  have HB0 : Hid (Box W0 w.heap.size #[.slice A1 l c1] RNat) := Lib.hid (by rw [hW0]; exact ((Box.last w _ _).alloc _).alloc _)
  have HB2 : Hid (Box W0 (w.heap.size + 1) #[.slice none 0 0] RNat) := Lib.hid (by rw [hW0]; exact (Box.last2 w _ _ _).alloc _)
  have HO0 : Hid (OwnE encI 3 w.heap.size W0 (.slice (some ⟨w.heap.size + 1 + 1, 0, none⟩) 0 0) []) := Lib.hid (by
    rw [hW0]
    have := Box.last ((w.alloc (.cells #[.slice A1 l c1] RNat)).alloc (.cells #[.slice none 0 0] RNat)) #[] 3
    rw [World.size_alloc, World.size_alloc] at this
    exact OwnE.of_box (xs := []) this (by omega) (by decide))
  rw [← hW0]
  clear hW0
  go_loopw [2, 7, 8] (fun v2 v7 v8 w' => ∃ (k q : Nat) (L : List Nat) (A5 : Option Addr) (c5 : Nat), v7 = .slice A5 L.length c5 ∧ v2 = .int .i64 (q : Int) ∧ v8 = .int .i64 (k : Int) ∧ k ≤ l ∧ q < 1000000000 ∧ Hid (L.length = k) ∧ Hid (RSm (dg B9 x) n m k q L) ∧ Hid (OwnE encI 3 w.heap.size w' (.slice A5 L.length c5) L) ∧ Hid (Box w' w.heap.size #[.slice A1 l c1] RNat) ∧ Hid (Box w' (w.heap.size + 1) #[.slice none 0 0] RNat) ∧ Hid (New w w')) (fun _ _ v8 _ => l - (intOf v8).toNat)
  case atStart => exact ⟨0, m, [], _, _, rfl, rfl, rfl, by omega, hm9, (rfl : [].length = 0), (⟨rfl, by simp, HM9.out, by simp [val]⟩ : RSm _ _ _ 0 m []), HO0.out, HB0.out, HB2.out, HN0.out⟩
  case round =>
    obtain ⟨k, q, L, A5, c5, rfl, rfl, rfl, hk, hq, HLN, HI, HO, HB0, HB2, HN⟩ := hrel
    have c0 := HB0.out.cell 0
    simp only [List.getElem?_toArray, List.getElem?_cons_zero] at c0
    by_cases hkl : k < l
    · obtain ⟨b, o, C, fr, rfl, hbl, hcell⟩ := HR.out k (by rw [← HL.out]; exact hkl)
      have hst := HI.out.step HN9.out (getD_lt9 x k)
      have hcr := HN.out.still hcell
      have b1 := getD_lt9 x k
      generalize (dg B9 x).getD k 0 = dx at *
      have b3 : dx < 1000000000 := by rw [B9_eq] at b1; exact b1
      have hmul : (dx : Int) * (n : Int) = ((dx * n : Nat) : Int) := (Int.natCast_mul _ _).symm
      have hpl : dx * n ≤ 999999999 * 999999999 := Nat.mul_le_mul (by omega) (by omega)
      generalize dx * n = p at *
      have e1 : ((q : Int) + (p : Int)).tmod 1000000000 = (((q + p) % B9 : Nat) : Int) := by rw [B9_eq, Int.tmod_eq_emod_of_nonneg (by omega)]; omega
      have e2 : ((q : Int) + (p : Int)).tdiv 1000000000 = (((q + p) / B9 : Nat) : Int) := by rw [B9_eq, Int.tdiv_eq_ediv_of_nonneg (by omega)]; omega
      have e3 : ((q : Int) + (p : Int)) % 1000000000 = (((q + p) % B9 : Nat) : Int) := by rw [B9_eq]; omega
      have e4 : ((q : Int) + (p : Int)) / 1000000000 = (((q + p) / B9 : Nat) : Int) := by rw [B9_eq]; omega
      have hz : (q + p) / B9 < 1000000000 := by have := hst.carry; rw [B9_eq] at this ⊢; exact this
      generalize (q + p) / B9 = qq at *
      generalize (q + p) % B9 = rr at *
      have HST := Lib.hid hst
      clear hst b1 hbl hcell
      have HLL : Hid (L.length ≤ 2000000) := Lib.hid (by rw [HLN.out]; omega)
      have HCX := Lib.hid ((Box.last wr #[encI rr] 3).cell 0)
      have HOWN := Lib.hid (HO.out.new ((New.refl wr).alloc (.cells #[encI rr] 3)))
      have HNN := Lib.hid (HN.out.alloc (.cells #[encI rr] 3))
      go_wp2_with (at_builtin; refine app_own2 encI w _ rfl _ _ 27 3 rfl (.int .i64 0) 8 (by kernel_rfl) info_int rfl (by decide) _ L rfl HNN.out HOWN.out _ _ _ rr rfl HCX.out rfl (by have := HLL.out; omega) ?_)
      intro A6 c6 w3 hown3 hn3 hkept hsz3
      have HB0' := Lib.hid (hkept _ _ _ _ _ (HB0.out.alloc (.cells #[encI rr] 3)) (by decide))
      have HB2' := Lib.hid (hkept _ _ _ _ _ (HB2.out.alloc (.cells #[encI rr] 3)) (by decide))
      have HO4 := Lib.hid hown3
      have HN4 := Lib.hid hn3
      clear hown3 hn3 hkept hsz3 HCX HOWN HNN c0 hcr
      go_wp2
      go_roundw
      case rel => exact ⟨k + 1, qq, L ++ [rr], A6, c6, by simp, by go_num, by go_num, by omega, hz, by rw [List.length_append, HLN.out]; rfl, HST.out, by rw [List.length_append]; exact HO4.out, HB0'.out, HB2'.out, HN4.out⟩
      case measure => simp [intOf]; omega
    · have hk2 : k = l := by omega
      have hfin := HI.out.done (by rw [← HL.out]; omega)
      have HF := Lib.hid hfin
      have HLL : Hid (L.length ≤ 2000000) := Lib.hid (by rw [HLN.out]; omega)
      have HCX := Lib.hid ((Box.last wr #[encI q] 3).cell 0)
      have HOWN := Lib.hid (HO.out.new ((New.refl wr).alloc (.cells #[encI q] 3)))
      have HNN := Lib.hid (HN.out.alloc (.cells #[encI q] 3))
      have hka : ¬ (k : Int) < (l : Int) := by omega
      clear hfin hk2
      go_wp2_with (at_builtin; refine app_own2 encI w _ rfl _ _ 27 3 rfl (.int .i64 0) 8 (by kernel_rfl) info_int rfl (by decide) _ L rfl HNN.out HOWN.out _ _ _ q rfl HCX.out rfl (by have := HLL.out; omega) ?_)
      intro A6 c6 w3 hown3 hn3 hkept hsz3
      have HB2' := Lib.hid (hkept _ _ _ _ _ (HB2.out.alloc (.cells #[encI q] 3)) (by decide))
      have HN4 := Lib.hid hn3
      have hsl := hown3.sl
      have HT := Lib.hid (rtrim_c hsl)
      clear hown3 hn3 hkept hsz3 HCX HOWN HNN c0 hsl
      go_wp2_with fail
      refine HT.out.mono ?_
      rintro e w4 ⟨v, rfl, hv4, hn4⟩
      have hv := RefV.of_sl hv4 HF.out.1
      rw [HF.out.2] at hv
      obtain ⟨A7, l7, c7, e7⟩ := hv.form
      obtain rfl : v = .slice A7 l7 c7 := by simpa using e7
      have hb : Box w4 (w.heap.size + 1) #[.slice none 0 0] RNat := hn4.block HB2'.out
      have hc := hb.cell 0
      have hf := hb.frozen 0
      have HV := Lib.hid (hv.set hb (by decide) (i := 0) (.slice A7 l7 c7))
      have HZ := Lib.hid (hb.set 0 (.slice A7 l7 c7) |>.cell 0)
      have HNZ := Lib.hid ((HN4.out.trans hn4).setCell (p := ⟨w.heap.size + 1, 0, none⟩) (by show _ ≤ w.heap.size + 1; omega) (.slice A7 l7 c7))
      clear hv hv4 hn4 hb e7
      go_wp2
      have hz := HZ.out
      refine bodyPost_ret (v := .agg #[.slice A7 l7 c7]) (by simp [results, Tryz.results79, go_sem, hz]) rfl ⟨_, rfl, HV.out, HNZ.out⟩
end Go.Proofs.YtkjlmibleoecgaaGreatDoor
/- The reference of nat, part 10: times, word, gcd. -/
namespace Go.Proofs.YtkjlmibleoecgaaGreatDoor
set_option linter.unusedSimpArgs false
set_option linter.unusedVariables false
open Go.RowKit
theorem rbox_cell0 {w : World} {p : Nat} {v : Value} {T : TypeId} (h : Box w p #[v] T) : w.cell? ⟨p, 0, none⟩ = some v ∧ w.frozen? ⟨p, 0, none⟩ = false := ⟨h.cell 0, h.frozen 0⟩
theorem rsmall_0 {x n : Nat} {u : Value} {w : World} (hx : RefV w u x) (hn : n < B9) (hl : (dg B9 x).length ≤ 1000000) :
    Calls Tryz.prog 79 #[u, .int .i64 (n : Int), .int .i64 0] w fun e w' => ∃ v, e = .returned v ∧ RefV w' v (x * n) ∧ New w w' :=
  rsmall_c (m := 0) hx hn (by rw [B9_eq]; omega) hl
set_option maxRecDepth 100000 in
set_option maxHeartbeats 4000000 in
theorem rtimes_c {x y : Nat} {u v : Value} {w : World} (hx : RefV w u x) (hy : RefV w v y) (h0 : 0 < y) (hxy : x < B9 * y) (hl : (dg B9 x).length ≤ 500000) (hl2 : (dg B9 y).length ≤ 500000) :
    Calls Tryz.prog 77 #[u, v] w fun e w' => e = .returned (.int .i64 ((x / y : Nat) : Int)) ∧ New w w' := by
  obtain ⟨A, l, c, rfl⟩ := hx.form
  obtain ⟨A', l', c', rfl⟩ := hy.form
  have hq : x / y < B9 := by rw [Nat.div_lt_iff_lt_mul h0]; exact hxy
  have HD := Lib.hid (fun m => Nat.le_div_iff_mul_le h0 (x := m) (y := x))
  have HSM := Lib.hid (fun W m (h : New w W) (hm : m < B9) => rsmall_0 (hy.new h) hm (by omega))
  have HCM := Lib.hid (fun W m v (h : New w W) (hv : RefV W v (y * m)) (hm : m < B9) => rcmp_c hv (hx.new h) (by have := dg_len_mul B9_2 y m; have := dg_len (b := B9) (n := m) (L := 1) B9_2 (by rw [Nat.pow_one]; exact hm); omega) (by omega))
  have HNW := Lib.hid (((New.refl w).alloc (.cells #[.slice A l c] RNat)).alloc (.cells #[.slice A' l' c'] RNat))
  have HB0 := Lib.hid ((Box.last w #[.slice A l c] RNat).alloc (.cells #[.slice A' l' c'] RNat))
  have HB1 := Lib.hid (Box.last2 w (.cells #[.slice A l c] RNat) #[.slice A' l' c'] RNat)
  generalize hqd : x / y = q at *
  have hq9 : q < 1000000000 := by rw [B9_eq] at hq; exact hq
  clear hx hy hl hl2 hxy hq hqd h0
  go_enter Tryz.func77, Tryz.ntmps77
  go_wp2
  generalize (w.alloc (.cells #[.slice A l c] RNat)).alloc (.cells #[.slice A' l' c'] RNat) = W0 at *
  go_loopw [5, 6] (fun v5 v6 w' => ∃ lo hi : Nat, v5 = .int .i64 (lo : Int) ∧ v6 = .int .i64 (hi : Int) ∧ lo ≤ q ∧ q ≤ hi ∧ hi ≤ 999999999 ∧ Hid (Box w' w.heap.size #[.slice A l c] RNat) ∧ Hid (Box w' (w.heap.size + 1) #[.slice A' l' c'] RNat) ∧ Hid (New w w')) (fun v5 v6 _ => (intOf v6).toNat - (intOf v5).toNat)
  case atStart => exact ⟨0, 999999999, rfl, rfl, by omega, by omega, by omega, HB0.out, HB1.out, HNW.out⟩
  case round =>
    clear HB0 HB1 HNW
    obtain ⟨lo, hi, rfl, rfl, hlo, hhi, hh9, HB0, HB1, HNW⟩ := hrel
    by_cases hlt : lo < hi
    · obtain ⟨m, hm⟩ : ∃ m, m = (lo + hi + 1) / 2 := ⟨_, rfl⟩
      have hm1 : ((lo : Int) + (hi : Int) + 1) / 2 = (m : Int) := by omega
      have hm2 : ((lo : Int) + (hi : Int) + 1).tdiv 2 = (m : Int) := by rw [Int.tdiv_eq_ediv_of_nonneg (by omega)]; exact hm1
      have hml : lo < m ∧ m ≤ hi := by omega
      have hm9 : m < B9 := by rw [B9_eq]; omega
      have HS := Lib.hid (fun W h => HSM.out W m h hm9)
      have HC := Lib.hid (fun W v h hv => HCM.out W m v h hv hm9)
      have hdm := HD.out m
      clear hm hm9
      obtain ⟨c0, _⟩ := rbox_cell0 HB0.out
      obtain ⟨c1, _⟩ := rbox_cell0 HB1.out
      by_cases hle : y * m ≤ x
      all_goals
        first
        | have hsc : decide (cmpN (y * m) x ≤ 0) = true := by (unfold cmpN; split; rfl; split; omega; rfl)
        | have hsc : decide (cmpN (y * m) x ≤ 0) = false := by (unfold cmpN; rw [if_neg (by omega), if_pos (by omega)]; rfl)
        have hqm : (m ≤ q) ↔ (y * m ≤ x) := by rw [hdm, Nat.mul_comm]
        have hcase : (m ≤ q) ∨ (q < m) := by omega
        generalize cmpN (y * m) x = sc at *
        have hqm2 : (y * m ≤ x) ∨ ¬ (y * m ≤ x) := Classical.em _
        have HQM := Lib.hid hqm
        have HLE := Lib.hid hle
        clear hqm hcase hqm2 hdm hle
        go_wp2_with fail
        go_region_held3 (fun V => New wr V ∧ V.cell? ⟨w.heap.size, 0, none⟩ = some (.slice A l c) ∧ V.cell? ⟨w.heap.size + 1, 0, none⟩ = some (.slice A' l' c'))
          (first
            | exact ⟨(New.refl _).drew, by simpa using c0, by simpa using c1⟩
            | (go_split_ands; exact ⟨New.trans (by assumption) (by assumption), New.still (by assumption) (by assumption), New.still (by assumption) (by assumption)⟩)
            | (go_split_ands; exact ⟨by assumption, by assumption, by assumption⟩))
          ((rw [if_pos (by rfl)]; go_big_op; go_split_ands; first
            | (with_reducible (refine (HC.out _ _ (HNW.out.trans (by first | assumption | exact New.trans (by assumption) (by assumption))) (by assumption)).mono ?_); rintro e w' ⟨rfl, hn⟩; dsimp only)
            | (with_reducible (refine (HS.out _ (HNW.out.trans (by first | assumption | exact New.trans (by assumption) (by assumption)))).mono ?_); rintro e w' ⟨v', rfl, hv', hn⟩; dsimp only)))
        go_split_ands
        rename_i hN _ _
        have HB02 := Lib.hid (HB0.out.new hN)
        have HB12 := Lib.hid (HB1.out.new hN)
        have HN2 := Lib.hid (HNW.out.trans hN)
        clear hN hv' hn
        go_wp2
        go_roundw
        first
        | (case rel => exact ⟨m, hi, by go_num, by go_num, by have := HQM.out; have := HLE.out; omega, by omega, by omega, HB02.out, HB12.out, HN2.out⟩)
        | (case rel => exact ⟨lo, m - 1, by go_num, by go_num, by omega, by have := HQM.out; have := HLE.out; omega, by omega, HB02.out, HB12.out, HN2.out⟩)
        case measure => simp [intOf]; omega
    · obtain rfl : q = lo := by omega
      go_wp2
      go_ret
      exact ⟨rfl, HNW.out⟩
set_option maxHeartbeats 2000000 in
theorem rword_c {x : Nat} {v : Value} {w : World} (h : RefV w v x) (hl : (dg B9 x).length ≤ 2) :
    Calls Tryz.prog 88 #[v] w fun e w' => e = .returned (.int .u64 (x : Int)) ∧ New w w' := by
  obtain ⟨_, rfl, A, c, rfl, hc, hmax, hr⟩ := h
  have hxs := dg_lt B9_2 x
  have hval := dg_val B9_2 x
  generalize dg B9 x = xs at *
  generalize hn : xs.length = n at *
  have HV := Lib.hid hval
  have HXS := Lib.hid hxs
  have HN := Lib.hid hn
  have HR := Lib.hid hr
  clear hval hxs hn hr
  go_enter Tryz.func88, Tryz.ntmps88
  go_wp2
  go_loopw [3, 4] (fun v3 i w' => ∃ (k s : Nat), k ≤ n ∧ i = .int .i64 ((k : Int) - 1) ∧ v3 = .int .u64 (s : Int) ∧ Hid (s = val B9 (xs.drop k)) ∧ s < 1000000000000000000 ∧ Hid (s < B9 ^ (n - k)) ∧
    w' = w.alloc (.cells #[.slice A n c] RNat)) (fun _ i _ => (intOf i + 1).toNat)
  case atStart => exact ⟨n, 0, by omega, rfl, rfl, (by rw [List.drop_of_length_le (by rw [HN.out]; omega)]; rfl : 0 = val B9 (xs.drop n)), by omega, (by simp : 0 < B9 ^ (n - n)), rfl⟩
  case round =>
    obtain ⟨k, s, hk, rfl, rfl, HS, hs18, HS2, rfl⟩ := hrel
    by_cases hlt : 0 < k
    · obtain ⟨j, rfl⟩ : ∃ j, k = j + 1 := ⟨k - 1, by omega⟩
      obtain ⟨b, o, C, fr, rfl, hbl, hcell⟩ := HR.out j (by omega)
      have hc3 := fun o1 => ((New.refl w).alloc o1).still hcell
      have hxd : xs.getD j 0 < B9 := HXS.out _ (getD_mem (by rw [HN.out]; omega))
      have hv : s * B9 + xs.getD j 0 = val B9 (xs.drop j) := by
        rw [List.drop_eq_getElem_cons (by rw [HN.out]; omega), val, ← HS.out, getD_lt (by rw [HN.out]; omega)]
        rw [Nat.mul_comm]; omega
      have hb2 : s * B9 + xs.getD j 0 < B9 ^ (n - j) := by
        rw [show n - j = (n - (j + 1)) + 1 by omega, Nat.pow_succ]
        have := Nat.mul_le_mul_right B9 HS2.out
        rw [Nat.succ_mul] at this
        omega
      have hb3 : B9 ^ (n - j) ≤ B9 ^ 2 := Nat.pow_le_pow_right (by rw [B9_eq]; omega) (by omega)
      have hb4 : B9 ^ 2 = 1000000000000000000 := by rw [B9_eq]
      have hz : (s : Int) * 1000000000 + ((xs.getD j 0 : Nat) : Int) = ((s * B9 + xs.getD j 0 : Nat) : Int) := by rw [B9_eq]; omega
      have HV2 := Lib.hid hv
      have HB2 := Lib.hid hb2
      have hs9 : s < 1000000000 := by
        have h5 : B9 ^ (n - (j + 1)) ≤ B9 ^ 1 := Nat.pow_le_pow_right (by rw [B9_eq]; omega) (by omega)
        have h6 := HS2.out
        rw [Nat.pow_one, B9_eq] at h5
        rw [B9_eq] at h6
        omega
      generalize xs.getD j 0 = xd at *
      have h18 : s * B9 + xd < 1000000000000000000 := by omega
      generalize s * B9 + xd = s2 at *
      rw [B9_eq] at hxd
      have hw1 : IntKind.u64.wrap (xd : Int) = (xd : Int) := IntWalk.u64_in _ (by omega)
      have hw2 : IntKind.u64.wrap ((s : Int) * 1000000000) = (s : Int) * 1000000000 := IntWalk.u64_in _ (by omega)
      have hw3 : IntKind.u64.wrap (s2 : Int) = (s2 : Int) := IntWalk.u64_in _ (by omega)
      have hj1 : ((j + 1 : Nat) : Int) - 1 = (j : Int) := by omega
      clear hcell hbl hb2 hb3 hb4 hv
      go_wp2
      go_roundw
      case rel => exact ⟨j, s2, by omega, by go_num, by go_num, HV2.out, h18, HB2.out, by first | rfl | trivial⟩
      case measure => simp [intOf]; try omega
    · obtain rfl : k = 0 := by omega
      have hs := HS.out
      rw [List.drop_zero, HV.out] at hs
      have HX := Lib.hid hs
      clear hs
      go_wp2
      go_ret
      exact ⟨by rw [HX.out]; rfl, (New.refl w).alloc _⟩
set_option maxHeartbeats 2000000 in
theorem rgcd_w {p0 q0 : Nat} (hp0 : p0 < 18446744073709551616) (hq0 : q0 < 18446744073709551616) (w : World) :
    Calls Tryz.prog 87 #[.int .u64 (p0 : Int), .int .u64 (q0 : Int)] w fun e w' => e = .returned (.int .u64 ((Nat.gcd p0 q0 : Nat) : Int)) ∧ New w w' := by
  go_enter Tryz.func87, Tryz.ntmps87
  go_wp2
  go_loopw [0, 1] (fun v5 v6 w' => ∃ p q : Nat, v5 = .int .u64 (p : Int) ∧ v6 = .int .u64 (q : Int) ∧ p < 18446744073709551616 ∧ q < 18446744073709551616 ∧ Hid (Nat.gcd p q = Nat.gcd p0 q0) ∧ Hid (New w w')) (fun _ v6 _ => (intOf v6).toNat)
  case atStart => exact ⟨p0, q0, rfl, rfl, hp0, hq0, (rfl : Nat.gcd p0 q0 = _), New.refl w⟩
  case round =>
    obtain ⟨p, q, rfl, rfl, hp, hq, HPQ, HWR⟩ := hrel
    by_cases hq0 : 0 < q
    · have hv0 : ¬ (q : Int) = 0 := by omega
      have hqt : Int.tmod (p : Int) (q : Int) = ((p % q : Nat) : Int) := by rw [Int.tmod_eq_emod_of_nonneg (by omega)]; exact (Int.natCast_emod _ _).symm
      have hml := Nat.mod_lt p hq0
      have HPQ2 : Hid (Nat.gcd q (p % q) = Nat.gcd p0 q0) := Lib.hid (by rw [← HPQ.out, Nat.gcd_comm p q, Nat.gcd_rec q p, Nat.gcd_comm])
      have HML := Lib.hid hml
      generalize p % q = z at *
      have hw1 : IntKind.u64.wrap (z : Int) = (z : Int) := IntWalk.u64_in _ (by omega)
      have hz64 : z < 18446744073709551616 := by omega
      have hqi : (0 : Int) < (q : Int) := by omega
      clear hml
      go_wp2
      go_quiet (fail)
      have HWR2 : Hid (New w (wr.drewN nq)) := Lib.hid (HWR.out.drewN nq)
      go_wp2
      go_roundw
      case rel => exact ⟨q, z, by go_num, by go_num, hq, hz64, HPQ2.out, HWR2.out⟩
      case measure => have := HML.out; simp [intOf]; omega
    · obtain rfl : q = 0 := by omega
      have HPX : Hid (Nat.gcd p0 q0 = p) := Lib.hid (by have := HPQ.out; rw [Nat.gcd_zero_right] at this; exact this.symm)
      clear hq0 hq
      go_wp2
      go_ret
      exact ⟨by rw [HPX.out]; rfl, HWR.out⟩
end Go.Proofs.YtkjlmibleoecgaaGreatDoor
/- The reference of nat, part 11: one, small2; long division in plain words. -/
namespace Go.Proofs.YtkjlmibleoecgaaGreatDoor
set_option linter.unusedSimpArgs false
set_option linter.unusedVariables false
open Go.RowKit
/-- 'one', from the top: digits of the quotient, the rest. -/
def pt9 (by_ : Nat) : List Nat → List Nat × Nat
  | [] => ([], 0)
  | x :: r => (((pt9 by_ r).2 * B9 + x) / by_ :: (pt9 by_ r).1, ((pt9 by_ r).2 * B9 + x) % by_)
theorem pt9_facts {by_ : Nat} (h0 : 0 < by_) (hb : by_ < B9) : ∀ xs : List Nat, (∀ d ∈ xs, d < B9) →
    (pt9 by_ xs).1.length = xs.length ∧ (∀ d ∈ (pt9 by_ xs).1, d < B9) ∧ (pt9 by_ xs).2 < by_ ∧ val B9 (pt9 by_ xs).1 * by_ + (pt9 by_ xs).2 = val B9 xs
  | [], _ => by simp [pt9, val, h0]
  | x :: r, h => by
    obtain ⟨h1, h2, h3, h4⟩ := pt9_facts h0 hb r (fun d hd => h d (List.mem_cons_of_mem _ hd))
    have hx := h x (List.mem_cons_self ..)
    simp only [pt9]
    generalize pt9 by_ r = s at *
    obtain ⟨q, c⟩ := s
    simp only at *
    refine ⟨by simp [h1], ?_, Nat.mod_lt _ h0, ?_⟩
    · intro d hd
      rcases List.mem_cons.1 hd with rfl | hd
      · rw [Nat.div_lt_iff_lt_mul h0]
        have : (c + 1) * B9 ≤ by_ * B9 := Nat.mul_le_mul_right _ h3
        rw [Nat.add_mul, Nat.mul_comm by_] at this
        omega
      · exact h2 d hd
    · simp only [val]
      have e := Nat.div_add_mod (c * B9 + x) by_
      generalize (c * B9 + x) / by_ = a at *
      generalize (c * B9 + x) % by_ = b at *
      rw [← h4, Nat.add_mul, Nat.mul_add, Nat.mul_assoc]
      rw [Nat.mul_comm by_ a] at e
      rw [Nat.mul_comm c] at e
      omega
theorem pt9_drop {by_ k : Nat} {xs : List Nat} (h0 : 0 < k) (hk : k ≤ xs.length) : pt9 by_ (xs.drop (k - 1)) = (((pt9 by_ (xs.drop k)).2 * B9 + xs.getD (k - 1) 0) / by_ :: (pt9 by_ (xs.drop k)).1, ((pt9 by_ (xs.drop k)).2 * B9 + xs.getD (k - 1) 0) % by_) := by
  rw [List.drop_eq_getElem_cons (by omega : k - 1 < xs.length), getD_lt (by omega), show k - 1 + 1 = k from by omega]; rfl
theorem RefV.set2 {w : World} {v : Value} {n : Nat} (h : RefV w v n) {p q : Nat} {C D : Array Value} {T : TypeId} (hp : Box w p C T) (hq : Box w q D T) (hne : p ≠ q) (ht : T ≠ 3) (a b : Value) : RefV ((w.setCell ⟨p, 0, none⟩ a).setCell ⟨q, 0, none⟩ b) v n :=
  (h.set hp ht (i := 0) a).set (hq.far (Ne.symm hne) (i := 0) a) ht (i := 0) b
theorem r_two_boxes {w : World} {p q : Nat} {a b u v : Value} {T : TypeId} (hp : Box w p #[a] T) (hq : Box w q #[b] T) (hne : p ≠ q) :
    Box ((w.setCell ⟨p, 0, none⟩ u).setCell ⟨q, 0, none⟩ v) p #[u] T ∧ Box ((w.setCell ⟨p, 0, none⟩ u).setCell ⟨q, 0, none⟩ v) q #[v] T :=
  ⟨(hp.set 0 u).far hne v, (hq.far (Ne.symm hne) u).set 0 v⟩
set_option maxHeartbeats 2000000 in
theorem rone_c {x by_ : Nat} {v : Value} {w : World} (h : RefV w v x) (h0 : 0 < by_) (hb : by_ < B9) (hl : (dg B9 x).length ≤ 1000000) :
    Calls Tryz.prog 75 #[v, .int .i64 (by_ : Int)] w fun e w' => ∃ q r, e = .returned (.tuple #[q, r]) ∧ RefV w' q (x / by_) ∧ RefV w' r (x % by_) ∧ New w w' := by
  obtain ⟨u, rfl, A, c, rfl, hc, hmax, hr⟩ := h
  have hxs := dg_lt B9_2 x
  have hval := dg_val B9_2 x
  generalize dg B9 x = xs at *
  generalize hn : xs.length = n at *
  have hmk := make_i64 n (by omega)
  have hby : (by_ : Int) ≤ 999999999 := by rw [B9_eq] at hb; omega
  have hby0 : 0 < (by_ : Int) := by omega
  have hbn0 : ¬ (by_ : Int) = 0 := by omega
  go_enter Tryz.func75, Tryz.ntmps75
  go_wp2
  go_loopw [7, 8] (fun c7 i w' => ∃ k : Nat, k ≤ n ∧ i = .int .i64 ((k : Int) - 1) ∧ c7 = .int .i64 ((pt9 by_ (xs.drop k)).2 : Nat) ∧
    w' = (((w.alloc (.cells #[.slice A n c] RNat)).alloc (.cells #[.slice none 0 0] RNat)).alloc (.cells #[.slice none 0 0] RNat)).alloc (.cells (ecells .i64 (List.replicate k 0 ++ (pt9 by_ (xs.drop k)).1)) 3)) (fun _ i _ => (intOf i + 1).toNat)
  case atStart => exact ⟨n, Nat.le_refl _, rfl, by rw [List.drop_of_length_le (by omega)]; rfl, by rw [List.drop_of_length_le (by omega)]; simp [pt9]⟩
  case round =>
    obtain ⟨k, hk, rfl, rfl, rfl⟩ := hrel
    have hfa := pt9_facts h0 hb (xs.drop k) (fun d hd => hxs d (List.mem_of_mem_drop hd))
    by_cases hlt : 0 < k
    · obtain ⟨b, o, C, fr, rfl, hbl, hcell⟩ := hr (k - 1) (by omega)
      have hstep := pt9_drop (by_ := by_) hlt (by omega : k ≤ xs.length)
      have hx : xs.getD (k - 1) 0 < B9 := hxs _ (getD_mem (by omega))
      generalize hxk : xs.getD (k - 1) 0 = d at *
      generalize pt9 by_ (xs.drop k) = s at *
      obtain ⟨q, r⟩ := s
      obtain ⟨hql, -, hr0, -⟩ := hfa
      simp only at *
      have hr9 : r < 1000000000 := by rw [B9_eq] at hb; omega
      have hd9 : d < 1000000000 := by rw [B9_eq] at hx; exact hx
      obtain ⟨z, hz⟩ : ∃ z : Nat, z = r * B9 + d := ⟨_, rfl⟩
      have hsum : (r : Int) * 1000000000 + (d : Int) = (z : Int) := by rw [hz, B9_eq]; omega
      rw [← hz] at hstep
      have hz64 : (z : Int) ≤ 1000000000000000000 := by rw [hz, B9_eq]; omega
      have hqz : z / by_ < B9 := by
        rw [Nat.div_lt_iff_lt_mul h0, hz]
        have : (r + 1) * B9 ≤ by_ * B9 := Nat.mul_le_mul_right _ hr0
        rw [Nat.add_mul, Nat.mul_comm by_] at this
        omega
      have hq : Int.tdiv (z : Int) (by_ : Int) = ((z / by_ : Nat) : Int) := by rw [Int.tdiv_eq_ediv_of_nonneg (by omega)]; exact (Int.natCast_ediv _ _).symm
      have hm : Int.tmod (z : Int) (by_ : Int) = ((z % by_ : Nat) : Int) := by rw [Int.tmod_eq_emod_of_nonneg (by omega)]; exact (Int.natCast_emod _ _).symm
      have hq' : (z : Int) / (by_ : Int) = ((z / by_ : Nat) : Int) := (Int.natCast_ediv _ _).symm
      have hm' : (z : Int) % (by_ : Int) = ((z % by_ : Nat) : Int) := (Int.natCast_emod _ _).symm
      generalize z / by_ = qd at *
      generalize z % by_ = rd at *
      have hqd9 : (qd : Int) ≤ 1000000000 := by rw [B9_eq] at hqz; omega
      have hw3 : IntKind.i64.wrap ((qd : Nat) : Int) = ((qd : Nat) : Int) := IntWalk.i64_in _ (by omega)
      have hw4 : IntKind.i64.wrap ((r : Int) * 1000000000) = (r : Int) * 1000000000 := IntWalk.i64_in _ (by omega)
      have hw5 : IntKind.i64.wrap ((z : Nat) : Int) = ((z : Nat) : Int) := IntWalk.i64_in _ (by omega)
      have hck : (ecells .i64 (List.replicate k 0 ++ q))[k - 1]? = some (.int .i64 0) := by
        rw [ecells_get _ (by simp; omega)]
        simp [List.getD_eq_getElem?_getD, List.getElem?_append, show k - 1 < k from by omega]
      have hset : (ecells .i64 (List.replicate k 0 ++ q)).setIfInBounds (k - 1) (.int .i64 (qd : Int)) = ecells .i64 (List.replicate (k - 1) 0 ++ (qd :: q)) := by
        rw [ecells_set]
        congr 1
        obtain ⟨j, rfl⟩ : ∃ j, k = j + 1 := ⟨k - 1, by omega⟩
        rw [Nat.add_sub_cancel, List.replicate_succ', List.append_assoc, List.set_append_right _ _ (by simp)]
        simp
      generalize ecells .i64 (List.replicate k 0 ++ q) = EC at *
      have hc3 := fun o1 o2 o3 o4 => ((((New.refl w).alloc o1).alloc o2).alloc o3).alloc o4 |>.still hcell
      have hi : ((k : Int) - 1).toNat = k - 1 := by omega
      have HS := Lib.hid hstep
      have HE := Lib.hid hset
      have HZ := Lib.hid hz
      have HQ := Lib.hid hqz
      have HV := Lib.hid hval
      have HX := Lib.hid hxk
      have HN := Lib.hid hn
      clear hr hmk hql hcell hstep hset hval hxk hn hbl hxs hz hqz
      go_wp2
      go_roundw
      case rel =>
        refine ⟨k - 1, by omega, by rw [show ((k - 1 : Nat) : Int) = (k : Int) - 1 from by omega], ?_, ?_⟩
        · rw [HS.out]
        · rw [HS.out, HE.out]
      case measure => simp [intOf]; omega
    · obtain rfl : k = 0 := by omega
      simp only [List.drop_zero] at hfa ⊢
      generalize pt9 by_ xs = s at *
      obtain ⟨q, r⟩ := s
      obtain ⟨hql, hqd, hr0, hv⟩ := hfa
      simp only [List.replicate_zero, List.nil_append] at *
      have hql' : q.length = n := by rw [hql]; exact hn
      have hq1 : x / by_ = val B9 q := by rw [← hval, ← hv, Nat.mul_comm, Nat.mul_add_div h0, Nat.div_eq_of_lt hr0, Nat.add_zero]
      have hq2 : x % by_ = r := by rw [← hval, ← hv, Nat.mul_comm, Nat.mul_add_mod, Nat.mod_eq_of_lt hr0]
      have hr64 : r < 18446744073709551616 := by rw [B9_eq] at hb; omega
      have hr5 : (r : Int) ≤ 1000000000 := by rw [B9_eq] at hb; omega
      have hw1 : IntKind.u64.wrap (r : Int) = (r : Int) := IntWalk.u64_in _ (by omega)
      have HQ2 := Lib.hid hq2
      have HN := Lib.hid hql'
      have HX := Lib.hid hq1
      have HL := Lib.hid hqd
      have HOF := Lib.hid (fun W => rof_c hr64 W)
      clear hr hmk hql hn hql' hv hval hxs hq1 hq2 hqd
      go_wp2_with fail
      obtain ⟨W0, hW0⟩ : ∃ X, X = (((w.alloc (.cells #[.slice A n c] RNat)).alloc (.cells #[.slice none 0 0] RNat)).alloc (.cells #[.slice none 0 0] RNat)).alloc (.cells (ecells .i64 q) 3) := ⟨_, rfl⟩
      have hb1 : Box W0 (w.heap.size + 1) #[.slice none 0 0] RNat := by rw [hW0]; exact (((Box.last2 w _ _ _).alloc _).alloc _)
      have hb2 : Box W0 (w.heap.size + 1 + 1) #[.slice none 0 0] RNat := by rw [hW0]; exact ((Box.last3 w _ _ _ _).alloc _)
      have hb3 : Box W0 (w.heap.size + 1 + 1 + 1) (ecells .i64 q) 3 := by
        rw [hW0]
        have := Box.last (((w.alloc (.cells #[.slice A n c] RNat)).alloc (.cells #[.slice none 0 0] RNat)).alloc (.cells #[.slice none 0 0] RNat)) (ecells .i64 q) 3
        rw [World.size_alloc, World.size_alloc, World.size_alloc] at this
        exact this
      have hnw : New w W0 := by rw [hW0]; exact ((((New.refl w).alloc _).alloc _).alloc _).alloc _
      have hs := Sl.of_block hb3 (by have := HN.out; simp [maxLen]; omega)
      rw [show q.length = n from HN.out] at hs
      rw [← hW0]
      clear hW0
      refine (rtrim_c hs).mono ?_
      rintro e w1 ⟨v1, rfl, h1, h2⟩
      have hv1 := RefV.of_sl h1 HL.out
      rw [← HX.out] at hv1
      have HV1 := Lib.hid hv1
      obtain ⟨A1, l1, c1, e1⟩ := hv1.form
      obtain rfl : v1 = .slice A1 l1 c1 := by simpa using e1
      clear hs h1 hv1 e1 hb3
      go_wp2_with fail
      refine (HOF.out _).mono ?_
      rintro e w2 ⟨v2, rfl, hv2, hn2⟩
      obtain ⟨A2, l2, c2, rfl⟩ := hv2.form
      have hn12 := h2.trans hn2
      have HB1 := Lib.hid (hb1.new hn12)
      have HB2 := Lib.hid (hb2.new hn12)
      have HNW := Lib.hid (hnw.trans hn12)
      have HQ7 := Lib.hid ((HV1.out.new hn2).set2 HB1.out HB2.out (by omega) (by decide) (.slice A1 l1 c1) (.slice A2 l2 c2))
      have HR7 := Lib.hid (hv2.set2 HB1.out HB2.out (by omega) (by decide) (.slice A1 l1 c1) (.slice A2 l2 c2))
      obtain ⟨g4, g5⟩ := r_two_boxes (u := .slice A1 l1 c1) (v := .slice A2 l2 c2) HB1.out HB2.out (by omega)
      obtain ⟨hc4, hf4⟩ := rbox_cell0 HB1.out
      obtain ⟨hc5, hf5⟩ := rbox_cell0 (HB2.out.far (p := w.heap.size + 1) (i := 0) (by omega) (.slice A1 l1 c1))
      obtain ⟨k4, _⟩ := rbox_cell0 g4
      obtain ⟨k5, _⟩ := rbox_cell0 g5
      have HN7 := Lib.hid ((HNW.out.setCell (p := ⟨w.heap.size + 1, 0, none⟩) (by simp; try omega) (.slice A1 l1 c1)).setCell (p := ⟨w.heap.size + 1 + 1, 0, none⟩) (by simp; try omega) (.slice A2 l2 c2))
      clear hb1 hb2 hnw h2 hn2 hn12 hv2 g4 g5
      go_wp2
      refine bodyPost_ret (v := .tuple #[.agg #[.slice A1 l1 c1], .agg #[.slice A2 l2 c2]]) (by simp [results, Tryz.results75, go_sem, k4, k5]) rfl ⟨_, _, rfl, HQ7.out, by rw [HQ2.out]; exact HR7.out, HN7.out⟩
end Go.Proofs.YtkjlmibleoecgaaGreatDoor
/- The reference of nat, part 12: small2. -/
namespace Go.Proofs.YtkjlmibleoecgaaGreatDoor
set_option linter.unusedSimpArgs false
set_option linter.unusedVariables false
open Go.RowKit
theorem run_app_none {P : Program} {w : World} (base : Nat) (t ty e : TypeId) (i : TypeInfo) (size c : Nat) (ht : P.underlying t = some (.slice e)) (hi : P.info? e = some i)
    (v : Value) (n : Nat) (xs : List Value) (hown : w.ownsRow base e size v n xs) :
    (Builtin.append_ #[t, t] ty #[v, .slice none 0 c]).run P w = .ok v w := by
  rcases hown.2 with ⟨rfl, rfl⟩ | ⟨g, cap, cur, rfl, _, _, hnc, _⟩
  · simp [Builtin.append_, run_underlying ht, sizeOf, typeInfo, hi, Builtin.lenOf, Builtin.firstCells]
  · simp [Builtin.append_, run_underlying ht, sizeOf, typeInfo, hi, Builtin.lenOf, Builtin.firstCells, hnc, storeCells]
theorem app_none {P : Program} {w : World} {ops : Array Oper} {rest : List Oper} {o : Oper} {a : Act} {Q : Exit → Act → World → Prop} (hgd : o.guard = none) (s x : Operand) (t : TypeId)
    (ho : o.op = .call { callee := .builtin .append, args := #[s, x], argTypes := #[t, t] })
    (base : Nat) (e : TypeId) (i : TypeInfo) (size c : Nat) (ht : P.underlying t = some (.slice e)) (hi : P.info? e = some i)
    (v : Value) (n : Nat) (xs : List Value) (hs : a.eval s = v) (hown : w.ownsRow base e size v n xs) (hx : a.eval x = .slice none 0 c)
    (h : wpList P ops Q rest (a.put o.dst v) w) : wpList P ops Q (o :: rest) a w := by
  refine wpList_plain hgd fun K hK => ?_
  have hrun := run_app_none (P := P) (w := w) base t o.type e i size c ht hi v n xs hown
  unfold Oper.wp
  simp [execOp, ho, resolve, invoke, builtin, hs, hx, hrun, Result.andThen]
  exact hK _ _ h
theorem app_many {P : Program} {α : Type} (enc : α → Value) (w0 w : World) {ops : Array Oper} {rest : List Oper} {o : Oper} {a : Act} {Q : Exit → Act → World → Prop} (hgd : o.guard = none) (s x : Operand) (t E : TypeId)
    (ho : o.op = .call { callee := .builtin .append, args := #[s, x], argTypes := #[t, t] })
    (z : Value) (bytes : Nat) (ht : P.underlying t = some (.slice E)) (hi : (P.info? E).map (fun i => (i.zero, i.size, i.bytes)) = some (some z, 1, bytes)) (hzs : z.cells.size = 1) (hby : bytes ≤ 16)
    (v : Value) (xs : List α) (hs : a.eval s = v) (hn : New w0 w) (hown : OwnE enc E w0.heap.size w v xs)
    (ad : Addr) (m c : Nat) (ys : List α) (hm : ys.length = m) (hx : a.eval x = .slice (some ad) m c) (hy : ∀ j u, (ys.map enc)[j]? = some u → w.cell? (ad.add j) = some u) (h1 : ∀ y : α, (enc y).oneCell' = true) (hl : xs.length + m ≤ 1099511627776)
    (h : ∀ A c' w', OwnE enc E w0.heap.size w' (.slice A (xs.length + m) c') (xs ++ ys) → New w0 w' → (∀ (p : Nat) (C : Array Value) (T : TypeId) (fr : Nat × Nat), w.heap[p]? = some (Obj.cells C T fr) → T ≠ E → w'.heap[p]? = some (Obj.cells C T fr)) → wpList P ops Q rest (a.put o.dst (.slice A (xs.length + m) c')) w') : wpList P ops Q (o :: rest) a w := by
  subst hm
  obtain ⟨i0, hi, hz0, hz1, hz2⟩ := info_parts hi
  refine wpList_append_own w hgd s x t ho w0.heap.size E i0 z 1 bytes ht hi hz0 hz1 hz2 hzs (by decide) v xs.length (xs.map enc) hs hown ad ys.length c (ys.map enc) hx (by simp) hy ?_ (by unfold maxLen; omega) ?_ hn.le ?_
  · intro u hu
    obtain ⟨y, _, rfl⟩ := List.mem_map.1 hu
    exact h1 y
  · have : (xs.length + ys.length) * bytes ≤ (xs.length + ys.length) * 16 := Nat.mul_le_mul_left _ hby
    omega
  · intro v' w' ho hg _
    have hown' : OwnE enc E w0.heap.size w' v' (xs ++ ys) := by unfold OwnE; rw [List.map_append, List.length_append]; exact ho
    obtain ⟨A, c', rfl⟩ := hown'.form
    rw [List.length_append] at *
    refine h A c' w' hown' (Below.grown hn hg hn.le fun k hk => ?_) (fun p C T fr hp hT => ?_)
    · rcases hown.2 with ⟨rfl, _⟩ | ⟨g, cap, cur, rfl, h1, _⟩
      · simp [Value.ownBlock] at hk
      · simp [Value.ownBlock] at hk; omega
    · rw [hg.block p (lt_of_block hp) ?_]
      · exact hp
      · intro hk
        rcases hown.2 with ⟨rfl, _⟩ | ⟨g, cap, cur, rfl, h1, h2, _⟩
        · simp [Value.ownBlock] at hk
        · simp [Value.ownBlock] at hk
          subst hk
          rw [hp] at h2
          injection h2 with h2; injection h2 with _ h2 _
          exact hT h2
set_option maxHeartbeats 800000 in
theorem rtrim_a {xs : List Nat} {A : Option Addr} {l c : Nat} {w : World} (h : Sl 3 .i64 w (.slice A l c) xs) :
    Calls Tryz.prog 80 #[.slice A l c] w fun e w' => ∃ m, e = .returned (.agg #[.slice A m c]) ∧ Sl 3 .i64 w' (.slice A m c) (trim xs) ∧ New w w' := by
  obtain ⟨A1, c1, e1, hc, hm, hr⟩ := h
  obtain ⟨rfl, rfl, rfl⟩ : A1 = A ∧ l = xs.length ∧ c1 = c := by injection e1 with a b c; exact ⟨a.symm, b, c.symm⟩
  clear e1
  have hm0 := hm
  unfold maxLen at hm
  have hfin : ∀ w', New w w' → Sl 3 .i64 w' (.slice A1 (trim xs).length c1) (trim xs) := fun w' hb => by
    have hl := trim_le xs
    refine Sl.new ⟨A1, c1, rfl, by omega, hm0, fun i hi => ?_⟩ hb
    obtain ⟨b, o, C, fr, e, h1, h2⟩ := hr i (by omega)
    refine ⟨b, o, C, fr, e, h1, ?_⟩
    have e1 : (trim xs).getD i 0 = (xs.take (trim xs).length).getD i 0 := congrArg (fun l : List Nat => l.getD i 0) (trim_prefix xs)
    rw [e1, getD_take _ _ _ _ hi]; exact h2
  have HF := Lib.hid hfin
  clear hfin hm0
  go_enter Tryz.func80, Tryz.ntmps80
  go_wp2
  go_loopw [0] (fun v w' => ∃ m : Nat, v = .slice A1 m c1 ∧ m ≤ xs.length ∧ (trim (xs.take m) = trim xs) ∧ ∃ n, w' = (w.alloc (.cells #[.slice none 0 0] 29)).drewN n) (fun v _ => match v with | .slice _ m _ => m | _ => 0)
  case atStart => exact ⟨xs.length, rfl, Nat.le_refl _, by simp, 0, rfl⟩
  case round =>
    obtain ⟨m, rfl, hm1, ht, n, rfl⟩ := hrel
    have HT := Lib.hid ht
    clear ht
    by_cases h0 : 0 < m
    · obtain ⟨b, o, C, fr, rfl, hbl, hcell⟩ := hr (m - 1) (by omega)
      have hb := lt_of_block hbl
      clear hbl
      clear hr
      by_cases hz : xs.getD (m - 1) 0 = 0
      · have hcell' : w.cell? ⟨b, o + (m - 1), none⟩ = some (.int .i64 0) := by rw [hcell, hz]; rfl
        have HZ := Lib.hid hz
        clear hcell hz
        go_wp2
        go_roundw
        case rel => exact ⟨m - 1, rfl, by omega, by rw [trim_take_pred h0 hm1 HZ.out]; exact HT.out, _, rfl⟩
        case measure => simp; omega
      · have hz' : (((xs.getD (m - 1) 0 : Nat) : Int) == 0) = false := by rw [beq_eq_false_iff_ne]; omega
        have ht2 : trim xs = xs.take m := by rw [← HT.out, trim_take_id h0 hm1 hz]
        have hlen : (trim xs).length = m := by rw [ht2, List.length_take]; omega
        have hf : ∀ w', New w w' → Sl 3 .i64 w' (.slice (some ⟨b, o, none⟩) m c1) (trim xs) := by
          have := HF.out; rw [hlen] at this; exact this
        have HL := Lib.hid hf
        clear hlen ht2 hf
        generalize hd : xs.getD (m - 1) 0 = d at hz hz' hcell
        have HD := Lib.hid hd
        clear hd hz
        go_wp2
        refine bodyPost_ret (v := .agg #[.slice (some ⟨b, o, none⟩) m c1]) (by simp [results, Tryz.results80, go_sem]) rfl ⟨_, rfl, ?_, ?_⟩
        · exact HL.out _ ((((New.refl w).alloc _).drewN _).setCell (Nat.le_refl _) _)
        · exact (((New.refl w).alloc _).drewN _).setCell (Nat.le_refl _) _
    · obtain rfl : m = 0 := by omega
      have hlen : (trim xs).length = 0 := by rw [← HT.out]; rfl
      have hf : ∀ w', New w w' → Sl 3 .i64 w' (.slice A1 0 c1) (trim xs) := by
        have := HF.out; rw [hlen] at this; exact this
      have HL := Lib.hid hf
      clear hr hlen hf
      go_wp2
      refine bodyPost_ret (v := .agg #[.slice A1 0 c1]) (by simp [results, Tryz.results80, go_sem]) rfl ⟨_, rfl, ?_, ?_⟩
      · exact HL.out _ ((((New.refl w).alloc _).drewN _).setCell (Nat.le_refl _) _)
      · exact (((New.refl w).alloc _).drewN _).setCell (Nat.le_refl _) _
/-- A row of one's own is new. -/
theorem OwnE.fresh {α : Type} {enc : α → Value} {E : TypeId} {B : Nat} {w : World} {A : Option Addr} {l c : Nat} {xs : List α} (h : OwnE enc E B w (.slice A l c) xs) : ∀ ad, A = some ad → B ≤ ad.block := by
  intro ad e
  rcases h.2 with ⟨h1, _⟩ | ⟨g, cap, cur, h1, h2, _⟩
  · injection h1 with h1; rw [h1] at e; cases e
  · injection h1 with h1; rw [h1] at e; obtain rfl := Option.some.inj e; exact h2
theorem Sl.far {E : TypeId} {k : IntKind} {w : World} {A : Option Addr} {l c q i : Nat} {xs : List Nat} (h : Sl E k w (.slice A l c) xs) (hne : ∀ ad, A = some ad → ad.block ≠ q) (u : Value) : Sl E k (w.setCell ⟨q, i, none⟩ u) (.slice A l c) xs := by
  obtain ⟨A1, c1, e, h1, h2, h3⟩ := h
  refine ⟨A1, c1, e, h1, h2, fun j hj => ?_⟩
  obtain ⟨b, o, C, fr, e2, hl, hc⟩ := h3 j hj
  have hb : b ≠ q := hne ⟨b, o, none⟩ (by injection e with e; rw [e, e2])
  refine ⟨b, o, C, fr, e2, by rw [Below.heap_setCell w _ u b hb]; exact hl, ?_⟩
  rw [← hc]
  exact World.cell?_of_block (Below.heap_setCell w _ u b hb)
theorem RefV.far {w : World} {A : Option Addr} {l c q i n : Nat} (h : RefV w (.agg #[.slice A l c]) n) (hne : ∀ ad, A = some ad → ad.block ≠ q) (u : Value) : RefV (w.setCell ⟨q, i, none⟩ u) (.agg #[.slice A l c]) n := ⟨_, rfl, h.sl.far hne u⟩
set_option maxHeartbeats 2000000 in
theorem rsmall2_c {x n : Nat} {u : Value} {w : World} (hx : RefV w u x) (hn : n < B9) (hl : (dg B9 x).length ≤ 1000000) :
    Calls Tryz.prog 76 #[u, .int .i64 (n : Int)] w fun e w' => ∃ A l c, e = .returned (.agg #[.slice A l c]) ∧ RefV w' (.agg #[.slice A l c]) (x * B9 + n) ∧ New w w' ∧ ∀ ad, A = some ad → w.heap.size ≤ ad.block := by
  have hxl := dg_lt B9_2 x
  have hxv := dg_val B9_2 x
  obtain ⟨_, rfl, A, c, rfl, hc, hm, hr⟩ := hx
  generalize dg B9 x = xs at *
  have hn9 : n < 1000000000 := by rw [B9_eq] at hn; exact hn
  have HF : Hid ((∀ d ∈ n :: xs, d < B9) ∧ val B9 (n :: xs) = x * B9 + n) := Lib.hid ⟨fun d hd => by
    rcases List.mem_cons.1 hd with rfl | hd
    · exact hn
    · exact hxl d hd, by rw [val, hxv, Nat.mul_comm]; omega⟩
  obtain ⟨i0, hi, hz0⟩ := Option.map_eq_some_iff.1 info_int
  simp only [Prod.mk.injEq] at hz0
  obtain ⟨hz0, hz1, hz2⟩ := hz0
  have HB1 := Lib.hid ((Box.last2 w (.cells #[.slice A xs.length c] RNat) #[.slice none 0 0] RNat).alloc (.cells #[encI n] 3))
  have HNW := Lib.hid ((((New.refl w).alloc (.cells #[.slice A xs.length c] RNat)).alloc (.cells #[.slice none 0 0] RNat)).alloc (.cells #[encI n] 3))
  have HOW : Hid (OwnE encI 3 w.heap.size (((w.alloc (.cells #[.slice A xs.length c] RNat)).alloc (.cells #[.slice none 0 0] RNat)).alloc (.cells #[encI n] 3)) (.slice (some ⟨w.heap.size + 1 + 1, 0, none⟩) 1 1) [n]) := Lib.hid (by
    have := Box.last ((w.alloc (.cells #[.slice A xs.length c] RNat)).alloc (.cells #[.slice none 0 0] RNat)) #[encI n] 3
    rw [World.size_alloc, World.size_alloc] at this
    exact OwnE.of_box (xs := [n]) this (by omega) (by show 1 ≤ 2 ^ 63 - 1; decide))
  clear hxl hxv hn
  cases A with
  | none =>
    have h0 : xs = [] := by
      cases xs with
      | nil => rfl
      | cons a r => obtain ⟨_, _, _, _, h, _⟩ := hr 0 (by simp); cases h
    subst h0
    clear hr hm hc hl
    go_enter Tryz.func76, Tryz.ntmps76
    go_wp2_with (at_builtin; refine app_none rfl _ _ 27 rfl w.heap.size 3 i0 1 c Tryz.underlying27 hi _ _ _ rfl HOW.out rfl ?_)
    have HT := Lib.hid (rtrim_a HOW.out.sl)
    have HFR := Lib.hid HOW.out.fresh
    have HB := Lib.hid HB1.out
    have HN4 := Lib.hid HNW.out
    clear HOW HB1 HNW
    go_wp2_with fail
    refine HT.out.mono ?_
    rintro e w4 ⟨l7, rfl, hv4, hn4⟩
    have hv := RefV.of_sl hv4 HF.out.1
    rw [HF.out.2] at hv
    have hb : Box w4 (w.heap.size + 1) #[.slice none 0 0] RNat := hn4.block HB.out
    have hc := hb.cell 0
    have hf := hb.frozen 0
    have HV := Lib.hid (hv.set hb (by decide) (i := 0) (.slice (some ⟨w.heap.size + 1 + 1, 0, none⟩) l7 1))
    have HZ := Lib.hid (hb.set 0 (.slice (some ⟨w.heap.size + 1 + 1, 0, none⟩) l7 1) |>.cell 0)
    have HNZ := Lib.hid ((HN4.out.trans hn4).setCell (p := ⟨w.heap.size + 1, 0, none⟩) (by show _ ≤ w.heap.size + 1; omega) (.slice (some ⟨w.heap.size + 1 + 1, 0, none⟩) l7 1))
    clear hv hv4 hn4 hb
    go_wp2
    have hz := HZ.out
    refine bodyPost_ret (v := .agg #[.slice (some ⟨w.heap.size + 1 + 1, 0, none⟩) l7 1]) (by simp [results, Tryz.results76, go_sem, hz]) rfl ⟨_, _, _, rfl, HV.out, HNZ.out, HFR.out⟩
  | some ad =>
    have hnews : ∀ o1 o2 o3 (j : Nat) (u : Value), (xs.map encI)[j]? = some u → (((w.alloc o1).alloc o2).alloc o3).cell? (ad.add j) = some u := fun o1 o2 o3 j u hj => by
      by_cases hlt : j < xs.length
      · obtain ⟨b, o, C, fr, e, hb, hcell⟩ := hr j hlt
        obtain rfl : ad = ⟨b, o, none⟩ := Option.some.inj e
        rw [List.getElem?_map, List.getElem?_eq_getElem hlt, Option.map_some, Option.some.injEq] at hj
        rw [getD_lt hlt] at hcell
        have := ((((New.refl w).alloc o1).alloc o2).alloc o3).still hcell
        subst hj
        rcases Nat.eq_zero_or_pos j with rfl | hj0
        · exact this
        · simpa [Addr.add, Nat.ne_of_gt hj0] using this
      · rw [List.getElem?_eq_none (by simpa using hlt)] at hj; cases hj
    generalize hN : xs.length = m at *
    have HXL := Lib.hid hN
    have HNS := Lib.hid hnews
    clear hr hN hnews hm
    go_enter Tryz.func76, Tryz.ntmps76
    go_wp2_with (at_builtin; refine app_many encI w _ rfl _ _ 27 3 rfl (.int .i64 0) 8 (by kernel_rfl) info_int rfl (by decide) _ [n] rfl HNW.out HOW.out ad m c xs HXL.out rfl (HNS.out _ _ _) (fun _ => rfl) (by show 1 + m ≤ _; omega) ?_)
    intro A6 c6 w3 hown3 hn3 hkept
    have HB := Lib.hid (hkept _ _ _ _ _ HB1.out (by decide))
    have HN4 := Lib.hid hn3
    have HT := Lib.hid (rtrim_a hown3.sl)
    have HFR := Lib.hid hown3.fresh
    clear hown3 hn3 hkept HOW HB1 HNW HNS
    go_wp2_with fail
    refine HT.out.mono ?_
    rintro e w4 ⟨l7, rfl, hv4, hn4⟩
    have hv := RefV.of_sl hv4 HF.out.1
    rw [HF.out.2] at hv
    have hb : Box w4 (w.heap.size + 1) #[.slice none 0 0] RNat := hn4.block HB.out
    have hc := hb.cell 0
    have hf := hb.frozen 0
    have HV := Lib.hid (hv.set hb (by decide) (i := 0) (.slice A6 l7 c6))
    have HZ := Lib.hid (hb.set 0 (.slice A6 l7 c6) |>.cell 0)
    have HNZ := Lib.hid ((HN4.out.trans hn4).setCell (p := ⟨w.heap.size + 1, 0, none⟩) (by show _ ≤ w.heap.size + 1; omega) (.slice A6 l7 c6))
    clear hv hv4 hn4 hb
    go_wp2
    have hz := HZ.out
    refine bodyPost_ret (v := .agg #[.slice A6 l7 c6]) (by simp [results, Tryz.results76, go_sem, hz]) rfl ⟨_, _, _, rfl, HV.out, HNZ.out, HFR.out⟩
end Go.Proofs.YtkjlmibleoecgaaGreatDoor
