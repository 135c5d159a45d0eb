/- The program's nat, part 7: Mul. -/
import Derived.Test.YtkjlmibleoecgaaGreatDoorNat6
namespace Go.Proofs.YtkjlmibleoecgaaGreatDoor
open Go.RowKit

theorem val_set (b : Nat) : ∀ (L : List Nat) (j z : Nat), j < L.length → val b (L.set j z) + b ^ j * L.getD j 0 = val b L + b ^ j * z
  | [], j, z, h => by cases h
  | d :: r, 0, z, _ => by simp [val]; omega
  | d :: r, j + 1, z, h => by
    have ih := val_set b r j z (by simpa using h)
    simp only [List.set_cons_succ, val, Nat.pow_succ]
    have e : (d :: r).getD (j + 1) 0 = r.getD j 0 := by simp [List.getD_eq_getElem?_getD]
    rw [e]
    have e1 : b * (val b (r.set j z) + b ^ j * r.getD j 0) = b * (val b r + b ^ j * z) := by rw [ih]
    simp only [Nat.mul_add] at e1
    rw [Nat.mul_comm (b ^ j) b, Nat.mul_assoc, Nat.mul_assoc]; omega
/-- What holds in Mul's outer loop .. -/
structure MulInv (xs ys : List Nat) (i : Nat) (L : List Nat) : Prop where
  len : L.length = xs.length + ys.length
  lt : ∀ d ∈ L, d < B32
  rest : ∀ j, i + ys.length ≤ j → L.getD j 0 = 0
  prod : val B32 L = val B32 (xs.take i) * val B32 ys
/-- .. and in its inner one. -/
structure MulIn (xs ys : List Nat) (i k c : Nat) (L : List Nat) : Prop where
  len : L.length = xs.length + ys.length
  lt : ∀ d ∈ L, d < B32
  rest : ∀ j, i + ys.length ≤ j → L.getD j 0 = 0
  carry : c < B32
  prod : val B32 L + B32 ^ (i + k) * c = val B32 (xs.take i) * val B32 ys + B32 ^ i * (xs.getD i 0 * val B32 (ys.take k))
theorem MulInv.start (xs ys : List Nat) : MulInv xs ys 0 (List.replicate (xs.length + ys.length) 0) := by
  refine ⟨by simp, fun d hd => ?_, fun j _ => ?_, by simp [val, val_replicate]⟩
  · rw [List.mem_replicate] at hd; rw [hd.2, B32_eq]; omega
  · simp [List.getD_eq_getElem?_getD, List.getElem?_replicate]; split <;> rfl
theorem MulInv.enter {xs ys : List Nat} {i : Nat} {L : List Nat} (h : MulInv xs ys i L) : MulIn xs ys i 0 0 L :=
  ⟨h.len, h.lt, h.rest, by rw [B32_eq]; omega, by simp [val, h.prod]⟩
theorem MulIn.z_le {xs ys : List Nat} {i k c : Nat} {L : List Nat} (h : MulIn xs ys i k c L) (hx : xs.getD i 0 < B32) (hy : ys.getD k 0 < B32) (hl : L.getD (i + k) 0 < B32) : c + (L.getD (i + k) 0 + xs.getD i 0 * ys.getD k 0) < B32 * B32 := by
  have hc := h.carry
  have h1 : xs.getD i 0 * ys.getD k 0 ≤ (B32 - 1) * (B32 - 1) := Nat.mul_le_mul (by omega) (by omega)
  generalize xs.getD i 0 * ys.getD k 0 = p at *
  rw [B32_eq] at *; omega
theorem MulIn.step {xs ys : List Nat} {i k c : Nat} {L : List Nat} (h : MulIn xs ys i k c L) (hi : i < xs.length) (hk : k < ys.length) (hx : xs.getD i 0 < B32) (hy : ys.getD k 0 < B32) :
    MulIn xs ys i (k + 1) ((c + (L.getD (i + k) 0 + xs.getD i 0 * ys.getD k 0)) / B32) (L.set (i + k) ((c + (L.getD (i + k) 0 + xs.getD i 0 * ys.getD k 0)) % B32)) := by
  have hL : i + k < L.length := by rw [h.len]; omega
  have hz := h.z_le hx hy (h.lt _ (getD_mem hL))
  refine ⟨by simp [h.len], set_lt h.lt _ (Nat.mod_lt _ (by rw [B32_eq]; omega)), fun j hj => ?_, ?_, ?_⟩
  · rw [List.getD_eq_getElem?_getD, List.getElem?_set_ne (show i + k ≠ j by omega), ← List.getD_eq_getElem?_getD]; exact h.rest j hj
  · rw [Nat.div_lt_iff_lt_mul (by rw [B32_eq]; omega)]; exact hz
  · have e0 := val_set B32 L (i + k) ((c + (L.getD (i + k) 0 + xs.getD i 0 * ys.getD k 0)) % B32) hL
    have e := Nat.div_add_mod (c + (L.getD (i + k) 0 + xs.getD i 0 * ys.getD k 0)) B32
    have h1 := h.prod
    generalize (c + (L.getD (i + k) 0 + xs.getD i 0 * ys.getD k 0)) / B32 = q at *
    generalize (c + (L.getD (i + k) 0 + xs.getD i 0 * ys.getD k 0)) % B32 = r at *
    generalize L.getD (i + k) 0 = l at *
    have e1 : B32 ^ (i + k) * (B32 * q + r) = B32 ^ (i + k) * (c + (l + xs.getD i 0 * ys.getD k 0)) := by rw [e]
    rw [val_take_succ, show i + (k + 1) = (i + k) + 1 from by omega, Nat.pow_succ]
    have e2 : B32 ^ i * (xs.getD i 0 * (B32 ^ k * ys.getD k 0)) = B32 ^ (i + k) * (xs.getD i 0 * ys.getD k 0) := by
      rw [Nat.pow_add, Nat.mul_assoc, ← Nat.mul_assoc (xs.getD i 0), Nat.mul_comm (xs.getD i 0), Nat.mul_assoc]
    simp only [Nat.mul_add, ← Nat.mul_assoc] at e1 e2 h1 e0 ⊢
    omega
theorem MulIn.leave {xs ys : List Nat} {i c : Nat} {L : List Nat} (h : MulIn xs ys i ys.length c L) (hi : i < xs.length) : MulInv xs ys (i + 1) (L.set (i + ys.length) c) := by
  have hL : i + ys.length < L.length := by rw [h.len]; omega
  refine ⟨by simp [h.len], set_lt h.lt _ h.carry, fun j hj => ?_, ?_⟩
  · rw [List.getD_eq_getElem?_getD, List.getElem?_set_ne (show i + ys.length ≠ j by omega), ← List.getD_eq_getElem?_getD]; exact h.rest j (by omega)
  · have e0 := val_set B32 L (i + ys.length) c hL
    rw [h.rest _ (Nat.le_refl _)] at e0
    have h1 := h.prod
    rw [List.take_of_length_le (Nat.le_refl _)] at h1
    rw [val_take_succ, Nat.add_mul, Nat.mul_assoc]
    omega

set_option maxHeartbeats 3000000 in
theorem mul_c {x y : Nat} {u v : Value} {w : World} (hx : NatV w u x) (hy : NatV w v y) (hl : (dg B32 x).length ≤ 1099511627776) (hl2 : (dg B32 y).length ≤ 1099511627776) :
    Calls Tryz.prog 96 #[u, v] w fun e w' => ∃ v, e = .returned v ∧ NatV w' v (x * y) ∧ New w w' := by
  obtain ⟨_, rfl, A, c, rfl, hc, hmax, hr⟩ := hx
  obtain ⟨_, rfl, A', c', rfl, hc', hmax', hr'⟩ := hy
  have hxs := dg_lt B32_2 x
  have hval := dg_val B32_2 x
  have hys := dg_lt B32_2 y
  have hval' := dg_val B32_2 y
  generalize dg B32 x = xs at *
  generalize dg B32 y = ys at *
  generalize hn : xs.length = n at *
  generalize hm : ys.length = m at *
  have hmk := make_u32 (n + m) (by omega)
  rw [show ((n + m : Nat) : Int) = (n : Int) + (m : Int) from by omega] at hmk
  have HV := Lib.hid hval
  have HV' := Lib.hid hval'
  have HXS := Lib.hid hxs
  have HYS := Lib.hid hys
  have HN := Lib.hid hn
  have HM := Lib.hid hm
  have HR := Lib.hid hr
  have HR' := Lib.hid hr'
  clear hval hval' hxs hys hn hm hr hr'
  go_enter Tryz.func96, Tryz.ntmps96
  go_wp2
  go_loopw [22] (fun i w' => ∃ (k : Nat) (L : List Nat), k ≤ n ∧ i = .int .i64 (k : Int) ∧ Hid (MulInv xs ys k L) ∧
    w' = (((w.alloc (.cells #[.slice A n c] 26)).alloc (.cells #[.slice A' m c'] 26)).alloc (.cells #[.slice none 0 0] 26)).alloc (.cells (ecells .u32 L) 89)) (fun i _ => n - (intOf i).toNat)
  case atStart => exact ⟨0, List.replicate (n + m) 0, by omega, rfl, by have := MulInv.start xs ys; rw [HN.out, HM.out] at this; exact this, rfl⟩
  case round =>
    obtain ⟨i, L, hi, rfl, HI, rfl⟩ := hrel
    by_cases hlt : i < n
    · obtain ⟨b, o, C, fr, rfl, hbl, hcell⟩ := HR.out i hlt
      have hc3 := fun o1 o2 o3 o4 => (((New.refl w).alloc o1).alloc o2).alloc o3 |>.alloc o4 |>.still hcell
      have hxd : xs.getD i 0 < B32 := HXS.out _ (getD_mem (by rw [HN.out]; exact hlt))
      have HMI := Lib.hid (MulInv.enter HI.out)
      generalize hxk : xs.getD i 0 = xd at *
      have HXK := Lib.hid hxk
      have hxd' : (xd : Int) ≤ 4294967295 := by rw [B32_eq] at hxd; omega
      have hw0 : IntKind.u64.wrap (xd : Int) = (xd : Int) := IntWalk.u64_in _ (by omega)
      clear hcell hbl hxk hmk
      go_wp2
      go_loopw [8, 30] (fun c8 k8 w' => ∃ (k q : Nat) (L : List Nat), k ≤ m ∧ k8 = .int .i64 (k : Int) ∧ c8 = .int .u64 (q : Int) ∧ Hid (MulIn xs ys i k q L) ∧
        w' = (((w.alloc (.cells #[.slice (some ⟨b, o, none⟩) n c] 26)).alloc (.cells #[.slice A' m c'] 26)).alloc (.cells #[.slice none 0 0] 26)).alloc (.cells (ecells .u32 L) 89)) (fun _ k _ => m - (intOf k).toNat)
      case atStart => exact ⟨0, 0, L, by omega, rfl, rfl, HMI.out, rfl⟩
      case round =>
        obtain ⟨k, q, L, hk, rfl, rfl, HJ, rfl⟩ := hrel
        have hlen : L.length = n + m := by rw [HJ.out.len, HN.out, HM.out]
        have hqc := HJ.out.carry
        by_cases hkm : k < m
        · obtain ⟨b', o', C', fr', rfl, hbl', hcell'⟩ := HR'.out k hkm
          have hc4 := fun o1 o2 o3 o4 => (((New.refl w).alloc o1).alloc o2).alloc o3 |>.alloc o4 |>.still hcell'
          have hyd : ys.getD k 0 < B32 := HYS.out _ (getD_mem (by rw [HM.out]; exact hkm))
          have hst := HJ.out.step (by rw [HN.out]; exact hlt) (by rw [HM.out]; exact hkm) (by rw [HXK.out]; exact hxd) hyd
          have hld : L.getD (i + k) 0 < B32 := HJ.out.lt _ (getD_mem (by omega))
          have hz := HJ.out.z_le (by rw [HXK.out]; exact hxd) hyd hld
          have hck : (ecells .u32 L)[i + k]? = some (.int .u32 (L.getD (i + k) 0 : Nat)) := ecells_get _ (by omega)
          have hset := fun z => ecells_set .u32 L (i + k) z
          rw [HXK.out] at hst hz
          generalize L.getD (i + k) 0 = l at *
          generalize ys.getD k 0 = yd at *
          have hyd' : (yd : Int) ≤ 4294967295 := by rw [B32_eq] at hyd; omega
          have hld' : (l : Int) ≤ 4294967295 := by rw [B32_eq] at hld; omega
          have hq' : (q : Int) ≤ 4294967295 := by rw [B32_eq] at hqc; omega
          have hp0 : (0 : Int) ≤ (xd : Int) * (yd : Int) := Int.mul_nonneg (by omega) (by omega)
          have hz' : (q : Int) + ((l : Int) + (xd : Int) * (yd : Int)) ≤ 18446744073709551615 := by
            have : ((q + (l + xd * yd) : Nat) : Int) = (q : Int) + ((l : Int) + (xd : Int) * (yd : Int)) := by rw [Int.natCast_add, cast_mad]
            rw [← this]; rw [B32_eq] at hz; omega
          have hw1 : IntKind.u64.wrap (yd : Int) = (yd : Int) := IntWalk.u64_in _ (by omega)
          have hw2 : IntKind.u64.wrap (l : Int) = (l : Int) := IntWalk.u64_in _ (by omega)
          have hw3 : IntKind.u64.wrap ((xd : Int) * (yd : Int)) = (xd : Int) * (yd : Int) := IntWalk.u64_in _ (by omega)
          have hw4 : IntKind.u64.wrap ((l : Int) + (xd : Int) * (yd : Int)) = (l : Int) + (xd : Int) * (yd : Int) := IntWalk.u64_in _ (by omega)
          have hw5 : IntKind.u64.wrap ((q : Int) + ((l : Int) + (xd : Int) * (yd : Int))) = (q : Int) + ((l : Int) + (xd : Int) * (yd : Int)) := IntWalk.u64_in _ (by omega)
          have e1 : ((q : Int) + ((l : Int) + (xd : Int) * (yd : Int))) % 4294967296 = (((q + (l + xd * yd)) % B32 : Nat) : Int) := by rw [cast_mod, Int.natCast_add, cast_mad]
          have e2 : ((q : Int) + ((l : Int) + (xd : Int) * (yd : Int))) / 4294967296 = (((q + (l + xd * yd)) / B32 : Nat) : Int) := by rw [cast_div, Int.natCast_add, cast_mad]
          have e3 := hset ((q + (l + xd * yd)) % B32)
          rw [← e1] at e3
          have hik : ((i : Int) + (k : Int)).toNat = i + k := by omega
          have HST := Lib.hid hst
          have E2 := Lib.hid e2
          have E3 := Lib.hid e3
          have HLN := Lib.hid hlen
          clear hcell' hbl' hst hset e1 e2 e3 hlen hz
          generalize ecells .u32 L = EC at *
          go_wp2
          go_roundw
          case rel => exact ⟨k + 1, _, _, by omega, by go_num, by rw [E2.out], HST, by rw [E3.out]⟩
          case measure => simp [intOf]; omega
        · obtain rfl : k = m := by omega
          have hlv := MulIn.leave (xs := xs) (ys := ys) (i := i) (c := q) (L := L) (by rw [HM.out]; exact HJ.out) (by rw [HN.out]; exact hlt)
          rw [HM.out] at hlv
          have hck : (ecells .u32 L)[i + k]? = some (.int .u32 (L.getD (i + k) 0 : Nat)) := ecells_get _ (by omega)
          generalize L.getD (i + k) 0 = l at hck
          have e3 := ecells_set .u32 L (i + k) q
          have e1 : (q : Int) % 4294967296 = (q : Int) := by rw [B32_eq] at hqc; omega
          have hik : ((i : Int) + (k : Int)).toNat = i + k := by omega
          have HLV := Lib.hid hlv
          have E3 := Lib.hid e3
          have HLN := Lib.hid hlen
          clear hlv e3 hlen
          generalize ecells .u32 L = EC at *
          go_wp2
          go_roundw
          case rel => exact ⟨i + 1, _, by omega, by go_num, HLV, by rw [E3.out]⟩
          case measure => simp [intOf]; omega
    · obtain rfl : i = n := by omega
      have hpr := HI.out.prod
      rw [List.take_of_length_le (by rw [HN.out]; omega), HV.out, HV'.out] at hpr
      have hlen : L.length = i + m := by rw [HI.out.len, HN.out, HM.out]
      have hlts := HI.out.lt
      have HP := Lib.hid hpr
      have HLN := Lib.hid hlen
      have HLT := Lib.hid hlts
      clear hmk hpr hlen hlts
      go_wp2_with fail
      have hbx := (((Box.last ((w.alloc (.cells #[.slice A i c] 26)).alloc (.cells #[.slice A' m c'] 26)) #[.slice none 0 0] 26)).alloc (.cells (ecells .u32 L) 89))
      have hs := Sl.of_block (Box.last3 (w.alloc (.cells #[.slice A i c] 26)) (.cells #[.slice A' m c'] 26) (.cells #[.slice none 0 0] 26) (ecells .u32 L) 89) (by have := HLN.out; simp [maxLen] at this ⊢; omega)
      rw [show L.length = i + m from HLN.out] at hs
      simp only [World.size_alloc] at hs hbx
      refine (trimmed_c hs).mono ?_
      rintro e w3 ⟨v3, rfl, h3, hn3⟩
      obtain ⟨hb3, he1, he2⟩ := at_end hbx (((((New.refl w).alloc _).alloc _).alloc _).alloc _) (by omega) hn3
      have hv := nat_of h3 HLT.out HP.out
      have hc3 : w3.cell? ⟨w.heap.size + 1 + 1, 0, none⟩ = some (.slice none 0 0) := hb3.cell 0
      have hf3 := hb3.frozen 0
      have HE2 := Lib.hid he2
      obtain ⟨A3, l3, c3, e3⟩ := hv.form
      obtain rfl : v3 = .slice A3 l3 c3 := by simpa using e3
      clear hb3 e3 h3 he2 hs hbx
      go_wp2
      refine bodyPost_ret (v := .agg #[.slice A3 l3 c3]) (by simp [results, Tryz.results96, go_sem, hc3]) rfl ⟨_, rfl, HE2.out _ _ _ hv, he1 _⟩
end Go.Proofs.YtkjlmibleoecgaaGreatDoor
