/- The program's nat, part 12: shifted, Add32, LeadingZeros32. -/
import Derived.Test.YtkjlmibleoecgaaGreatDoorNat7
import Derived.Test.YtkjlmibleoecgaaGreatDoorK8
import Derived.Test.YtkjlmibleoecgaaGreatDoorK4
namespace Go.Proofs.YtkjlmibleoecgaaGreatDoor
set_option linter.unusedSimpArgs false
set_option linter.unusedVariables false
open Go.RowKit
/-- The list, k limbs of it shifted by s binary digits. -/
structure Shf (xs : List Nat) (s k : Nat) (L : List Nat) : Prop where
  len : L.length = xs.length + 1
  lt : ∀ d ∈ L, d < B32
  top : L.getD k 0 < 2 ^ s
  rest : ∀ j, k < j → L.getD j 0 = 0
  v : val B32 L = 2 ^ s * val B32 (xs.take k)
theorem Shf.start (xs : List Nat) {s : Nat} : Shf xs s 0 (List.replicate (xs.length + 1) 0) := by
  refine ⟨by simp, fun d hd => ?_, ?_, fun j _ => ?_, by simp [val, val_replicate]⟩
  · rw [List.mem_replicate] at hd; rw [hd.2, B32_eq]; omega
  · simp; exact Nat.pow_pos (by omega)
  · simp [List.getD_eq_getElem?_getD, List.getElem?_replicate]; split <;> rfl
theorem Shf.step {xs : List Nat} {s k : Nat} {L : List Nat} (h : Shf xs s k L) (hs : s < 32) (hk : k < xs.length) (hx : xs.getD k 0 < B32) :
    Shf xs s (k + 1) ((L.set k (L.getD k 0 + xs.getD k 0 * 2 ^ s % B32)).set (k + 1) (xs.getD k 0 * 2 ^ s / B32)) ∧ L.getD k 0 + xs.getD k 0 * 2 ^ s % B32 < B32 := by
  have hk1 : k < L.length := by rw [h.len]; omega
  have hk2 : k + 1 < L.length := by rw [h.len]; omega
  obtain ⟨r, hr⟩ : ∃ r, r + s = 32 := ⟨32 - s, by omega⟩
  have hB : B32 = 2 ^ s * 2 ^ r := by rw [← Nat.pow_add, Nat.add_comm, hr]; rfl
  have hsp : 0 < 2 ^ s := Nat.pow_pos (by omega)
  have hrp : 0 < 2 ^ r := Nat.pow_pos (by omega)
  have e1 : xs.getD k 0 * 2 ^ s % B32 = 2 ^ s * (xs.getD k 0 % 2 ^ r) := by rw [hB, Nat.mul_comm, Nat.mul_mod_mul_left]
  have h1 := h.top
  have hlow : L.getD k 0 + xs.getD k 0 * 2 ^ s % B32 < B32 := by
    rw [e1]
    have h2 : xs.getD k 0 % 2 ^ r + 1 ≤ 2 ^ r := Nat.mod_lt _ hrp
    have h3 : 2 ^ s * (xs.getD k 0 % 2 ^ r + 1) ≤ 2 ^ s * 2 ^ r := Nat.mul_le_mul_left _ h2
    rw [Nat.mul_add, ← hB] at h3
    omega
  have hhi : xs.getD k 0 * 2 ^ s / B32 < 2 ^ s := by
    rw [Nat.div_lt_iff_lt_mul (by rw [B32_eq]; omega), Nat.mul_comm]
    exact Nat.mul_lt_mul_of_pos_left hx hsp
  have hsB : 2 ^ s ≤ B32 := by rw [hB]; exact Nat.le_mul_of_pos_right _ hrp
  refine ⟨⟨by simp [h.len], lt_set (lt_set h.lt _ hlow) _ (by omega), ?_, fun j hj => ?_, ?_⟩, hlow⟩
  · rw [List.getD_eq_getElem?_getD, List.getElem?_set_self (by simpa using hk2)]; exact hhi
  · rw [getD_set_ne _ (by omega), getD_set_ne _ (by omega)]; exact h.rest j (by omega)
  · have f1 := vset B32 L k (L.getD k 0 + xs.getD k 0 * 2 ^ s % B32) hk1
    have f2 := vset B32 (L.set k (L.getD k 0 + xs.getD k 0 * 2 ^ s % B32)) (k + 1) (xs.getD k 0 * 2 ^ s / B32) (by simpa using hk2)
    rw [getD_set_ne _ (by omega), h.rest (k + 1) (by omega), Nat.mul_zero, Nat.add_zero] at f2
    have f3 := Nat.div_add_mod (xs.getD k 0 * 2 ^ s) B32
    rw [Nat.pow_succ] at f2
    rw [f2, vtake, Nat.mul_add, ← h.v]
    rw [Nat.mul_add] at f1
    clear f2
    generalize xs.getD k 0 * 2 ^ s / B32 = q at *
    generalize xs.getD k 0 * 2 ^ s % B32 = m at *
    have f4 : B32 ^ k * (B32 * q + m) = B32 ^ k * (xs.getD k 0 * 2 ^ s) := by rw [f3]
    have f5 : 2 ^ s * (B32 ^ k * xs.getD k 0) = B32 ^ k * (xs.getD k 0 * 2 ^ s) := by rw [Nat.mul_left_comm, Nat.mul_comm (2 ^ s)]
    rw [Nat.mul_add, ← Nat.mul_assoc] at f4
    omega
theorem or_u32 {a c s : Nat} (ha : a < 2 ^ s) (hm : c % 2 ^ s = 0) (h : a + c < 4294967296) : Go.bits .or .u32 (a : Int) (c : Int) = ((a + c : Nat) : Int) := by
  have h1 := Nat.two_pow_add_eq_or_of_lt (i := s) ha (c / 2 ^ s)
  have h2 := Nat.div_add_mod c (2 ^ s)
  rw [hm, Nat.add_zero] at h2
  rw [h2] at h1
  rw [u32_or_nat _ _ (by omega) (by omega), Nat.or_comm, ← h1, Nat.add_comm]
set_option maxHeartbeats 2000000 in
theorem shifted_c {x s : Nat} {v : Value} {w : World} (h : NatV w v x) (hs : s < 32) (hl : (dg B32 x).length ≤ 1000000) :
    Calls Tryz.prog 71 #[v, .int .u64 (s : Int)] w fun e w' => ∃ (g : Nat) (L : List Nat), e = .returned (.slice (some ⟨g, 0, none⟩) ((dg B32 x).length + 1) ((dg B32 x).length + 1)) ∧ w.heap.size ≤ g ∧ Box w' g (ecells .u32 L) 89 ∧ L.length = (dg B32 x).length + 1 ∧ (∀ d ∈ L, d < B32) ∧ val B32 L = 2 ^ s * x ∧ New w w' := by
  obtain ⟨_, rfl, A, c, rfl, hc, hmax, hr⟩ := h
  have hxs := dg_lt B32_2 x
  have hval := dg_val B32_2 x
  generalize dg B32 x = xs at *
  generalize hn : xs.length = n at *
  have hmk := make_u32 (n + 1) (by omega)
  rw [show ((n + 1 : Nat) : Int) = (n : Int) + 1 from by omega] at hmk
  have HV := Lib.hid hval
  have HXS := Lib.hid hxs
  have HN := Lib.hid hn
  have HR := Lib.hid hr
  clear hval hxs hn hr
  go_enter Tryz.func71, Tryz.ntmps71
  go_wp2
  go_loopw [17] (fun i w' => ∃ (k : Nat) (L : List Nat), k ≤ n ∧ i = .int .i64 (k : Int) ∧ Hid (Shf xs s k L) ∧
    w' = (w.alloc (.cells #[.slice A n c] 26)).alloc (.cells (ecells .u32 L) 89)) (fun i _ => n - (intOf i).toNat)
  case atStart => exact ⟨0, List.replicate (n + 1) 0, by omega, rfl, by have := Shf.start xs (s := s); rw [HN.out] at this; exact this, rfl⟩
  case round =>
    obtain ⟨k, L, hk, rfl, HI, rfl⟩ := hrel
    have hlen : L.length = n + 1 := by rw [HI.out.len, HN.out]
    by_cases hlt : k < n
    · obtain ⟨b, o, C, fr, rfl, hbl, hcell⟩ := HR.out k hlt
      have hc3 := fun o1 o2 => (((New.refl w).alloc o1).alloc o2).still hcell
      have hxd : xs.getD k 0 < B32 := HXS.out _ (getD_mem (by rw [HN.out]; exact hlt))
      obtain ⟨hst, hlow⟩ := HI.out.step hs (by rw [HN.out]; exact hlt) hxd
      have htop := HI.out.top
      have hck : (ecells .u32 L)[k]? = some (.int .u32 (L.getD k 0 : Nat)) := ecells_get _ (by omega)
      have hck2 : (ecells .u32 L)[k + 1]? = some (.int .u32 (L.getD (k + 1) 0 : Nat)) := ecells_get _ (by omega)
      rw [HI.out.rest (k + 1) (by omega)] at hck2
      have HST := Lib.hid hst
      have E3 : Hid (∀ z q : Nat, ((ecells .u32 L).setIfInBounds k (.int .u32 (z : Int))).setIfInBounds (k + 1) (.int .u32 (q : Int)) = ecells .u32 ((L.set k z).set (k + 1) q)) := Lib.hid (fun z q => by rw [ecells_set, ecells_set])
      generalize L.getD k 0 = l at *
      generalize xs.getD k 0 = xd at *
      have hp2 : ((xd * 2 ^ s : Nat) : Int) = (xd : Int) * 2 ^ s := by rw [Int.natCast_mul, Int.natCast_pow]; rfl
      have hpl : xd * 2 ^ s < 18446744073709551616 := by
        have h1 : 2 ^ s ≤ 2 ^ 31 := Nat.pow_le_pow_right (by omega) (by omega)
        have h2 : xd * 2 ^ s ≤ 4294967295 * 2 ^ 31 := Nat.mul_le_mul (by rw [B32_eq] at hxd; omega) h1
        omega
      have hm0 : xd * 2 ^ s % B32 % 2 ^ s = 0 := by
        rw [Nat.mod_mod_of_dvd _ ⟨2 ^ (32 - s), by rw [← Nat.pow_add, show s + (32 - s) = 32 by omega]; rfl⟩, Nat.mul_mod_left]
      have hw1 : IntKind.u64.wrap (xd : Int) = (xd : Int) := IntWalk.u64_in _ (by rw [B32_eq] at hxd; omega)
      have hw2 : IntKind.u64.wrap ((xd : Int) * 2 ^ s) = ((xd * 2 ^ s : Nat) : Int) := by rw [← hp2]; exact IntWalk.u64_in _ (by omega)
      have hor := or_u32 (c := xd * 2 ^ s % B32) htop hm0 (by rw [B32_eq] at hlow ⊢; exact hlow)
      clear hst hcell hbl htop hm0 hp2
      generalize xd * 2 ^ s = p at *
      have e1 : (p : Int) % 4294967296 = ((p % B32 : Nat) : Int) := by rw [B32_eq]; omega
      have e2 : (p : Int) / 4294967296 = ((p / B32 : Nat) : Int) := by rw [B32_eq]; omega
      have e4 : p / B32 < 4294967296 := by rw [B32_eq]; omega
      have e3 : ((p / B32 : Nat) : Int) % 4294967296 = ((p / B32 : Nat) : Int) := by omega
      generalize p / B32 = q at *
      generalize p % B32 = m at *
      generalize hz : l + m = z at *
      generalize ecells .u32 L = EC at *
      clear hlow hpl hz
      go_wp2
      go_roundw
      case rel => exact ⟨k + 1, _, by omega, by go_num, HST.out, by rw [E3.out]⟩
      case measure => simp [intOf]; omega
    · obtain rfl : k = n := by omega
      have hbx := Box.last2 w (.cells #[.slice A k c] 26) (ecells .u32 L) 89
      have hv := HI.out.v
      have hlt2 := HI.out.lt
      rw [List.take_of_length_le (by rw [HN.out]; omega), HV.out] at hv
      have HBX := Lib.hid hbx
      have HLT := Lib.hid hlt2
      have HVV := Lib.hid hv
      have HLN := Lib.hid hlen
      clear hmk hbx hv hlt2 hlen
      go_wp2
      go_ret
      exact ⟨_, L, rfl, by omega, HBX.out, HLN.out, HLT.out, HVV.out, ((New.refl w).alloc _).alloc _⟩
set_option maxHeartbeats 800000 in
theorem add32_c {x y b : Nat} (hx : x < B32) (hy : y < B32) (hb : b ≤ 1) (w : World) :
    Calls Tryz.prog 73 #[.int .u32 (x : Int), .int .u32 (y : Int), .int .u32 (b : Int)] w fun e w' => ∃ d c : Nat, d < B32 ∧ c ≤ 1 ∧ d + B32 * c = x + y + b ∧ e = .returned (.tuple #[.int .u32 (d : Int), .int .u32 (c : Int)]) ∧ w = w' := by
  rw [B32_eq] at *
  have hw1 : IntKind.u64.wrap (x : Int) = (x : Int) := IntWalk.u64_in _ (by omega)
  have hw2 : IntKind.u64.wrap (y : Int) = (y : Int) := IntWalk.u64_in _ (by omega)
  have hw3 : IntKind.u64.wrap (b : Int) = (b : Int) := IntWalk.u64_in _ (by omega)
  have hw4 : IntKind.u64.wrap ((x : Int) + (y : Int)) = (x : Int) + (y : Int) := IntWalk.u64_in _ (by omega)
  have hw5 : IntKind.u64.wrap ((x : Int) + (y : Int) + (b : Int)) = (x : Int) + (y : Int) + (b : Int) := IntWalk.u64_in _ (by omega)
  have e1 : ((x : Int) + (y : Int) + (b : Int)) % 4294967296 = (((x + y + b) % 4294967296 : Nat) : Int) := by omega
  have e2 : ((x : Int) + (y : Int) + (b : Int)) / 4294967296 = (((x + y + b) / 4294967296 : Nat) : Int) := by omega
  have hd : (x + y + b) % 4294967296 < 4294967296 := by omega
  have E1 := Lib.hid e1
  have hc : (x + y + b) / 4294967296 ≤ 1 := by omega
  have hs : (x + y + b) % 4294967296 + 4294967296 * ((x + y + b) / 4294967296) = x + y + b := by omega
  have hc2 : (((x + y + b) / 4294967296 : Nat) : Int) % 4294967296 = (((x + y + b) / 4294967296 : Nat) : Int) := by omega
  have HD := Lib.hid hd
  have HC := Lib.hid hc
  have HS := Lib.hid hs
  clear hd hc hs
  generalize (x + y + b) % 4294967296 = d at *
  generalize (x + y + b) / 4294967296 = c at *
  go_enter Tryz.func73, Tryz.ntmps73
  go_wp2
  go_ret2
  exact ⟨d, c, HD.out, HC.out, HS.out, by first | rfl | (rw [← E1.out]; rfl), rfl⟩
theorem add32_q {x y b d c : Nat} (hx : x < B32) (hy : y < B32) (hb : b ≤ 1) (hd : d = (x + y + b) % B32) (hc : c = (x + y + b) / B32) (w : World) :
    Calls Tryz.prog 73 #[.int .u32 (x : Int), .int .u32 (y : Int), .int .u32 (b : Int)] w fun e w' => e = .returned (.tuple #[.int .u32 (d : Int), .int .u32 (c : Int)]) ∧ w' = w := by
  refine (add32_c hx hy hb w).mono ?_
  rintro e w' ⟨d', c', h1, h2, h3, rfl, rfl⟩
  have e1 : (x + y + b) % B32 = d' := by rw [← h3, Nat.add_mul_mod_self_left, Nat.mod_eq_of_lt h1]
  have e2 : (x + y + b) / B32 = c' := by rw [← h3, Nat.add_mul_div_left _ _ (by rw [B32_eq]; omega), Nat.div_eq_of_lt h1, Nat.zero_add]
  rw [hd, hc, e1, e2]
  exact ⟨rfl, rfl⟩
/-- What the shift is: the highest limb's free binary digits. -/
theorem lz_c {t : Nat} (h0 : 0 < t) (h : t < B32) (w : World) :
    Calls Tryz.prog 70 #[.int .u32 (t : Int)] w fun e w' => ∃ s : Nat, s < 32 ∧ t * 2 ^ s < B32 ∧ e = .returned (.int .i64 (s : Int)) ∧ w' = w := by
  have h2 : t < 4294967296 := by rw [B32_eq] at h; exact h
  obtain ⟨a, b, c⟩ := bitLen_spec h0 (by omega)
  have h3 : Lib.bitLen t - 1 < 32 := (Nat.pow_lt_pow_iff_right (a := 2) (by omega)).1 (by omega)
  refine (Tryz.bits_LeadingZeros32 (t : Int) w (by omega) (by omega)).mono ?_
  rintro e w' ⟨rfl, rfl⟩
  refine ⟨32 - Lib.bitLen t, by omega, ?_, ?_, rfl⟩
  · have h4 : (t + 1) * 2 ^ (32 - Lib.bitLen t) ≤ 2 ^ Lib.bitLen t * 2 ^ (32 - Lib.bitLen t) := Nat.mul_le_mul_right _ (by omega)
    rw [← Nat.pow_add, show Lib.bitLen t + (32 - Lib.bitLen t) = 32 by omega, Nat.add_mul] at h4
    have h5 : 0 < 2 ^ (32 - Lib.bitLen t) := Nat.pow_pos (by omega)
    rw [B32_eq]
    omega
  · rw [Int.toNat_natCast]
    congr 2
    omega
end Go.Proofs.YtkjlmibleoecgaaGreatDoor
