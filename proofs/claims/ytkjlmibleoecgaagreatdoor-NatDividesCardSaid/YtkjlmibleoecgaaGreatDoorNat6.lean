/- The program's nat, part 6: Add. (Printed by mkadd.py.) -/
import Derived.Test.YtkjlmibleoecgaaGreatDoorNat5
namespace Go.Proofs.YtkjlmibleoecgaaGreatDoor
open Go.RowKit

/-- What holds in Add's loop: xs is the longer one. -/
structure AddInv (xs ys : List Nat) (k c : Nat) (L : List Nat) : Prop where
  len : L.length = xs.length + 1
  lt : ∀ d ∈ L, d < B32
  rest : ∀ j, k ≤ j → L.getD j 0 = 0
  carry : c ≤ 1
  sum : val B32 (L.take k) + B32 ^ k * c = val B32 (xs.take k) + val B32 (ys.take k)
theorem set_lt {L : List Nat} (h : ∀ d ∈ L, d < B32) (k : Nat) {z : Nat} (hz : z < B32) : ∀ d ∈ L.set k z, d < B32 := fun e hm => by
  rcases List.mem_or_eq_of_mem_set hm with hm | rfl
  · exact h e hm
  · exact hz
theorem set_rest {L : List Nat} {k : Nat} (h : ∀ j, k ≤ j → L.getD j 0 = 0) (z : Nat) : ∀ j, k + 1 ≤ j → (L.set k z).getD j 0 = 0 := fun j hj => by
  rw [List.getD_eq_getElem?_getD, List.getElem?_set_ne (show k ≠ j by omega), ← List.getD_eq_getElem?_getD]; exact h j (by omega)
theorem AddInv.step {xs ys : List Nat} {k c : Nat} {L : List Nat} (h : AddInv xs ys k c L) (hk : k < xs.length) (hx : xs.getD k 0 < B32) (hy : ys.getD k 0 < B32) :
    AddInv xs ys (k + 1) ((c + xs.getD k 0 + ys.getD k 0) / B32) (L.set k ((c + xs.getD k 0 + ys.getD k 0) % B32)) := by
  have hc := h.carry
  refine ⟨by simp [h.len], set_lt h.lt _ (Nat.mod_lt _ (by rw [B32_eq]; omega)), set_rest h.rest _, ?_, ?_⟩
  · have : (c + xs.getD k 0 + ys.getD k 0) / B32 < 2 := by rw [Nat.div_lt_iff_lt_mul (by rw [B32_eq]; omega)]; rw [B32_eq] at *; omega
    omega
  · rw [val_take_set _ _ _ _ (by rw [h.len]; omega), val_take_succ _ ys, val_take_succ _ xs, Nat.pow_succ]
    have h1 := h.sum
    have e := Nat.div_add_mod (c + xs.getD k 0 + ys.getD k 0) B32
    generalize (c + xs.getD k 0 + ys.getD k 0) / B32 = q at *
    generalize (c + xs.getD k 0 + ys.getD k 0) % B32 = r at *
    have e1 : B32 ^ k * (B32 * q + r) = B32 ^ k * (c + xs.getD k 0 + ys.getD k 0) := by rw [e]
    simp only [Nat.mul_add, ← Nat.mul_assoc] at e1
    omega
theorem AddInv.done {xs ys : List Nat} {c : Nat} {L : List Nat} (h : AddInv xs ys xs.length c L) (hm : ys.length ≤ xs.length) : val B32 (L.set xs.length c) = val B32 xs + val B32 ys := by
  have h1 := h.sum
  have e := val_take_set B32 L xs.length c (by rw [h.len]; omega)
  rw [List.take_of_length_le (by simp [h.len])] at e
  rw [List.take_of_length_le (Nat.le_refl _), List.take_of_length_le hm] at h1
  rw [e, h1]
theorem AddInv.start (xs ys : List Nat) : AddInv xs ys 0 0 (List.replicate (xs.length + 1) 0) := by
  refine ⟨by simp, fun d hd => ?_, fun j _ => ?_, by omega, by simp [val]⟩
  · rw [List.mem_replicate] at hd; rw [hd.2, B32_eq]; omega
  · simp [List.getD_eq_getElem?_getD, List.getElem?_replicate]; split <;> rfl

set_option maxHeartbeats 3000000 in
theorem add_c {x y : Nat} {u v : Value} {w : World} (hx : NatV w u x) (hy : NatV w v y) (hl : (dg B32 x).length ≤ 1099511627776) (hl2 : (dg B32 y).length ≤ 1099511627776) :
    Calls Tryz.prog 92 #[u, v] w fun e w' => ∃ v, e = .returned v ∧ NatV w' v (x + y) ∧ New w w' := by
  obtain ⟨_, rfl, A, c, rfl, hc, hmax, hr⟩ := hx
  obtain ⟨_, rfl, A', c', rfl, hc', hmax', hr'⟩ := hy
  have hxs := dg_lt B32_2 x
  have hval := dg_val B32_2 x
  have hys := dg_lt B32_2 y
  have hval' := dg_val B32_2 y
  generalize dg B32 x = xs at *
  generalize dg B32 y = ys at *
  generalize hn : xs.length = n at *
  generalize hm : ys.length = m at *
  have HV := Lib.hid hval
  have HV' := Lib.hid hval'
  have HXS := Lib.hid hxs
  have HYS := Lib.hid hys
  have HN := Lib.hid hn
  have HM := Lib.hid hm
  clear hval hval' hxs hys hn hm
  by_cases hsw : n < m
  · have hmk := make_u32 (m + 1) (by omega)
    rw [show ((m + 1 : Nat) : Int) = (m : Int) + 1 from by omega] at hmk
    go_enter Tryz.func92, Tryz.ntmps92
    go_wp2
    go_loopw [6, 7, 8, 26] (fun c6 _ _ i w' => ∃ (k q : Nat) (L : List Nat), k ≤ m ∧ i = .int .i64 (k : Int) ∧ c6 = .int .u64 (q : Int) ∧ Hid (AddInv ys xs k q L) ∧
      w' = (((w.alloc (.cells #[.slice A' m c'] 26)).alloc (.cells #[.slice A n c] 26)).alloc (.cells #[.slice none 0 0] 26)).alloc (.cells (ecells .u32 L) 89)) (fun _ _ _ i _ => m - (intOf i).toNat)
    case atStart => exact ⟨0, 0, List.replicate (m + 1) 0, by omega, rfl, rfl, by have := AddInv.start ys xs; rw [HM.out] at this; exact this, rfl⟩
    case round =>
      obtain ⟨k, q, L, hk, rfl, rfl, HI, rfl⟩ := hrel
      by_cases hlt : k < m
      · obtain ⟨b, o, C, fr, rfl, hbl, hcell⟩ := hr' k hlt
        have hc3 := fun o1 o2 o3 o4 => (((New.refl w).alloc o1).alloc o2).alloc o3 |>.alloc o4 |>.still hcell
        have hxd : ys.getD k 0 < B32 := HYS.out _ (getD_mem (by rw [HM.out]; exact hlt))
        have hyd : xs.getD k 0 < B32 := by
          by_cases h : k < xs.length
          · exact HXS.out _ (getD_mem h)
          · rw [List.getD_eq_getElem?_getD, List.getElem?_eq_none (by omega)]; rw [B32_eq]; simp
        have hy0 : ¬ k < n → xs.getD k 0 = 0 := fun h => by
          rw [List.getD_eq_getElem?_getD, List.getElem?_eq_none (by have := HN.out; omega)]; rfl
        have hst := HI.out.step (by rw [HM.out]; exact hlt) hxd hyd
        have hcar := HI.out.carry
        have hck : (ecells .u32 L)[k]? = some (.int .u32 (L.getD k 0 : Nat)) := ecells_get _ (by have := HI.out.len; have := HM.out; omega)
        generalize L.getD k 0 = old at hck
        have hset := fun z => ecells_set .u32 L k z
        generalize hxk : ys.getD k 0 = xd at *
        have HXK := Lib.hid hxk
        have hxd' : (xd : Int) ≤ 4294967295 := by rw [B32_eq] at hxd; omega
        have hw0 : IntKind.u64.wrap (xd : Int) = (xd : Int) := IntWalk.u64_in _ (by omega)
        have hw1 : IntKind.u64.wrap ((q : Int) + (xd : Int)) = (q : Int) + (xd : Int) := IntWalk.u64_in _ (by omega)
        by_cases hkm : k < n
        · obtain ⟨b', o', C', fr', rfl, hbl', hcell'⟩ := hr k hkm
          have hc4 := fun o1 o2 o3 o4 => (((New.refl w).alloc o1).alloc o2).alloc o3 |>.alloc o4 |>.still hcell'
          generalize hyk : xs.getD k 0 = yd at *
          have HYK := Lib.hid hyk
          have hyd' : (yd : Int) ≤ 4294967295 := by rw [B32_eq] at hyd; omega
          have hw2 : IntKind.u64.wrap (yd : Int) = (yd : Int) := IntWalk.u64_in _ (by omega)
          have hw3 : IntKind.u64.wrap ((q : Int) + (xd : Int) + (yd : Int)) = (q : Int) + (xd : Int) + (yd : Int) := IntWalk.u64_in _ (by omega)
          have e1 : ((q : Int) + (xd : Int) + (yd : Int)) % 4294967296 = (((q + xd + yd) % B32 : Nat) : Int) := by rw [cast_mod]; omega
          have e2 : ((q : Int) + (xd : Int) + (yd : Int)) / 4294967296 = (((q + xd + yd) / B32 : Nat) : Int) := by rw [cast_div]; omega
          have e3 := hset ((q + xd + yd) % B32)
          rw [← e1] at e3
          have HST := Lib.hid hst
          have E2 := Lib.hid e2
          have E3 := Lib.hid e3
          clear hr hr' hcell hcell' hbl hbl' hy0 hyk hxk hst hset e1 e2 e3 hmk
          generalize ecells .u32 L = EC at *
          go_wp2
          go_roundw
          case rel => exact ⟨k + 1, _, _, by omega, by go_num, by rw [E2.out], HST, by rw [E3.out]⟩
          case measure => simp [intOf]; omega
        · rw [hy0 hkm] at hst
          have e1 : ((q : Int) + (xd : Int)) % 4294967296 = (((q + xd + 0) % B32 : Nat) : Int) := by rw [cast_mod]; omega
          have e2 : ((q : Int) + (xd : Int)) / 4294967296 = (((q + xd + 0) / B32 : Nat) : Int) := by rw [cast_div]; omega
          have e3 := hset ((q + xd + 0) % B32)
          rw [← e1] at e3
          have HST := Lib.hid hst
          have E2 := Lib.hid e2
          have E3 := Lib.hid e3
          clear hr hr' hcell hbl hy0 hxk hst hset e1 e2 e3 hmk
          generalize ecells .u32 L = EC at *
          go_wp2
          go_roundw
          case rel => exact ⟨k + 1, _, _, by omega, by go_num, by rw [E2.out], HST, by rw [E3.out]⟩
          case measure => simp [intOf]; omega
      · obtain rfl : k = m := by omega
        have hfin := AddInv.done (xs := ys) (ys := xs) (c := q) (L := L) (by rw [HM.out]; exact HI.out) (by rw [HM.out, HN.out]; omega)
        rw [HV'.out, HV.out, HM.out] at hfin
        have hcar := HI.out.carry
        have hlen : (L.set k q).length = k + 1 := by simp [HI.out.len, HM.out]
        have hlts := set_lt HI.out.lt k (z := q) (by rw [B32_eq]; omega)
        have hck : (ecells .u32 L)[k]? = some (.int .u32 (L.getD k 0 : Nat)) := ecells_get _ (by have := HI.out.len; have := HM.out; omega)
        generalize L.getD k 0 = old at hck
        have e3 := ecells_set .u32 L k q
        have e1 : (q : Int) % 4294967296 = (q : Int) := by omega
        have E3 := Lib.hid e3
        have HF := Lib.hid hfin
        have HLN := Lib.hid hlen
        clear hr hr' hmk hfin hlen e3
        generalize ecells .u32 L = EC at *
        go_wp2_with fail
        rw [E3.out]
        have hbx := (((Box.last ((w.alloc (.cells #[.slice A' k c'] 26)).alloc (.cells #[.slice A n c] 26)) #[.slice none 0 0] 26)).alloc (.cells (ecells .u32 (L.set k q)) 89))
        have hs := Sl.of_block (Box.last3 (w.alloc (.cells #[.slice A' k c'] 26)) (.cells #[.slice A n c] 26) (.cells #[.slice none 0 0] 26) (ecells .u32 (L.set k q)) 89) (by have := HLN.out; simp [maxLen] at this ⊢; omega)
        rw [show (L.set k q).length = k + 1 from HLN.out] at hs
        simp only [World.size_alloc] at hs hbx
        refine (trimmed_c hs).mono ?_
        rintro e w3 ⟨v3, rfl, h3, hn3⟩
        obtain ⟨hb3, he1, he2⟩ := at_end hbx (((((New.refl w).alloc _).alloc _).alloc _).alloc _) (by omega) hn3
        have hv := nat_of h3 hlts HF.out
        have hc3 : w3.cell? ⟨w.heap.size + 1 + 1, 0, none⟩ = some (.slice none 0 0) := hb3.cell 0
        have hf3 := hb3.frozen 0
        have HE2 := Lib.hid he2
        obtain ⟨A3, l3, c3, e3⟩ := hv.form
        obtain rfl : v3 = .slice A3 l3 c3 := by simpa using e3
        clear hb3 e3 h3 he2 hs hbx
        go_wp2
        refine bodyPost_ret (v := .agg #[.slice A3 l3 c3]) (by simp [results, Tryz.results92, go_sem, hc3]) rfl ⟨_, rfl, ?_, he1 _⟩
        rw [Nat.add_comm x y]; exact HE2.out _ _ _ hv
  · have hmk := make_u32 (n + 1) (by omega)
    rw [show ((n + 1 : Nat) : Int) = (n : Int) + 1 from by omega] at hmk
    go_enter Tryz.func92, Tryz.ntmps92
    go_wp2
    go_loopw [6, 7, 8, 26] (fun c6 _ _ i w' => ∃ (k q : Nat) (L : List Nat), k ≤ n ∧ i = .int .i64 (k : Int) ∧ c6 = .int .u64 (q : Int) ∧ Hid (AddInv xs ys k q L) ∧
      w' = (((w.alloc (.cells #[.slice A n c] 26)).alloc (.cells #[.slice A' m c'] 26)).alloc (.cells #[.slice none 0 0] 26)).alloc (.cells (ecells .u32 L) 89)) (fun _ _ _ i _ => n - (intOf i).toNat)
    case atStart => exact ⟨0, 0, List.replicate (n + 1) 0, by omega, rfl, rfl, by have := AddInv.start xs ys; rw [HN.out] at this; exact this, rfl⟩
    case round =>
      obtain ⟨k, q, L, hk, rfl, rfl, HI, rfl⟩ := hrel
      by_cases hlt : k < n
      · obtain ⟨b, o, C, fr, rfl, hbl, hcell⟩ := hr k hlt
        have hc3 := fun o1 o2 o3 o4 => (((New.refl w).alloc o1).alloc o2).alloc o3 |>.alloc o4 |>.still hcell
        have hxd : xs.getD k 0 < B32 := HXS.out _ (getD_mem (by rw [HN.out]; exact hlt))
        have hyd : ys.getD k 0 < B32 := by
          by_cases h : k < ys.length
          · exact HYS.out _ (getD_mem h)
          · rw [List.getD_eq_getElem?_getD, List.getElem?_eq_none (by omega)]; rw [B32_eq]; simp
        have hy0 : ¬ k < m → ys.getD k 0 = 0 := fun h => by
          rw [List.getD_eq_getElem?_getD, List.getElem?_eq_none (by have := HM.out; omega)]; rfl
        have hst := HI.out.step (by rw [HN.out]; exact hlt) hxd hyd
        have hcar := HI.out.carry
        have hck : (ecells .u32 L)[k]? = some (.int .u32 (L.getD k 0 : Nat)) := ecells_get _ (by have := HI.out.len; have := HN.out; omega)
        generalize L.getD k 0 = old at hck
        have hset := fun z => ecells_set .u32 L k z
        generalize hxk : xs.getD k 0 = xd at *
        have HXK := Lib.hid hxk
        have hxd' : (xd : Int) ≤ 4294967295 := by rw [B32_eq] at hxd; omega
        have hw0 : IntKind.u64.wrap (xd : Int) = (xd : Int) := IntWalk.u64_in _ (by omega)
        have hw1 : IntKind.u64.wrap ((q : Int) + (xd : Int)) = (q : Int) + (xd : Int) := IntWalk.u64_in _ (by omega)
        by_cases hkm : k < m
        · obtain ⟨b', o', C', fr', rfl, hbl', hcell'⟩ := hr' k hkm
          have hc4 := fun o1 o2 o3 o4 => (((New.refl w).alloc o1).alloc o2).alloc o3 |>.alloc o4 |>.still hcell'
          generalize hyk : ys.getD k 0 = yd at *
          have HYK := Lib.hid hyk
          have hyd' : (yd : Int) ≤ 4294967295 := by rw [B32_eq] at hyd; omega
          have hw2 : IntKind.u64.wrap (yd : Int) = (yd : Int) := IntWalk.u64_in _ (by omega)
          have hw3 : IntKind.u64.wrap ((q : Int) + (xd : Int) + (yd : Int)) = (q : Int) + (xd : Int) + (yd : Int) := IntWalk.u64_in _ (by omega)
          have e1 : ((q : Int) + (xd : Int) + (yd : Int)) % 4294967296 = (((q + xd + yd) % B32 : Nat) : Int) := by rw [cast_mod]; omega
          have e2 : ((q : Int) + (xd : Int) + (yd : Int)) / 4294967296 = (((q + xd + yd) / B32 : Nat) : Int) := by rw [cast_div]; omega
          have e3 := hset ((q + xd + yd) % B32)
          rw [← e1] at e3
          have HST := Lib.hid hst
          have E2 := Lib.hid e2
          have E3 := Lib.hid e3
          clear hr hr' hcell hcell' hbl hbl' hy0 hyk hxk hst hset e1 e2 e3 hmk
          generalize ecells .u32 L = EC at *
          go_wp2
          go_roundw
          case rel => exact ⟨k + 1, _, _, by omega, by go_num, by rw [E2.out], HST, by rw [E3.out]⟩
          case measure => simp [intOf]; omega
        · rw [hy0 hkm] at hst
          have e1 : ((q : Int) + (xd : Int)) % 4294967296 = (((q + xd + 0) % B32 : Nat) : Int) := by rw [cast_mod]; omega
          have e2 : ((q : Int) + (xd : Int)) / 4294967296 = (((q + xd + 0) / B32 : Nat) : Int) := by rw [cast_div]; omega
          have e3 := hset ((q + xd + 0) % B32)
          rw [← e1] at e3
          have HST := Lib.hid hst
          have E2 := Lib.hid e2
          have E3 := Lib.hid e3
          clear hr hr' hcell hbl hy0 hxk hst hset e1 e2 e3 hmk
          generalize ecells .u32 L = EC at *
          go_wp2
          go_roundw
          case rel => exact ⟨k + 1, _, _, by omega, by go_num, by rw [E2.out], HST, by rw [E3.out]⟩
          case measure => simp [intOf]; omega
      · obtain rfl : k = n := by omega
        have hfin := AddInv.done (xs := xs) (ys := ys) (c := q) (L := L) (by rw [HN.out]; exact HI.out) (by rw [HN.out, HM.out]; omega)
        rw [HV.out, HV'.out, HN.out] at hfin
        have hcar := HI.out.carry
        have hlen : (L.set k q).length = k + 1 := by simp [HI.out.len, HN.out]
        have hlts := set_lt HI.out.lt k (z := q) (by rw [B32_eq]; omega)
        have hck : (ecells .u32 L)[k]? = some (.int .u32 (L.getD k 0 : Nat)) := ecells_get _ (by have := HI.out.len; have := HN.out; omega)
        generalize L.getD k 0 = old at hck
        have e3 := ecells_set .u32 L k q
        have e1 : (q : Int) % 4294967296 = (q : Int) := by omega
        have E3 := Lib.hid e3
        have HF := Lib.hid hfin
        have HLN := Lib.hid hlen
        clear hr hr' hmk hfin hlen e3
        generalize ecells .u32 L = EC at *
        go_wp2_with fail
        rw [E3.out]
        have hbx := (((Box.last ((w.alloc (.cells #[.slice A k c] 26)).alloc (.cells #[.slice A' m c'] 26)) #[.slice none 0 0] 26)).alloc (.cells (ecells .u32 (L.set k q)) 89))
        have hs := Sl.of_block (Box.last3 (w.alloc (.cells #[.slice A k c] 26)) (.cells #[.slice A' m c'] 26) (.cells #[.slice none 0 0] 26) (ecells .u32 (L.set k q)) 89) (by have := HLN.out; simp [maxLen] at this ⊢; omega)
        rw [show (L.set k q).length = k + 1 from HLN.out] at hs
        simp only [World.size_alloc] at hs hbx
        refine (trimmed_c hs).mono ?_
        rintro e w3 ⟨v3, rfl, h3, hn3⟩
        obtain ⟨hb3, he1, he2⟩ := at_end hbx (((((New.refl w).alloc _).alloc _).alloc _).alloc _) (by omega) hn3
        have hv := nat_of h3 hlts HF.out
        have hc3 : w3.cell? ⟨w.heap.size + 1 + 1, 0, none⟩ = some (.slice none 0 0) := hb3.cell 0
        have hf3 := hb3.frozen 0
        have HE2 := Lib.hid he2
        obtain ⟨A3, l3, c3, e3⟩ := hv.form
        obtain rfl : v3 = .slice A3 l3 c3 := by simpa using e3
        clear hb3 e3 h3 he2 hs hbx
        go_wp2
        refine bodyPost_ret (v := .agg #[.slice A3 l3 c3]) (by simp [results, Tryz.results92, go_sem, hc3]) rfl ⟨_, rfl, ?_, he1 _⟩
        exact HE2.out _ _ _ hv
end Go.Proofs.YtkjlmibleoecgaaGreatDoor
