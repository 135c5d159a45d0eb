/- The reference of nat, part 7: Mul. (Printed by mkref7.py.) -/
import Derived.Test.YtkjlmibleoecgaaGreatDoorRef6
import Derived.Test.YtkjlmibleoecgaaGreatDoorNat7
import Derived.Deep.Cut
namespace Go.Proofs.YtkjlmibleoecgaaGreatDoor
set_option linter.unusedSimpArgs false
set_option linter.unusedVariables false
open Go.RowKit
/-- What holds in Mul's outer loop .. -/
structure RMulInv (xs ys : List Nat) (i : Nat) (L : List Nat) : Prop where
  len : L.length = xs.length + ys.length
  lt : ∀ d ∈ L, d < B9
  rest : ∀ j, i + ys.length ≤ j → L.getD j 0 = 0
  prod : val B9 L = val B9 (xs.take i) * val B9 ys
/-- .. and in its inner one. -/
structure RMulIn (xs ys : List Nat) (i k c : Nat) (L : List Nat) : Prop where
  len : L.length = xs.length + ys.length
  lt : ∀ d ∈ L, d < B9
  rest : ∀ j, i + ys.length ≤ j → L.getD j 0 = 0
  carry : c < B9
  prod : val B9 L + B9 ^ (i + k) * c = val B9 (xs.take i) * val B9 ys + B9 ^ i * (xs.getD i 0 * val B9 (ys.take k))
theorem RMulInv.start (xs ys : List Nat) : RMulInv xs ys 0 (List.replicate (xs.length + ys.length) 0) := by
  refine ⟨by simp, fun d hd => ?_, fun j _ => ?_, by simp [val, val_replicate]⟩
  · rw [List.mem_replicate] at hd; rw [hd.2, B9_eq]; omega
  · simp [List.getD_eq_getElem?_getD, List.getElem?_replicate]; split <;> rfl
theorem RMulInv.enter {xs ys : List Nat} {i : Nat} {L : List Nat} (h : RMulInv xs ys i L) : RMulIn xs ys i 0 0 L :=
  ⟨h.len, h.lt, h.rest, by rw [B9_eq]; omega, by simp [val, h.prod]⟩
theorem RMulIn.z_le {xs ys : List Nat} {i k c : Nat} {L : List Nat} (h : RMulIn xs ys i k c L) (hx : xs.getD i 0 < B9) (hy : ys.getD k 0 < B9) (hl : L.getD (i + k) 0 < B9) : c + (L.getD (i + k) 0 + xs.getD i 0 * ys.getD k 0) < B9 * B9 := by
  have hc := h.carry
  have h1 : xs.getD i 0 * ys.getD k 0 ≤ (B9 - 1) * (B9 - 1) := Nat.mul_le_mul (by omega) (by omega)
  generalize xs.getD i 0 * ys.getD k 0 = p at *
  rw [B9_eq] at *; omega
theorem RMulIn.step {xs ys : List Nat} {i k c : Nat} {L : List Nat} (h : RMulIn xs ys i k c L) (hi : i < xs.length) (hk : k < ys.length) (hx : xs.getD i 0 < B9) (hy : ys.getD k 0 < B9) :
    RMulIn xs ys i (k + 1) ((c + (L.getD (i + k) 0 + xs.getD i 0 * ys.getD k 0)) / B9) (L.set (i + k) ((c + (L.getD (i + k) 0 + xs.getD i 0 * ys.getD k 0)) % B9)) := by
  have hL : i + k < L.length := by rw [h.len]; omega
  have hz := h.z_le hx hy (h.lt _ (getD_mem hL))
  refine ⟨by simp [h.len], lt_set h.lt _ (Nat.mod_lt _ (by rw [B9_eq]; omega)), fun j hj => ?_, ?_, ?_⟩
  · rw [List.getD_eq_getElem?_getD, List.getElem?_set_ne (show i + k ≠ j by omega), ← List.getD_eq_getElem?_getD]; exact h.rest j hj
  · rw [Nat.div_lt_iff_lt_mul (by rw [B9_eq]; omega)]; exact hz
  · have e0 := val_set B9 L (i + k) ((c + (L.getD (i + k) 0 + xs.getD i 0 * ys.getD k 0)) % B9) hL
    have e := Nat.div_add_mod (c + (L.getD (i + k) 0 + xs.getD i 0 * ys.getD k 0)) B9
    have h1 := h.prod
    generalize (c + (L.getD (i + k) 0 + xs.getD i 0 * ys.getD k 0)) / B9 = q at *
    generalize (c + (L.getD (i + k) 0 + xs.getD i 0 * ys.getD k 0)) % B9 = r at *
    generalize L.getD (i + k) 0 = l at *
    have e1 : B9 ^ (i + k) * (B9 * q + r) = B9 ^ (i + k) * (c + (l + xs.getD i 0 * ys.getD k 0)) := by rw [e]
    rw [val_take_succ, show i + (k + 1) = (i + k) + 1 from by omega, Nat.pow_succ]
    have e2 : B9 ^ i * (xs.getD i 0 * (B9 ^ k * ys.getD k 0)) = B9 ^ (i + k) * (xs.getD i 0 * ys.getD k 0) := by
      rw [Nat.pow_add, Nat.mul_assoc, ← Nat.mul_assoc (xs.getD i 0), Nat.mul_comm (xs.getD i 0), Nat.mul_assoc]
    simp only [Nat.mul_add, ← Nat.mul_assoc] at e1 e2 h1 e0 ⊢
    omega
theorem RMulIn.leave {xs ys : List Nat} {i c : Nat} {L : List Nat} (h : RMulIn xs ys i ys.length c L) (hi : i < xs.length) : RMulInv xs ys (i + 1) (L.set (i + ys.length) c) := by
  have hL : i + ys.length < L.length := by rw [h.len]; omega
  refine ⟨by simp [h.len], lt_set h.lt _ h.carry, fun j hj => ?_, ?_⟩
  · rw [List.getD_eq_getElem?_getD, List.getElem?_set_ne (show i + ys.length ≠ j by omega), ← List.getD_eq_getElem?_getD]; exact h.rest j (by omega)
  · have e0 := val_set B9 L (i + ys.length) c hL
    rw [h.rest _ (Nat.le_refl _)] at e0
    have h1 := h.prod
    rw [List.take_of_length_le (Nat.le_refl _)] at h1
    rw [val_take_succ, Nat.add_mul, Nat.mul_assoc]
    omega

theorem make_i64 (n : Nat) (h : n ≤ 4000000) (w : World) : (Instr.makeSlice 27 (.int .i64 (n : Int)) (.int .i64 (n : Int))).run Tryz.prog w = .ok (.slice (some ⟨w.heap.size, 0, none⟩) n n) (w.alloc (.cells (ecells .i64 (List.replicate n 0)) 3)) := by
  rw [← ecells_made]
  exact run_make_row' 27 3 _ 8 (by kernel_rfl) info_int rfl .i64 .i64 n (by omega) (by omega) w
set_option maxHeartbeats 4000000 in
set_option maxRecDepth 100000 in
theorem rmul_c {x y : Nat} {u v : Value} {w : World} (hx : RefV w u x) (hy : RefV w v y) (hl : (dg B9 x).length ≤ 1000000) (hl2 : (dg B9 y).length ≤ 1000000) :
    Calls Tryz.prog 97 #[u, v] w fun e w' => ∃ v, e = .returned v ∧ RefV w' v (x * y) ∧ New w w' := by
  obtain ⟨_, rfl, A, c, rfl, hc, hmax, hr⟩ := hx
  obtain ⟨_, rfl, A', c', rfl, hc', hmax', hr'⟩ := hy
  have hxs := dg_lt B9_2 x
  have hval := dg_val B9_2 x
  have hys := dg_lt B9_2 y
  have hval' := dg_val B9_2 y
  have hz1 : (dg B9 x).length = 0 → x = 0 := fun h => (dg_nil B9_2).1 (List.length_eq_zero_iff.1 h)
  have hz2 : (dg B9 y).length = 0 → y = 0 := fun h => (dg_nil B9_2).1 (List.length_eq_zero_iff.1 h)
  generalize dg B9 x = xs at *
  generalize dg B9 y = ys at *
  generalize hn : xs.length = n at *
  generalize hm : ys.length = m at *
  have hmk := make_i64 (n + m) (by omega)
  rw [show ((n + m : Nat) : Int) = (n : Int) + (m : Int) from by omega] at hmk
  have HV := Lib.hid hval
  have HV' := Lib.hid hval'
  have HXS := Lib.hid hxs
  have HYS := Lib.hid hys
  have HN := Lib.hid hn
  have HM := Lib.hid hm
  have HR := Lib.hid hr
  have HR' := Lib.hid hr'
  have HZ1 := Lib.hid hz1
  have HZ2 := Lib.hid hz2
  unfold maxLen at hmax hmax'
  clear hval hval' hxs hys hn hm hr hr' hz1 hz2
  have hcs : n = 0 ∨ (0 < n ∧ m = 0) ∨ (0 < n ∧ 0 < m) := by omega
  rcases hcs with h0 | ⟨h1, h0⟩ | ⟨h1, h2⟩
  · subst h0
    go_enter Tryz.func97, Tryz.ntmps97
    go_wp2
    obtain ⟨W0, hW0⟩ : ∃ X, X = ((w.alloc (.cells #[.slice A 0 c] 29)).alloc (.cells #[.slice A' m c'] 29)).alloc (.cells #[.slice none 0 0] 29) := ⟨_, rfl⟩
    refine bodyPost_ret (v := .agg #[.slice none 0 0]) (by simp [results, Tryz.results97, go_sem]) rfl ⟨_, rfl, ?_, ?_⟩
    · rw [HZ1.out trivial, Nat.zero_mul]; exact RefV.zero _
    · exact ((((New.refl w).alloc _).alloc _).alloc _)
  · subst h0; have hn0 : ((n : Int) == 0) = false := by rw [beq_eq_false_iff_ne]; omega
    go_enter Tryz.func97, Tryz.ntmps97
    go_wp2
    obtain ⟨W0, hW0⟩ : ∃ X, X = ((w.alloc (.cells #[.slice A n c] 29)).alloc (.cells #[.slice A' 0 c'] 29)).alloc (.cells #[.slice none 0 0] 29) := ⟨_, rfl⟩
    refine bodyPost_ret (v := .agg #[.slice none 0 0]) (by simp [results, Tryz.results97, go_sem]) rfl ⟨_, rfl, ?_, ?_⟩
    · rw [HZ2.out trivial, Nat.mul_zero]; exact RefV.zero _
    · exact ((((New.refl w).alloc _).alloc _).alloc _)
  · have hn0 : ((n : Int) == 0) = false := by rw [beq_eq_false_iff_ne]; omega
    have hm0 : ((m : Int) == 0) = false := by rw [beq_eq_false_iff_ne]; omega
    go_enter Tryz.func97, Tryz.ntmps97
    go_wp2
    obtain ⟨W0, hW0⟩ : ∃ X, X = (((w.alloc (.cells #[.slice A n c] 29)).alloc (.cells #[.slice A' m c'] 29)).alloc (.cells #[.slice none 0 0] 29)).alloc (.cells (ecells .i64 (List.replicate (n + m) 0)) 3) := ⟨_, rfl⟩
    have HN0 : Hid (New w W0) := Lib.hid (by rw [hW0]; exact ((((New.refl w).alloc _).alloc _).alloc _).alloc _)
    have HB0 : Hid (Box W0 w.heap.size #[.slice A n c] 29) := Lib.hid (by rw [hW0]; exact (((Box.last w _ _).alloc _).alloc _).alloc _)
    have HB1 : Hid (Box W0 (w.heap.size + 1) #[.slice A' m c'] 29) := Lib.hid (by rw [hW0]; exact ((Box.last2 w _ _ _).alloc _).alloc _)
    have HB2 : Hid (Box W0 (w.heap.size + 1 + 1) #[.slice none 0 0] 29) := Lib.hid (by rw [hW0]; exact (Box.last3 w _ _ _ _).alloc _)
    have HB3 : Hid (Box W0 (w.heap.size + 1 + 1 + 1) (ecells .i64 (List.replicate (n + m) 0)) 3) := Lib.hid (by
      rw [hW0]
      have := Box.last (((w.alloc (.cells #[.slice A n c] 29)).alloc (.cells #[.slice A' m c'] 29)).alloc (.cells #[.slice none 0 0] 29)) (ecells .i64 (List.replicate (n + m) 0)) 3
      rw [World.size_alloc, World.size_alloc, World.size_alloc] at this
      exact this)
    rw [← hW0]
    clear hW0 hmk
    go_loopw [6] (fun i w' => ∃ (k : Nat) (L : List Nat), k ≤ n ∧ i = .int .i64 (k : Int) ∧ Hid (RMulInv xs ys k L) ∧ Hid (New w w') ∧ Hid (Box w' w.heap.size #[.slice A n c] 29) ∧ Hid (Box w' (w.heap.size + 1) #[.slice A' m c'] 29) ∧ Hid (Box w' (w.heap.size + 1 + 1) #[.slice none 0 0] 29) ∧ Hid (Box w' (w.heap.size + 1 + 1 + 1) (ecells .i64 L) 3)) (fun i _ => n - (intOf i).toNat)
    case atStart => exact ⟨0, List.replicate (n + m) 0, by omega, rfl, by have := RMulInv.start xs ys; rw [HN.out, HM.out] at this; exact this, HN0.out, HB0.out, HB1.out, HB2.out, HB3.out⟩
    case round =>
      clear HN0 HB0 HB1 HB2 HB3
      obtain ⟨i, L, hi, rfl, HI, HNw, HB0, HB1, HB2, HB3⟩ := hrel
      have c0 := HB0.out.cell 0
      have c1 := HB1.out.cell 0
      simp only [List.getElem?_toArray, List.getElem?_cons_zero] at c0 c1
      by_cases hlt : i < n
      · obtain ⟨b, o, C, fr, rfl, hbl, hcell⟩ := HR.out i hlt
        have hxd : xs.getD i 0 < B9 := HXS.out _ (getD_mem (by rw [HN.out]; exact hlt))
        have HMI := Lib.hid (RMulInv.enter HI.out)
        generalize hxk : xs.getD i 0 = xd at *
        have HXK := Lib.hid hxk
        have HCELL := Lib.hid hcell
        clear hcell hbl hxk
        go_wp2
        go_loopw [7, 8] (fun c8 k8 w' => ∃ (k q : Nat) (L : List Nat), k ≤ m ∧ k8 = .int .i64 (k : Int) ∧ c8 = .int .i64 (q : Int) ∧ Hid (RMulIn xs ys i k q L) ∧ Hid (New w w') ∧ Hid (Box w' w.heap.size #[.slice (some ⟨b, o, none⟩) n c] 29) ∧ Hid (Box w' (w.heap.size + 1) #[.slice A' m c'] 29) ∧ Hid (Box w' (w.heap.size + 1 + 1) #[.slice none 0 0] 29) ∧ Hid (Box w' (w.heap.size + 1 + 1 + 1) (ecells .i64 L) 3)) (fun _ k _ => m - (intOf k).toNat)
        case atStart => exact ⟨0, 0, L, by omega, rfl, rfl, HMI.out, HNw.out, HB0.out, HB1.out, HB2.out, HB3.out⟩
        case round =>
          clear HNw HB0 HB1 HB2 HB3 c0 c1
          obtain ⟨k, q, L, hk, rfl, rfl, HJ, HNw, HB0, HB1, HB2, HB3⟩ := hrel
          have c0 := HB0.out.cell 0
          have c1 := HB1.out.cell 0
          simp only [List.getElem?_toArray, List.getElem?_cons_zero] at c0 c1
          have hlen : L.length = n + m := by rw [HJ.out.len, HN.out, HM.out]
          have hqc := HJ.out.carry
          by_cases hkm : k < m
          · obtain ⟨b', o', C', fr', rfl, hbl', hcell'⟩ := HR'.out k hkm
            have hcx := HNw.out.still HCELL.out
            have hcy := HNw.out.still hcell'
            have hyd : ys.getD k 0 < B9 := HYS.out _ (getD_mem (by rw [HM.out]; exact hkm))
            have hst := HJ.out.step (by rw [HN.out]; exact hlt) (by rw [HM.out]; exact hkm) (by rw [HXK.out]; exact hxd) hyd
            have hld : L.getD (i + k) 0 < B9 := HJ.out.lt _ (getD_mem (by omega))
            have hz := HJ.out.z_le (by rw [HXK.out]; exact hxd) hyd hld
            have hck := (HB3.out.cell (i + k)).trans (ecells_get .i64 (show i + k < L.length by omega))
            have hset := fun z => ecells_set .i64 L (i + k) z
            have hfz := HB3.out.frozen (i + k)
            rw [HXK.out] at hst hz
            generalize L.getD (i + k) 0 = l at *
            generalize ys.getD k 0 = yd at *
            have hxd' : (xd : Int) ≤ 999999999 := by rw [B9_eq] at hxd; omega
            have hyd' : (yd : Int) ≤ 999999999 := by rw [B9_eq] at hyd; omega
            have hld' : (l : Int) ≤ 999999999 := by rw [B9_eq] at hld; omega
            have hq' : (q : Int) ≤ 999999999 := by rw [B9_eq] at hqc; omega
            have hp1 : xd * yd ≤ 999999999 * 999999999 := Nat.mul_le_mul (by omega) (by omega)
            have hmul : (xd : Int) * (yd : Int) = ((xd * yd : Nat) : Int) := (Int.natCast_mul _ _).symm
            generalize xd * yd = p at *
            have e0 : (q : Int) + (l : Int) + (p : Int) = ((q + (l + p) : Nat) : Int) := by omega
            obtain ⟨z, hzz⟩ : ∃ z : Nat, z = q + (l + p) := ⟨_, rfl⟩
            have hzb : z ≤ 999999999999999999 := by omega
            rw [← hzz] at e0 hst hz
            have e1 : (z : Int).tmod 1000000000 = ((z % B9 : Nat) : Int) := by rw [B9_eq, Int.tmod_eq_emod_of_nonneg (by omega)]; omega
            have e2 : (z : Int).tdiv 1000000000 = ((z / B9 : Nat) : Int) := by rw [B9_eq, Int.tdiv_eq_ediv_of_nonneg (by omega)]; omega
            have e3 : (z : Int) % 1000000000 = ((z % B9 : Nat) : Int) := by rw [B9_eq]; omega
            have e4 : (z : Int) / 1000000000 = ((z / B9 : Nat) : Int) := by rw [B9_eq]; omega
            have hqq : z / B9 ≤ 999999999 := by rw [B9_eq]; omega
            have hik : ((i : Int) + (k : Int)).toNat = i + k := by omega
            have es := hset (z % B9)
            have hrr : z % B9 < 1000000000 := by rw [B9_eq]; omega
            generalize z / B9 = qq at *
            generalize z % B9 = rr at *
            have HST := Lib.hid hst
            have ES := Lib.hid es
            have HLN := Lib.hid hlen
            clear hcell' hbl' hst hset hlen hz es hzz
            go_upto_region 11 with fail
            go_quiet (fail)
            obtain ⟨W2, hW2⟩ : ∃ X, X = wr.drewN nq := ⟨_, rfl⟩
            have hn2 : New wr W2 := by rw [hW2]; exact (New.refl _).drewN _
            rw [← hW2]
            clear hW2 c0 c1 hck hfz hcx hcy
            have HBb := Lib.hid (HB3.out.new hn2)
            have hck := (HBb.out.cell (i + k)).trans (ecells_get .i64 (show i + k < L.length by rw [HLN.out]; omega))
            have hfz := HBb.out.frozen (i + k)
            generalize L.getD (i + k) 0 = l2 at hck
            have HBS := Lib.hid (HBb.out.set (i + k) (.int .i64 (rr : Int)))
            rw [ES.out] at HBS
            have HB0' := Lib.hid ((HB0.out.new hn2).far (p := w.heap.size + 1 + 1 + 1) (i := i + k) (by omega) (.int .i64 (rr : Int)))
            have HB1' := Lib.hid ((HB1.out.new hn2).far (p := w.heap.size + 1 + 1 + 1) (i := i + k) (by omega) (.int .i64 (rr : Int)))
            have HB2' := Lib.hid ((HB2.out.new hn2).far (p := w.heap.size + 1 + 1 + 1) (i := i + k) (by omega) (.int .i64 (rr : Int)))
            have HN' := Lib.hid ((HNw.out.trans hn2).setCell (p := ⟨w.heap.size + 1 + 1 + 1, i + k, none⟩) (by show _ ≤ w.heap.size + 1 + 1 + 1; omega) (.int .i64 (rr : Int)))
            clear hn2
            go_wp2
            go_roundw
            case rel => exact ⟨k + 1, qq, _, by omega, by go_num, by go_num, HST.out, HN'.out, HB0'.out, HB1'.out, HB2'.out, HBS.out⟩
            case measure => simp [intOf]; omega
          · obtain rfl : k = m := by omega
            have hlv := RMulIn.leave (xs := xs) (ys := ys) (i := i) (c := q) (L := L) (by rw [HM.out]; exact HJ.out) (by rw [HN.out]; exact hlt)
            rw [HM.out] at hlv
            have hck := (HB3.out.cell (i + k)).trans (ecells_get .i64 (show i + k < L.length by omega))
            have hfz := HB3.out.frozen (i + k)
            generalize L.getD (i + k) 0 = l at hck
            have e3 := ecells_set .i64 L (i + k) q
            have hik : ((i : Int) + (k : Int)).toNat = i + k := by omega
            have HLV := Lib.hid hlv
            have HBS := Lib.hid (HB3.out.set (i + k) (.int .i64 (q : Int)))
            rw [e3] at HBS
            have HB0' := Lib.hid ((HB0.out).far (p := w.heap.size + 1 + 1 + 1) (i := i + k) (by omega) (.int .i64 (q : Int)))
            have HB1' := Lib.hid ((HB1.out).far (p := w.heap.size + 1 + 1 + 1) (i := i + k) (by omega) (.int .i64 (q : Int)))
            have HB2' := Lib.hid ((HB2.out).far (p := w.heap.size + 1 + 1 + 1) (i := i + k) (by omega) (.int .i64 (q : Int)))
            have HN' := Lib.hid ((HNw.out).setCell (p := ⟨w.heap.size + 1 + 1 + 1, i + k, none⟩) (by show _ ≤ w.heap.size + 1 + 1 + 1; omega) (.int .i64 (q : Int)))
            have HLN := Lib.hid hlen
            clear hlv e3 hlen
            go_wp2
            go_roundw
            case rel => exact ⟨i + 1, _, by omega, by go_num, HLV.out, HN'.out, HB0'.out, HB1'.out, HB2'.out, HBS.out⟩
            case measure => simp [intOf]; omega
      · obtain rfl : i = n := by omega
        have hpr := HI.out.prod
        rw [List.take_of_length_le (by rw [HN.out]; omega), HV.out, HV'.out] at hpr
        have hlen : L.length = i + m := by rw [HI.out.len, HN.out, HM.out]
        have hlts := HI.out.lt
        have HP := Lib.hid hpr
        have HLT := Lib.hid hlts
        have hs := Sl.of_block HB3.out (by rw [hlen]; simp [maxLen]; omega)
        rw [hlen] at hs
        have HT := Lib.hid (rtrim_c hs)
        clear hpr hlen hlts hs
        go_wp2_with fail
        refine HT.out.mono ?_
        rintro e w4 ⟨v, rfl, hv4, hn4⟩
        have hv := RefV.of_sl hv4 HLT.out
        rw [HP.out] at hv
        obtain ⟨A7, l7, c7, e7⟩ := hv.form
        obtain rfl : v = .slice A7 l7 c7 := by simpa using e7
        have hb := HB2.out.new hn4
        have hc := hb.cell 0
        have hf := hb.frozen 0
        have HV := Lib.hid (hv.set hb (by decide) (i := 0) (.slice A7 l7 c7))
        have HZ := Lib.hid (hb.set 0 (.slice A7 l7 c7) |>.cell 0)
        have HNZ := Lib.hid ((HNw.out.trans hn4).setCell (p := ⟨w.heap.size + 1 + 1, 0, none⟩) (by show _ ≤ w.heap.size + 1 + 1; omega) (.slice A7 l7 c7))
        clear hv hv4 hn4 hb e7
        go_wp2
        have hz := HZ.out
        refine bodyPost_ret (v := .agg #[.slice A7 l7 c7]) (by simp [results, Tryz.results97, go_sem, hz]) rfl ⟨_, rfl, HV.out, HNZ.out⟩
end Go.Proofs.YtkjlmibleoecgaaGreatDoor
