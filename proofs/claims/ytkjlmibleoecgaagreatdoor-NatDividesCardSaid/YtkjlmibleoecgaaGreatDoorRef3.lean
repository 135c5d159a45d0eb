/- The reference of nat, part 3: Of, digit, Add. -/
import Derived.Test.YtkjlmibleoecgaaGreatDoorRef2
import Derived.Test.YtkjlmibleoecgaaGreatDoorNat6
import Derived.Test.YtkjlmibleoecgaaGreatDoorK6
import Derived.Deep.RegionHeld3
import Derived.Deep.RegionLaw
namespace Go.Proofs.YtkjlmibleoecgaaGreatDoor
set_option linter.unusedSimpArgs false
set_option linter.unusedVariables false
open Go.RowKit
abbrev RNat : TypeId := 29
theorem rof_of {n m : Nat} (h : 0 < m) {ds : List Nat} (e : dg B9 n = ds ++ dg B9 m) : dg B9 n = (ds ++ [m % B9]) ++ dg B9 (m / B9) := by
  rw [e, dg_pos B9_2 h]; simp
set_option maxHeartbeats 2000000 in
theorem rof_c {n : Nat} (hn : n < 18446744073709551616) (w : World) :
    Calls Tryz.prog 86 #[.int .u64 (n : Int)] w fun e w' => ∃ v, e = .returned v ∧ RefV w' v n ∧ New w w' := by
  go_enter Tryz.func86, Tryz.ntmps86
  have hb0 := (Box.last w #[.slice none 0 0] 29)
  go_wp2
  go_loopw [0, 3] (fun v0 v3 w' => ∃ (m : Nat) (ds : List Nat) (A : Option Addr) (c : Nat), v0 = .int .u64 (m : Int) ∧ v3 = .slice A ds.length c ∧ m ≤ n ∧ ds.length ≤ 64 ∧ Hid (dg B9 n = ds ++ dg B9 m) ∧ Hid (OwnE encI 3 w.heap.size w' (.slice A ds.length c) ds) ∧ Hid (Box w' w.heap.size #[.slice none 0 0] 29) ∧ Hid (New w w')) (fun v0 _ _ => (intOf v0).toNat)
  case atStart =>
    refine ⟨n, [], some ⟨w.heap.size + 1, 0, none⟩, 0, rfl, rfl, Nat.le_refl _, by simp, (by simp : dg B9 n = [] ++ dg B9 n), ?_, (hb0.alloc _ : Box _ _ _ _), (((New.refl w).alloc _).alloc _ : New w _)⟩
    exact (OwnE.of_box (xs := []) (Box.last2 w _ #[] 3) (by omega) (by decide) : OwnE encI 3 w.heap.size _ _ _)
  case round =>
    obtain ⟨m, ds, A, c, rfl, rfl, hm, hdl, HD, HO, HB, HN⟩ := hrel
    by_cases h0 : 0 < m
    · have hd2 := rof_of h0 HD.out
      have hdl2 : ds.length < 3 := by
        have h1 := dg_len (b := B9) (n := n) (L := 3) B9_2 (by rw [B9_eq]; omega)
        rw [hd2] at h1
        simp at h1
        omega
      have e1 : (m : Int) % 1000000000 = ((m % B9 : Nat) : Int) := by rw [B9_eq]; omega
      have e2 : (m : Int) / 1000000000 = ((m / B9 : Nat) : Int) := by rw [B9_eq]; omega
      have e3 : Int.tmod (m : Int) 1000000000 = ((m % B9 : Nat) : Int) := by rw [Int.tmod_eq_emod_of_nonneg (by omega), e1]
      have e4 : Int.tdiv (m : Int) 1000000000 = ((m / B9 : Nat) : Int) := by rw [Int.tdiv_eq_ediv_of_nonneg (by omega), e2]
      have hr : m % B9 < 1000000000 := by rw [B9_eq]; omega
      have hqm : m / B9 < m := Nat.div_lt_self h0 (by rw [B9_eq]; omega)
      generalize m % B9 = r at *
      generalize m / B9 = q at *
      have HD2 := Lib.hid hd2
      clear hd2
      have hw : IntKind.u64.wrap (q : Int) = (q : Int) := IntWalk.u64_in _ (by omega)
      have HCX := Lib.hid ((Box.last wr #[encI r] 3).cell 0)
      have HOWN := Lib.hid (HO.out.new ((New.refl wr).alloc (.cells #[encI r] 3)))
      have HNN := Lib.hid (HN.out.alloc (.cells #[encI r] 3))
      go_wp2_with (at_builtin; refine app_own2 encI w _ rfl _ _ 27 3 rfl (.int .i64 0) 8 (by kernel_rfl) info_int rfl (by decide) _ ds rfl HNN.out HOWN.out _ _ _ r rfl HCX.out rfl (by omega) ?_)
      intro A4 c4 w3 hown3 hn3 hkept hsz3
      have HB4 := Lib.hid (hkept _ _ _ _ _ (HB.out.alloc (.cells #[encI r] 3)) (by decide))
      have HO4 := Lib.hid hown3
      have HN4 := Lib.hid hn3
      clear hown3 hn3 hkept hsz3 HCX HOWN HNN
      go_wp2
      go_roundw
      case rel => exact ⟨q, ds ++ [r], A4, c4, by go_num, by simp, by omega, by simp; omega, HD2.out, by rw [List.length_append]; exact HO4.out, HB4.out, HN4.out⟩
      case measure => simp [intOf]; omega
    · obtain rfl : m = 0 := by omega
      have hds : ds = dg B9 n := by have := HD.out; rw [dg_zero, List.append_nil] at this; exact this.symm
      have hc := HB.out.cell 0
      have hf := HB.out.frozen 0
      have hv : RefV wr (.agg #[.slice A ds.length c]) n := ⟨_, rfl, by rw [← hds]; exact HO.out.sl⟩
      have HV := Lib.hid (hv.set HB.out (by decide) (i := 0) (.slice A ds.length c))
      have HZ := Lib.hid (HB.out.set 0 (.slice A ds.length c) |>.cell 0)
      have HNZ := Lib.hid (HN.out.setCell (p := ⟨w.heap.size, 0, none⟩) (Nat.le_refl _) (.slice A ds.length c))
      clear hds hv
      go_wp2
      have hz := HZ.out
      refine bodyPost_ret (v := .agg #[.slice A ds.length c]) (by simp [results, Tryz.results86, go_sem, hz]) rfl ⟨_, rfl, HV.out, HNZ.out⟩
end Go.Proofs.YtkjlmibleoecgaaGreatDoor
