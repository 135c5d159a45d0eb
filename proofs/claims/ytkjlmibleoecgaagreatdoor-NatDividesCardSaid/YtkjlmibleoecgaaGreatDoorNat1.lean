/- The program's nat, part 1. -/
import Derived.Test.YtkjlmibleoecgaaGreatDoorK1
namespace Go.Proofs.YtkjlmibleoecgaaGreatDoor
open Go.RowKit

set_option maxHeartbeats 800000 in
theorem trimmed_c {xs : List Nat} {u : Value} {w : World} (h : Sl 89 .u32 w u xs) :
    Calls Tryz.prog 74 #[u] w fun e w' => ∃ v, e = .returned (.agg #[v]) ∧ Sl 89 .u32 w' v (trim xs) ∧ New w w' := by
  obtain ⟨A, c, rfl, hc, hm, hr⟩ := h
  have hm0 := hm
  unfold maxLen at hm
  have hfin : ∀ w', New w w' → Sl 89 .u32 w' (.slice A (trim xs).length c) (trim xs) := fun w' hb => by
    have hl := trim_le xs
    refine Sl.new ⟨A, c, rfl, by omega, hm0, fun i hi => ?_⟩ hb
    obtain ⟨b, o, C, fr, e, h1, h2⟩ := hr i (by omega)
    refine ⟨b, o, C, fr, e, h1, ?_⟩
    have e1 : (trim xs).getD i 0 = (xs.take (trim xs).length).getD i 0 := congrArg (fun l : List Nat => l.getD i 0) (trim_prefix xs)
    rw [e1, getD_take _ _ _ _ hi]; exact h2
  have HF := Lib.hid hfin
  clear hfin hm0
  go_enter Tryz.func74, Tryz.ntmps74
  go_wp2
  go_loopw [0] (fun v w' => ∃ m : Nat, v = .slice A m c ∧ m ≤ xs.length ∧ (trim (xs.take m) = trim xs) ∧ ∃ n, w' = (w.alloc (.cells #[.slice none 0 0] 26)).drewN n) (fun v _ => match v with | .slice _ m _ => m | _ => 0)
  case atStart => exact ⟨xs.length, rfl, Nat.le_refl _, by simp, 0, rfl⟩
  case round =>
    obtain ⟨m, rfl, hm1, ht, n, rfl⟩ := hrel
    have HT := Lib.hid ht
    clear ht
    by_cases h0 : 0 < m
    · obtain ⟨b, o, C, fr, rfl, hbl, hcell⟩ := hr (m - 1) (by omega)
      have hb := lt_of_block hbl
      clear hbl
      clear hr
      by_cases hz : xs.getD (m - 1) 0 = 0
      · have hcell' : w.cell? ⟨b, o + (m - 1), none⟩ = some (.int .u32 0) := by rw [hcell, hz]; rfl
        have HZ := Lib.hid hz
        clear hcell hz
        go_wp2
        go_roundw
        case rel => exact ⟨m - 1, rfl, by omega, by rw [trim_take_pred h0 hm1 HZ.out]; exact HT.out, _, rfl⟩
        case measure => simp; omega
      · have hz' : (((xs.getD (m - 1) 0 : Nat) : Int) == 0) = false := by rw [beq_eq_false_iff_ne]; omega
        have ht2 : trim xs = xs.take m := by rw [← HT.out, trim_take_id h0 hm1 hz]
        have hlen : (trim xs).length = m := by rw [ht2, List.length_take]; omega
        have hf : ∀ w', New w w' → Sl 89 .u32 w' (.slice (some ⟨b, o, none⟩) m c) (trim xs) := by
          have := HF.out; rw [hlen] at this; exact this
        have HL := Lib.hid hf
        clear hlen ht2 hf
        generalize hd : xs.getD (m - 1) 0 = d at hz hz' hcell
        have HD := Lib.hid hd
        clear hd hz
        go_wp2
        refine bodyPost_ret (v := .agg #[.slice (some ⟨b, o, none⟩) m c]) (by simp [results, Tryz.results74, go_sem]) rfl ⟨_, rfl, ?_, ?_⟩
        · exact HL.out _ ((((New.refl w).alloc _).drewN _).setCell (Nat.le_refl _) _)
        · exact (((New.refl w).alloc _).drewN _).setCell (Nat.le_refl _) _
    · obtain rfl : m = 0 := by omega
      have hlen : (trim xs).length = 0 := by rw [← HT.out]; rfl
      have hf : ∀ w', New w w' → Sl 89 .u32 w' (.slice A 0 c) (trim xs) := by
        have := HF.out; rw [hlen] at this; exact this
      have HL := Lib.hid hf
      clear hr hlen hf
      go_wp2
      refine bodyPost_ret (v := .agg #[.slice A 0 c]) (by simp [results, Tryz.results74, go_sem]) rfl ⟨_, rfl, ?_, ?_⟩
      · exact HL.out _ ((((New.refl w).alloc _).drewN _).setCell (Nat.le_refl _) _)
      · exact (((New.refl w).alloc _).drewN _).setCell (Nat.le_refl _) _
end Go.Proofs.YtkjlmibleoecgaaGreatDoor
