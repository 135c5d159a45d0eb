/- The reference of nat, part 1: trim, Parse. -/
import Derived.Test.YtkjlmibleoecgaaGreatDoorK2
import Derived.Test.YtkjlmibleoecgaaGreatDoorK3
namespace Go.Proofs.YtkjlmibleoecgaaGreatDoor
set_option linter.unusedSimpArgs false
set_option linter.unusedVariables false
open Go.RowKit

def B9 : Nat := 1000000000
theorem B9_eq : B9 = 1000000000 := rfl
theorem B9_2 : 2 ≤ B9 := by rw [B9_eq]; omega
/-- v is the reference's nat that is n. -/
def RefV (w : World) (v : Value) (n : Nat) : Prop := ∃ u, v = .agg #[u] ∧ Sl 3 .i64 w u (dg B9 n)
theorem RefV.form {w : World} {v : Value} {n : Nat} (h : RefV w v n) : ∃ A l c, v = .agg #[.slice A l c] := by
  obtain ⟨_, rfl, A, c, rfl, _⟩ := h; exact ⟨A, _, c, rfl⟩
theorem RefV.zero (w : World) : RefV w (.agg #[.slice none 0 0]) 0 :=
  ⟨_, rfl, none, 0, by rw [dg_zero]; rfl, by rw [dg_zero]; simp, Nat.zero_le _, fun i hi => by rw [dg_zero] at hi; cases hi⟩
theorem RefV.new {w w' : World} {v : Value} {n : Nat} (h : RefV w v n) (hb : New w w') : RefV w' v n := by
  obtain ⟨u, e, h⟩ := h; exact ⟨u, e, h.new hb⟩
theorem RefV.set {w : World} {v : Value} {n : Nat} (h : RefV w v n) {p i : Nat} {C : Array Value} {T : TypeId} (hp : Box w p C T) (ht : T ≠ 3) (u : Value) : RefV (w.setCell ⟨p, i, none⟩ u) v n := by
  obtain ⟨x, e, h⟩ := h; exact ⟨x, e, h.set hp ht u⟩
theorem RefV.of_sl {w : World} {u : Value} {xs : List Nat} (h : Sl 3 .i64 w u (trim xs)) (hd : ∀ d ∈ xs, d < B9) : RefV w (.agg #[u]) (val B9 xs) := ⟨u, rfl, by rw [dg_of B9_2 hd]; exact h⟩
abbrev encI : Nat → Value := fun x : Nat => Value.int .i64 (x : Int)
set_option maxHeartbeats 800000 in
theorem rtrim_c {xs : List Nat} {u : Value} {w : World} (h : Sl 3 .i64 w u xs) :
    Calls Tryz.prog 80 #[u] w fun e w' => ∃ v, e = .returned (.agg #[v]) ∧ Sl 3 .i64 w' v (trim xs) ∧ New w w' := by
  obtain ⟨A, c, rfl, hc, hm, hr⟩ := h
  have hm0 := hm
  unfold maxLen at hm
  have hfin : ∀ w', New w w' → Sl 3 .i64 w' (.slice A (trim xs).length c) (trim xs) := fun w' hb => by
    have hl := trim_le xs
    refine Sl.new ⟨A, c, rfl, by omega, hm0, fun i hi => ?_⟩ hb
    obtain ⟨b, o, C, fr, e, h1, h2⟩ := hr i (by omega)
    refine ⟨b, o, C, fr, e, h1, ?_⟩
    have e1 : (trim xs).getD i 0 = (xs.take (trim xs).length).getD i 0 := congrArg (fun l : List Nat => l.getD i 0) (trim_prefix xs)
    rw [e1, getD_take _ _ _ _ hi]; exact h2
  have HF := Lib.hid hfin
  clear hfin hm0
  go_enter Tryz.func80, Tryz.ntmps80
  go_wp2
  go_loopw [0] (fun v w' => ∃ m : Nat, v = .slice A m c ∧ m ≤ xs.length ∧ (trim (xs.take m) = trim xs) ∧ ∃ n, w' = (w.alloc (.cells #[.slice none 0 0] 29)).drewN n) (fun v _ => match v with | .slice _ m _ => m | _ => 0)
  case atStart => exact ⟨xs.length, rfl, Nat.le_refl _, by simp, 0, rfl⟩
  case round =>
    obtain ⟨m, rfl, hm1, ht, n, rfl⟩ := hrel
    have HT := Lib.hid ht
    clear ht
    by_cases h0 : 0 < m
    · obtain ⟨b, o, C, fr, rfl, hbl, hcell⟩ := hr (m - 1) (by omega)
      have hb := lt_of_block hbl
      clear hbl
      clear hr
      by_cases hz : xs.getD (m - 1) 0 = 0
      · have hcell' : w.cell? ⟨b, o + (m - 1), none⟩ = some (.int .i64 0) := by rw [hcell, hz]; rfl
        have HZ := Lib.hid hz
        clear hcell hz
        go_wp2
        go_roundw
        case rel => exact ⟨m - 1, rfl, by omega, by rw [trim_take_pred h0 hm1 HZ.out]; exact HT.out, _, rfl⟩
        case measure => simp; omega
      · have hz' : (((xs.getD (m - 1) 0 : Nat) : Int) == 0) = false := by rw [beq_eq_false_iff_ne]; omega
        have ht2 : trim xs = xs.take m := by rw [← HT.out, trim_take_id h0 hm1 hz]
        have hlen : (trim xs).length = m := by rw [ht2, List.length_take]; omega
        have hf : ∀ w', New w w' → Sl 3 .i64 w' (.slice (some ⟨b, o, none⟩) m c) (trim xs) := by
          have := HF.out; rw [hlen] at this; exact this
        have HL := Lib.hid hf
        clear hlen ht2 hf
        generalize hd : xs.getD (m - 1) 0 = d at hz hz' hcell
        have HD := Lib.hid hd
        clear hd hz
        go_wp2
        refine bodyPost_ret (v := .agg #[.slice (some ⟨b, o, none⟩) m c]) (by simp [results, Tryz.results80, go_sem]) rfl ⟨_, rfl, ?_, ?_⟩
        · exact HL.out _ ((((New.refl w).alloc _).drewN _).setCell (Nat.le_refl _) _)
        · exact (((New.refl w).alloc _).drewN _).setCell (Nat.le_refl _) _
    · obtain rfl : m = 0 := by omega
      have hlen : (trim xs).length = 0 := by rw [← HT.out]; rfl
      have hf : ∀ w', New w w' → Sl 3 .i64 w' (.slice A 0 c) (trim xs) := by
        have := HF.out; rw [hlen] at this; exact this
      have HL := Lib.hid hf
      clear hr hlen hf
      go_wp2
      refine bodyPost_ret (v := .agg #[.slice A 0 c]) (by simp [results, Tryz.results80, go_sem]) rfl ⟨_, rfl, ?_, ?_⟩
      · exact HL.out _ ((((New.refl w).alloc _).drewN _).setCell (Nat.le_refl _) _)
      · exact (((New.refl w).alloc _).drewN _).setCell (Nat.le_refl _) _

end Go.Proofs.YtkjlmibleoecgaaGreatDoor
