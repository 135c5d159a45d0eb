/- The program's nat, part 10: Bits. -/
import Derived.Test.YtkjlmibleoecgaaGreatDoorNat6
import Derived.Test.YtkjlmibleoecgaaGreatDoorShelf
import Derived.Deep.RegionHeld3
namespace Go.Proofs.YtkjlmibleoecgaaGreatDoor
open Go.RowKit

/-- How many binary digits. -/
def bitsN (x : Nat) : Nat := if x = 0 then 0 else 32 * ((dg B32 x).length - 1) + Lib.bitLen ((dg B32 x).getD ((dg B32 x).length - 1) 0)

theorem bitLenAux_le64 : ∀ (f x : Nat), Lib.bitLenAux f x ≤ f
  | 0, _ => Nat.le_refl _
  | f + 1, x => by
    unfold Lib.bitLenAux
    have := bitLenAux_le64 f (x / 2)
    split <;> omega
theorem bitLen_le (x : Nat) : Lib.bitLen x ≤ 64 := bitLenAux_le64 64 x
set_option maxRecDepth 100000 in
set_option maxHeartbeats 2000000 in
theorem bits_c {x : Nat} {u : Value} {w : World} (hx : NatV w u x) (hl : (dg B32 x).length ≤ 1099511627776) :
    Calls Tryz.prog 22 #[u] w fun e w' => e = .returned (.int .i64 (bitsN x)) ∧ New w w' := by
  obtain ⟨_, rfl, A, c, rfl, hc, hmax, hr⟩ := hx
  have hlt := dg_lt B32_2 x
  have hz : x = 0 ↔ (dg B32 x).length = 0 := by rw [List.length_eq_zero_iff]; exact (dg_nil B32_2).symm
  have hbn : bitsN x = if x = 0 then 0 else 32 * ((dg B32 x).length - 1) + Lib.bitLen ((dg B32 x).getD ((dg B32 x).length - 1) 0) := rfl
  rw [hbn]
  clear hbn
  generalize dg B32 x = xs at *
  by_cases h0 : x = 0
  · have h1 := hz.1 h0
    rw [h1, if_pos h0]
    rw [h1] at hc
    clear hr hlt hz h0
    go_enter Tryz.func22, Tryz.ntmps22
    go_wp2
    go_ret
    exact ⟨rfl, (New.refl w).alloc _⟩
  · have h1 : 0 < xs.length := by have := fun h => h0 (hz.2 h); omega
    rw [if_neg h0]
    obtain ⟨b, o, C, fr, rfl, hbl, hcell⟩ := hr (xs.length - 1) (by omega)
    have hd := hlt _ (getD_mem (d := 0) (show xs.length - 1 < xs.length by omega))
    generalize xs.getD (xs.length - 1) 0 = d at *
    clear hr hlt hz h0 hbl
    generalize xs.length = n at *
    obtain ⟨m, rfl⟩ : ∃ m, n = m + 1 := ⟨n - 1, by omega⟩
    rw [Nat.add_sub_cancel] at *
    have hcx : (w.alloc (.cells #[.slice (some ⟨b, o, none⟩) (m + 1) c] 26)).cell? ⟨b, o + m, none⟩ = some (.int .u32 (d : Int)) := ((New.refl w).alloc _).still hcell
    have hcb : (w.alloc (.cells #[.slice (some ⟨b, o, none⟩) (m + 1) c] 26)).cell? ⟨w.heap.size, 0, none⟩ = some (.slice (some ⟨b, o, none⟩) (m + 1) c) := (Box.last w _ _).cell 0
    have hn : New w (w.alloc (.cells #[.slice (some ⟨b, o, none⟩) (m + 1) c] 26)) := (New.refl w).alloc _
    have hlen := fun W => Tryz.bits_Len32 (d : Int) W (by omega) (by rw [B32_eq] at hd; omega)
    have HLEN := Lib.hid hlen
    have HN := Lib.hid hn
    clear hlen hcell hn
    go_enter Tryz.func22, Tryz.ntmps22
    go_wp2
    generalize w.alloc (.cells #[.slice (some ⟨b, o, none⟩) (m + 1) c] 26) = W at *
    have hm1 : (m : Int) < (m : Int) + 1 := by omega
    have hm2 : (0 : Int) ≤ (m : Int) := by omega
    have hm3 : (m : Int) ≤ 1099511627776 := by omega
    have hb64 : Lib.bitLen (d : Int).toNat ≤ 64 := bitLen_le _
    have hw1 : IntKind.i64.wrap ((m : Int) + 1 - 1) = (m : Int) := by rw [IntWalk.i64_in _ (by omega)]; omega
    have hw2 : IntKind.i64.wrap (m : Int) = (m : Int) := IntWalk.i64_in _ (by omega)
    have hw3 : IntKind.i64.wrap (32 * (m : Int)) = 32 * (m : Int) := IntWalk.i64_in _ (by omega)
    have hw4 : IntKind.i64.wrap (32 * (m : Int) + (Lib.bitLen (d : Int).toNat : Int)) = 32 * (m : Int) + (Lib.bitLen (d : Int).toNat : Int) := IntWalk.i64_in _ (by omega)
    have hw5 : IntKind.i64.wrap (32 * (m : Int) + (Lib.bitLen d : Int)) = 32 * (m : Int) + (Lib.bitLen d : Int) := IntWalk.i64_in _ (by have := bitLen_le d; omega)
    go_region_held3 (fun V => V = W.drew ∧ V.cell? ⟨w.heap.size, 0, none⟩ = some (.slice (some ⟨b, o, none⟩) (m + 1) c) ∧ V.cell? ⟨b, o + m, none⟩ = some (.int .u32 (d : Int)))
      (first
        | exact ⟨rfl, by simpa using hcb, by simpa using hcx⟩
        | (go_split_ands; exact ⟨by assumption, by assumption, by assumption⟩))
      ((rw [if_pos (by rfl)]; go_big_op; go_split_ands; with_reducible (refine (HLEN.out _).mono ?_); rintro e w' ⟨rfl, rfl⟩; dsimp only))
    go_wp2
    go_ret
    exact ⟨rfl, HN.out.drew⟩
end Go.Proofs.YtkjlmibleoecgaaGreatDoor
