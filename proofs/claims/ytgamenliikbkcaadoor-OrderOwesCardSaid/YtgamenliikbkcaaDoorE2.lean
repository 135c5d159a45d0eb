/- The program's Print of a lock, walked. -/
import Derived.Test.YtgamenliikbkcaaDoorE1
import Derived.Deep.RegionLaw
import Derived.RegionTactic
namespace Go.Proofs.YtgamenliikbkcaaDoor
set_option linter.unusedSimpArgs false
set_option linter.unusedVariables false
open Go.RowKit
theorem info9 : (Tryd.prog.info? 9).map (fun i => (i.zero, i.size, i.bytes)) = some (some (.string ⟨#[]⟩), 1, 16) := by kernel_rfl
def PutPost (w0 : World) (bx : Nat) (e : Ending) (w' : World) : Prop := ∃ v A c, e = .returned v ∧ Box w' bx #[.slice A 2 c] 33 ∧ OwnE Value.string 9 w0.heap.size w' (.slice A 2 c) [lockS, five] ∧ New w0 w'
set_option maxRecDepth 1000000 in
set_option maxHeartbeats 4000000 in
theorem put_c (w0 w : World) (bx bs : Nat) (A : Option Addr) (c : Nat) (hbx : w0.heap.size ≤ bx) (hX : Box w bx #[.slice A 1 c] 33) (hS : Box w bs #[.int .i64 5] 3) (hO : OwnE Value.string 9 w0.heap.size w (.slice A 1 c) [lockS]) (hn : New w0 w) (L : Laid w) :
    Calls Tryd.prog 6 #[.slice (some ⟨bs, 0, none⟩) 1 1, .pointer (some ⟨bx, 0, none⟩)] w (PutPost w0 bx) := by
  have HX := Lib.hid hX
  have HS := Lib.hid hS
  have HO := Lib.hid hO
  have HN := Lib.hid hn
  have HL := Lib.hid L
  have s0 := hS.cell 0
  simp only [List.getElem?_toArray, List.getElem?_cons_zero] at s0
  clear hX hS hO hn L
  go_enter Tryd.func6, Tryd.ntmps6
  go_wp2
  go_loopw [7] (fun v7 W => (v7 = .int .i64 0 ∧ Hid (W = w)) ∨ (v7 = .int .i64 1 ∧ Hid (PutPost w0 bx (.returned undef) W))) (fun v7 _ => 1 - (intOf v7).toNat)
  case atStart => exact .inl ⟨rfl, rfl⟩
  case round =>
    obtain ⟨rfl, hw⟩ | ⟨rfl, hp⟩ := hrel
    · obtain rfl := hw.out
      go_wp2
      have HLd := Lib.hid (HL.out.new ((New.refl wr).drew))
      have HIT := Lib.hid (itoa_c wr.drew HLd.out)
      have hx2 : wr.drew.cell? ⟨bx, 0, none⟩ = some (.slice A 1 c) := (HX.out.drew).cell 0
      have HNd := Lib.hid (HN.out.drew)
      have HXd := Lib.hid (HX.out.drew)
      have HOd := Lib.hid (HO.out.new ((New.refl wr).drew))
      clear HX HS HO HN HL s0 HLd hw
      go_region_law ((first
        | (refine step_app_one Value.string w0 _ (by rfl) _ _ 33 9 (by rfl) (.string ⟨#[]⟩) 16 (by rfl) info9 (by rfl) (by omega) _ [lockS] (by rfl) (HN5.out.alloc (.cells #[.string five] 9)) (HO5.out.new ((New.refl w5).alloc (.cells #[.string five] 9))) _ 0 _ five (by rfl) ((Box.last w5 #[.string five] 9).cell 0) (fun _ => rfl) (by simp) ?_; intro A6 c6 w6 ho6 hn6 hk6; have FY := Lib.hid (hk6.box (HX5.out.alloc (.cells #[.string five] 9)) (by decide)); have hx6 : w6.cell? ⟨bx, 0, none⟩ = some (.slice A 1 c) := FY.out.cell 0; have hg6 : w6.frozen? ⟨bx, 0, none⟩ = false := FY.out.frozen 0)
        | (rw [if_pos (by rfl)]; (first | go_big_op | go_simp); refine HIT.out.mono ?_; rintro e w5 ⟨rfl, hn5⟩; have HN5 := Lib.hid (HNd.out.trans hn5); have HX5 := Lib.hid (HXd.out.new hn5); have HO5 := Lib.hid (HOd.out.new hn5); have hx5 : w5.cell? ⟨bx, 0, none⟩ = some (.slice A 1 c) := HX5.out.cell 0; have hx5a : ∀ o, (w5.alloc o).cell? ⟨bx, 0, none⟩ = some (.slice A 1 c) := fun o => (HX5.out.alloc o).cell 0; clear hn5; dsimp only)))
      all_goals
        have HPP : Hid (PutPost w0 bx (.returned undef) (w6.setCell ⟨bx, 0, none⟩ (.slice A6 2 c6))) := Lib.hid ⟨undef, A6, c6, rfl, FY.out.set 0 (.slice A6 2 c6), ho6.set FY.out (by decide) _, hn6.setCell (p := ⟨bx, 0, none⟩) hbx _⟩
        generalize w6.setCell ⟨bx, 0, none⟩ (.slice A6 ([lockS].length + 1) c6) = w7 at *
        go_wp2
        go_roundw
        case rel => exact .inr ⟨by go_num, HPP⟩
        case measure => simp [intOf]
    · go_wp2
      obtain ⟨v, A', c', -, h1, h2, h3⟩ := hp.out
      go_end0
      exact ⟨_, A', c', rfl, h1, h2, h3⟩
end Go.Proofs.YtgamenliikbkcaaDoor
