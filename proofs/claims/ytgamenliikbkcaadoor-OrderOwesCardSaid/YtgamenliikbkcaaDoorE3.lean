/- The program's Print of a lock, as a whole. -/
import Derived.Test.YtgamenliikbkcaaDoorE2
namespace Go.Proofs.YtgamenliikbkcaaDoor
set_option linter.unusedSimpArgs false
set_option linter.unusedVariables false
open Go.RowKit
set_option maxRecDepth 1000000 in
set_option maxHeartbeats 4000000 in
theorem print_lock (w : World) (L : Laid w) : Calls Tryd.prog 5 #[.agg lockA] w fun e w' => e = .returned (.string lock5) ∧ New w w' := by
  have HL := Lib.hid L
  clear L
  unfold lockA
  go_enter Tryd.func5, Tryd.ntmps5
  go_wp2_with fail
  obtain ⟨o0, ho0⟩ : ∃ o0, o0 = Obj.cells #[.int .i64 1, .int .i64 5, .int .i64 0, sE, .int .i64 0, .int .i64 0, .int .i64 0, .bool false, .int .i64 0, .int .i64 0, sE, .int .i64 0, .int .i64 0, .bool false, .int .i64 0, .slice none 0 0, .int .i64 0, .int .i64 0] 29 := ⟨_, rfl⟩
  rw [← ho0]
  clear ho0
  refine (put_c w _ (w.heap.size + 1) (w.heap.size + 1 + 1 + 1) (some ⟨w.heap.size + 1 + 1, 0, none⟩) 1 (by omega) ?_ ?_ ?_ ?_ ?_).mono ?_
  · have := Box.last (w.alloc o0) #[.slice (some ⟨w.heap.size + 1 + 1, 0, none⟩) 1 1] 33
    rw [World.size_alloc] at this
    exact (this.alloc _).alloc _
  · have := Box.last (((w.alloc o0).alloc (.cells #[.slice (some ⟨w.heap.size + 1 + 1, 0, none⟩) 1 1] 33)).alloc (.cells #[.string lockS] 9)) #[.int .i64 5] 3
    rw [World.size_alloc, World.size_alloc, World.size_alloc] at this
    exact this
  · have := Box.last ((w.alloc o0).alloc (.cells #[.slice (some ⟨w.heap.size + 1 + 1, 0, none⟩) 1 1] 33)) #[.string lockS] 9
    rw [World.size_alloc, World.size_alloc] at this
    exact OwnE.of_box (enc := Value.string) (xs := [lockS]) (this.alloc _) (by omega) (by decide)
  · exact ((((New.refl w).alloc _).alloc _).alloc _).alloc _
  · exact HL.out.new (((((New.refl w).alloc _).alloc _).alloc _).alloc _)
  rintro e w5 ⟨v, A, c, rfl, hb, ho, hn⟩
  obtain ⟨g, c', e1, h1, h2, h3, ⟨cur, h4⟩, h5⟩ := ho.at (by simp)
  injection e1 with e1 _ e2
  subst e1; subst e2
  have c0 := h5 0 (by decide)
  have c1 := h5 1 (by decide)
  have HJ := Lib.hid (join_c g 0 c w5 (lt_of_block h4) h1 c0 (by simpa using c1))
  have hbx := hb.cell 0
  simp only [List.getElem?_toArray, List.getElem?_cons_zero] at hbx
  have HN := Lib.hid hn
  clear hb ho hn h4 h5 c0 c1 h3
  go_wp2_with fail
  refine HJ.out.mono ?_
  rintro e w6 ⟨rfl, hn6⟩
  have HN6 := Lib.hid (HN.out.trans hn6)
  clear hn6
  go_wp2
  go_ret
  exact ⟨rfl, HN6.out⟩
end Go.Proofs.YtgamenliikbkcaaDoor
