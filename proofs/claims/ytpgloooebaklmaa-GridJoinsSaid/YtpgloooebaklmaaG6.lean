/- The law on grids: what it says where a grid may not be. -/
import Derived.Test.YtpgloooebaklmaaG5
import Derived.Test.YtpgloooebaklmaaP5
import Derived.Deep.RegionLaw
namespace Go.Proofs.Ytpgloooebaklmaa
set_option linter.unusedSimpArgs false
set_option linter.unusedVariables false
open Go.RowKit
section
variable {w w' : World} {g : Grd} {v : Value}
set_option maxRecDepth 1000000 in
set_option maxHeartbeats 4000000 in
theorem joins_bad (h : GrdIn w g v) (hb : heavyB g = true ∨ (heavyB g = false ∧ grdOk g = false)) : Calls Try.prog 3 #[.agg (gcells g v)] w fun e w' => e = .returned (.bool true) ∧ New w w' := by
  have H := Lib.hid h
  obtain ⟨A, c, rfl, h1, h2, h3⟩ := id h.ls
  have HHV := Lib.hid (fun W (hn : New w W) => heavy_c g _ W (H.out.new hn))
  have HRC := Lib.hid (fun W (hn : New w W) => rcheck_c (H.out.new hn))
  have HGC := Lib.hid (fun W (hn : New w W) => check_c (H.out.new hn))
  have HBX := Lib.hid (Box.last w (gcells g (.slice A g.lines.length c)) 24)
  have HN1 : Hid (New w (w.alloc (.cells (gcells g (.slice A g.lines.length c)) 24))) := Lib.hid ((New.refl w).alloc _)
  have HBAD := Lib.hid (fun h => chkE_bad (g := g) h)
  obtain ⟨CE, hCE⟩ : ∃ x, x = chkE g := ⟨_, rfl⟩
  obtain ⟨HV, hHV⟩ : ∃ x, x = heavyB g := ⟨_, rfl⟩
  rw [← hHV] at HHV hb
  rw [← hCE] at HRC HGC HBAD
  clear h h3 hCE hHV
  unfold gcells at *
  rcases hb with rfl | ⟨rfl, hb⟩
  · go_enter Try.func3, Try.ntmps3
    go_wp2_with fail
    refine (HHV.out _ HN1.out).mono ?_
    rintro e w5 ⟨rfl, hn5⟩
    have HN5 := Lib.hid (HN1.out.trans hn5)
    have HB5 := Lib.hid (HBX.out.new hn5)
    have q0 : w5.cell? ⟨w.heap.size, 0, none⟩ = some (.int .i64 g.zones) := HB5.out.cell 0; have q1 : w5.cell? ⟨w.heap.size, 1, none⟩ = some (.int .i64 g.hours) := HB5.out.cell 1; have q2 : w5.cell? ⟨w.heap.size, 2, none⟩ = some (.slice A g.lines.length c) := HB5.out.cell 2; have q3 : w5.cell? ⟨w.heap.size, 3, none⟩ = some (.int .i64 g.low) := HB5.out.cell 3; have q4 : w5.cell? ⟨w.heap.size, 4, none⟩ = some (.int .i64 g.high) := HB5.out.cell 4; clear hn5
    go_wp2
    have HN5d := Lib.hid HN5.out.drew
    have HB5d := Lib.hid (HB5.out.drew)
    have d0 : w5.drew.cell? ⟨w.heap.size, 0, none⟩ = some (.int .i64 g.zones) := HB5d.out.cell 0; have d1 : w5.drew.cell? ⟨w.heap.size, 1, none⟩ = some (.int .i64 g.hours) := HB5d.out.cell 1; have d2 : w5.drew.cell? ⟨w.heap.size, 2, none⟩ = some (.slice A g.lines.length c) := HB5d.out.cell 2; have d3 : w5.drew.cell? ⟨w.heap.size, 3, none⟩ = some (.int .i64 g.low) := HB5d.out.cell 3; have d4 : w5.drew.cell? ⟨w.heap.size, 4, none⟩ = some (.int .i64 g.high) := HB5d.out.cell 4; clear q0 q1 q2 q3 q4
    go_region_with (first
      | (go_at_call 5; (with_reducible refine (HRC.out _ HN6.out).mono ?_); rintro e w7 ⟨rfl, hn7⟩; have HN7 := Lib.hid (HN6.out.trans hn7); have HB7 := Lib.hid (HB6.out.new hn7); have r0 : w7.cell? ⟨w.heap.size, 0, none⟩ = some (.int .i64 g.zones) := HB7.out.cell 0; have r1 : w7.cell? ⟨w.heap.size, 1, none⟩ = some (.int .i64 g.hours) := HB7.out.cell 1; have r2 : w7.cell? ⟨w.heap.size, 2, none⟩ = some (.slice A g.lines.length c) := HB7.out.cell 2; have r3 : w7.cell? ⟨w.heap.size, 3, none⟩ = some (.int .i64 g.low) := HB7.out.cell 3; have r4 : w7.cell? ⟨w.heap.size, 4, none⟩ = some (.int .i64 g.high) := HB7.out.cell 4; clear hn7)
      | (go_at_call 6; (with_reducible refine (HGC.out _ HN5d.out).mono ?_); rintro e w6 ⟨rfl, hn6⟩; have HN6 := Lib.hid (HN5d.out.trans hn6); have HB6 := Lib.hid (HB5d.out.new hn6); have s0 : w6.cell? ⟨w.heap.size, 0, none⟩ = some (.int .i64 g.zones) := HB6.out.cell 0; have s1 : w6.cell? ⟨w.heap.size, 1, none⟩ = some (.int .i64 g.hours) := HB6.out.cell 1; have s2 : w6.cell? ⟨w.heap.size, 2, none⟩ = some (.slice A g.lines.length c) := HB6.out.cell 2; have s3 : w6.cell? ⟨w.heap.size, 3, none⟩ = some (.int .i64 g.low) := HB6.out.cell 3; have s4 : w6.cell? ⟨w.heap.size, 4, none⟩ = some (.int .i64 g.high) := HB6.out.cell 4; clear hn6))
    all_goals
      clear HRC HGC HHV HB5 HBX
      go_wp2
      go_ret
      exact ⟨rfl, HN7.out⟩
  · obtain rfl := HBAD.out hb
    go_enter Try.func3, Try.ntmps3
    go_wp2_with fail
    refine (HHV.out _ HN1.out).mono ?_
    rintro e w4 ⟨rfl, hn4⟩
    have HN4 := Lib.hid (HN1.out.trans hn4)
    have HB4 := Lib.hid (HBX.out.new hn4)
    have p0 : w4.cell? ⟨w.heap.size, 0, none⟩ = some (.int .i64 g.zones) := HB4.out.cell 0; have p1 : w4.cell? ⟨w.heap.size, 1, none⟩ = some (.int .i64 g.hours) := HB4.out.cell 1; have p2 : w4.cell? ⟨w.heap.size, 2, none⟩ = some (.slice A g.lines.length c) := HB4.out.cell 2; have p3 : w4.cell? ⟨w.heap.size, 3, none⟩ = some (.int .i64 g.low) := HB4.out.cell 3; have p4 : w4.cell? ⟨w.heap.size, 4, none⟩ = some (.int .i64 g.high) := HB4.out.cell 4; clear hn4
    go_wp2_with fail
    refine (HRC.out _ HN4.out).mono ?_
    rintro e w5 ⟨rfl, hn5⟩
    have HN5 := Lib.hid (HN4.out.trans hn5)
    have HB5 := Lib.hid (HB4.out.new hn5)
    have q0 : w5.cell? ⟨w.heap.size, 0, none⟩ = some (.int .i64 g.zones) := HB5.out.cell 0; have q1 : w5.cell? ⟨w.heap.size, 1, none⟩ = some (.int .i64 g.hours) := HB5.out.cell 1; have q2 : w5.cell? ⟨w.heap.size, 2, none⟩ = some (.slice A g.lines.length c) := HB5.out.cell 2; have q3 : w5.cell? ⟨w.heap.size, 3, none⟩ = some (.int .i64 g.low) := HB5.out.cell 3; have q4 : w5.cell? ⟨w.heap.size, 4, none⟩ = some (.int .i64 g.high) := HB5.out.cell 4; clear hn5 p0 p1 p2 p3 p4
    go_wp2
    have HN5d := Lib.hid HN5.out.drew
    have HB5d := Lib.hid (HB5.out.drew)
    have d0 : w5.drew.cell? ⟨w.heap.size, 0, none⟩ = some (.int .i64 g.zones) := HB5d.out.cell 0; have d1 : w5.drew.cell? ⟨w.heap.size, 1, none⟩ = some (.int .i64 g.hours) := HB5d.out.cell 1; have d2 : w5.drew.cell? ⟨w.heap.size, 2, none⟩ = some (.slice A g.lines.length c) := HB5d.out.cell 2; have d3 : w5.drew.cell? ⟨w.heap.size, 3, none⟩ = some (.int .i64 g.low) := HB5d.out.cell 3; have d4 : w5.drew.cell? ⟨w.heap.size, 4, none⟩ = some (.int .i64 g.high) := HB5d.out.cell 4; clear q0 q1 q2 q3 q4
    go_region_with (first
      | (go_at_call 5; (with_reducible refine (HRC.out _ HN6.out).mono ?_); rintro e w7 ⟨rfl, hn7⟩; have HN7 := Lib.hid (HN6.out.trans hn7); have HB7 := Lib.hid (HB6.out.new hn7); have r0 : w7.cell? ⟨w.heap.size, 0, none⟩ = some (.int .i64 g.zones) := HB7.out.cell 0; have r1 : w7.cell? ⟨w.heap.size, 1, none⟩ = some (.int .i64 g.hours) := HB7.out.cell 1; have r2 : w7.cell? ⟨w.heap.size, 2, none⟩ = some (.slice A g.lines.length c) := HB7.out.cell 2; have r3 : w7.cell? ⟨w.heap.size, 3, none⟩ = some (.int .i64 g.low) := HB7.out.cell 3; have r4 : w7.cell? ⟨w.heap.size, 4, none⟩ = some (.int .i64 g.high) := HB7.out.cell 4; clear hn7)
      | (go_at_call 6; (with_reducible refine (HGC.out _ HN5d.out).mono ?_); rintro e w6 ⟨rfl, hn6⟩; have HN6 := Lib.hid (HN5d.out.trans hn6); have HB6 := Lib.hid (HB5d.out.new hn6); have s0 : w6.cell? ⟨w.heap.size, 0, none⟩ = some (.int .i64 g.zones) := HB6.out.cell 0; have s1 : w6.cell? ⟨w.heap.size, 1, none⟩ = some (.int .i64 g.hours) := HB6.out.cell 1; have s2 : w6.cell? ⟨w.heap.size, 2, none⟩ = some (.slice A g.lines.length c) := HB6.out.cell 2; have s3 : w6.cell? ⟨w.heap.size, 3, none⟩ = some (.int .i64 g.low) := HB6.out.cell 3; have s4 : w6.cell? ⟨w.heap.size, 4, none⟩ = some (.int .i64 g.high) := HB6.out.cell 4; clear hn6))
    all_goals
      clear HRC HGC HHV HB5 HBX
      go_wp2
      go_ret
      exact ⟨rfl, HN7.out⟩
end
end Go.Proofs.Ytpgloooebaklmaa
