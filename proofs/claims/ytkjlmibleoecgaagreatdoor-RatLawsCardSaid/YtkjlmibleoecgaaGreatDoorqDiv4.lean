/- DivMod, the other ways; the whole. (Printed by mkdiv4.py.) -/
import Derived.Test.YtkjlmibleoecgaaGreatDoorM1
import Derived.Test.YtkjlmibleoecgaaGreatDoorM2
import Derived.Test.YtkjlmibleoecgaaGreatDoorM0
import Derived.Deep.RegionHeld3
import Derived.WalkMore
import Derived.RegionTactic
import Derived.Outline
import Derived.BigRegion
namespace Go.Proofs.YtkjlmibleoecgaaGreatDoor
set_option linter.unusedSimpArgs false
set_option linter.unusedVariables false
open Go.RowKit
set_option maxRecDepth 1000000 in
set_option maxHeartbeats 4000000 in
theorem divmod_zero {x : Nat} {u v : Value} {w : World} (hx : NatV w u x) (hy : NatV w v 0) :
    Calls Tryz.prog 14 #[u, v] w fun e w' => ∃ q r, e = .returned (.tuple #[q, r, .int .i64 12]) ∧ NatV w' q 0 ∧ NatV w' r 0 ∧ New w w' := by
  have hx0 := hx
  have hy0 := hy
  obtain ⟨_, rfl, A, c, rfl, hc, hmax, hr⟩ := hx
  obtain ⟨_, rfl, A', c', rfl, hc', hmax', hr'⟩ := hy
  rw [dg_zero] at hc' hr' hy0 ⊢
  simp only [List.length_nil] at *
  generalize (dg B32 x).length = m at *
  obtain ⟨n, hn⟩ : ∃ n, n = 0 := ⟨_, rfl⟩
  have HN3 := Lib.hid (fun o1 o2 o3 o4 => (((New.refl w).alloc o1).alloc o2 |>.alloc o3).alloc o4)
  clear hr hr' hx0 hy0 hmax hmax' hc hc' hn
  go_enter Tryz.func14, Tryz.ntmps14
  go_wp2
  go_step3
  go_wp2
  first | rw [Exit.noGoto_ret] | skip
  exact bodyPost_ret (v := .tuple #[.agg #[.slice none 0 0], .agg #[.slice none 0 0], .int .i64 12]) (by simp [results, Tryz.results14, go_sem]) rfl ⟨_, _, rfl, NatV.zero _, NatV.zero _, HN3.out _ _ _ _⟩
set_option maxRecDepth 1000000 in
set_option maxHeartbeats 4000000 in
theorem divmod_less {x y : Nat} {u v : Value} {w : World} (hx : NatV w u x) (hy : NatV w v y) (hl : (dg B32 x).length ≤ 1000000) (hl2 : (dg B32 y).length ≤ 1000000) (hlt : x < y) :
    Calls Tryz.prog 14 #[u, v] w fun e w' => ∃ q r, e = .returned (.tuple #[q, r, .int .i64 0]) ∧ NatV w' q (x / y) ∧ NatV w' r (x % y) ∧ New w w' := by
  have hx0 := hx
  have hy0 := hy
  obtain ⟨_, rfl, A, c, rfl, hc, hmax, hr⟩ := hx
  obtain ⟨_, rfl, A', c', rfl, hc', hmax', hr'⟩ := hy
  have hn1 : 1 ≤ (dg B32 y).length := List.length_pos_iff.2 (fun h => by rw [dg_nil B32_2] at h; omega)
  have HCM := Lib.hid (fun W (h : New w W) => cmp_c (hx0.new h) (hy0.new h) (by omega) (by omega))
  have HX0 := Lib.hid (fun W (h : New w W) => hx0.new h)
  have HDV : Hid (x / y = 0 ∧ x % y = x) := Lib.hid ⟨Nat.div_eq_of_lt hlt, Nat.mod_eq_of_lt hlt⟩
  generalize (dg B32 x).length = m at *
  generalize (dg B32 y).length = n at *
  have hn0b : ((n : Int) == 0) = false := by rw [beq_eq_false_iff_ne]; omega
  have HN3 := Lib.hid (fun o1 o2 o3 o4 => (((New.refl w).alloc o1).alloc o2 |>.alloc o3).alloc o4)
  have HB0 := Lib.hid ((((Box.last w #[.slice A m c] 26).alloc (.cells #[.slice A' n c'] 26)).alloc (.cells #[.slice none 0 0] 26)).alloc (.cells #[.slice none 0 0] 26))
  have HB1 := Lib.hid (((Box.last2 w (.cells #[.slice A m c] 26) #[.slice A' n c'] 26).alloc (.cells #[.slice none 0 0] 26)).alloc (.cells #[.slice none 0 0] 26))
  have HB2 := Lib.hid ((Box.last3 w (.cells #[.slice A m c] 26) (.cells #[.slice A' n c'] 26) #[.slice none 0 0] 26).alloc (.cells #[.slice none 0 0] 26))
  have HB3 := Lib.hid (Box.last3 (w.alloc (.cells #[.slice A m c] 26)) (.cells #[.slice A' n c'] 26) (.cells #[.slice none 0 0] 26) #[.slice none 0 0] 26)
  clear hr hr' hx0 hy0 hl hmax hmax' hc hc'
  go_enter Tryz.func14, Tryz.ntmps14
  go_wp2
  go_step3
  go_wp2_with fail
  refine (HCM.out _ (HN3.out _ _ _ _)).mono ?_
  rintro e w1 ⟨rfl, hn1⟩
  have hb0 := HB0.out.new hn1
  have hb1 := HB1.out.new hn1
  have hb2 := HB2.out.new hn1
  have hb3 := HB3.out.new hn1
  have hnw := (HN3.out _ _ _ _).trans hn1
  simp only [World.size_alloc] at hb0 hb1 hb2 hb3
  have HNW := Lib.hid hnw
  clear HB0 HB1 HB2 HB3 HN3 HCM hn1 hnw
  have hdec : decide (cmpN x y < 0) = true := by unfold cmpN; rw [if_pos hlt]; rfl
  generalize cmpN x y = sc at *
  obtain ⟨hc0, _⟩ := bx_cell0 hb0
  obtain ⟨hc2, hf2⟩ := bx_cell0 hb2
  obtain ⟨hc3, hf3⟩ := bx_cell0 hb3
  have hb3' := hb3.far (p := w.heap.size + 1 + 1) (i := 0) (by omega) (.slice none 0 0)
  obtain ⟨hc3', hf3'⟩ := bx_cell0 hb3'
  obtain ⟨g4, g5⟩ := dv_two_boxes (u := .slice none 0 0) (v := .slice A m c) hb2 hb3 (by omega)
  have HR7 := Lib.hid (((HX0.out _ HNW.out).set hb2 (by decide) (i := 0) (.slice none 0 0)).set hb3' (by decide) (i := 0) (.slice A m c))
  have HN7 := Lib.hid ((HNW.out.setCell (p := ⟨w.heap.size + 1 + 1, 0, none⟩) (by simp; omega) (.slice none 0 0)).setCell (p := ⟨w.heap.size + 1 + 1 + 1, 0, none⟩) (by simp; omega) (.slice A m c))
  obtain ⟨k4, _⟩ := bx_cell0 g4
  obtain ⟨k5, _⟩ := bx_cell0 g5
  clear hb0 hb1 hb2 hb3 hb3' g4 g5 HNW hlt
  go_wp2_with fail
  go_region
  all_goals
    go_wp2
    first | rw [Exit.noGoto_ret] | skip
    refine bodyPost_ret (v := .tuple #[.agg #[.slice none 0 0], .agg #[.slice A m c], .int .i64 0]) (by simp [results, Tryz.results14, go_sem, k4, k5]) rfl ⟨_, _, rfl, ?_, ?_, ?_⟩
    · rw [HDV.out.1]; exact NatV.zero _
    · rw [HDV.out.2]; exact HR7.out.new (New.refl _).drew
    · exact HN7.out.drew
set_option maxRecDepth 1000000 in
set_option maxHeartbeats 4000000 in
theorem divmod_one {x y : Nat} {u v : Value} {w : World} (hx : NatV w u x) (hy : NatV w v y) (hl : (dg B32 x).length ≤ 1000000) (hle : y ≤ x) (hn : (dg B32 y).length = 1) :
    Calls Tryz.prog 14 #[u, v] w fun e w' => ∃ q r, e = .returned (.tuple #[q, r, .int .i64 0]) ∧ NatV w' q (x / y) ∧ NatV w' r (x % y) ∧ New w w' := by
  have hx0 := hx
  have hy0 := hy
  obtain ⟨_, rfl, A, c, rfl, hc, hmax, hr⟩ := hx
  obtain ⟨_, rfl, A', c', rfl, hc', hmax', hr'⟩ := hy
  have hyv : (dg B32 y).getD 0 0 = y := by
    have h1 := dg_val B32_2 y
    match h : dg B32 y, hn with
    | [d], _ => rw [h] at h1; simpa [val] using h1
  obtain ⟨b', o', C', fr', rfl, hbl', hcell'⟩ := hr' 0 (by omega)
  have hyB : y < B32 := by rw [← hyv]; exact dg_lt B32_2 y _ (getD_mem (by omega))
  have hy1 : 0 < y := by
    rcases Nat.eq_zero_or_pos y with rfl | h
    · rw [dg_zero] at hn; cases hn
    · exact h
  rw [hyv, Nat.add_zero] at hcell'
  have HLY : (dg B32 y).length ≤ 1000000 := by omega
  rw [hn] at hc' hy0 ⊢
  have HCM := Lib.hid (fun W (h : New w W) => cmp_c (hx0.new h) (hy0.new h) (by omega) (by omega))
  clear HLY
  have HPT := Lib.hid (fun W (h : New w W) => parted_c (hx0.new h) hy1 hyB (by omega))
  have HOF := Lib.hid (fun W => of_c (n := x % y) (by have := Nat.mod_lt x hy1; rw [B32_eq] at hyB; omega) W)
  have hr32 : x % y < 4294967296 := by have := Nat.mod_lt x hy1; rw [B32_eq] at hyB; omega
  have hw1 : IntKind.u64.wrap ((x % y : Nat) : Int) = ((x % y : Nat) : Int) := IntWalk.u64_in _ (by omega)
  generalize (dg B32 x).length = m at *
  generalize hz : x % y = z at *
  have HZ := Lib.hid hz
  clear hz
  have hsc : decide (cmpN x y < 0) = false := by unfold cmpN; rw [if_neg (by omega)]; split <;> rfl
  have HN3 := Lib.hid (fun o1 o2 o3 o4 => (((New.refl w).alloc o1).alloc o2 |>.alloc o3).alloc o4)
  have HB0 := Lib.hid ((((Box.last w #[.slice A m c] 26).alloc (.cells #[.slice (some ⟨b', o', none⟩) 1 c'] 26)).alloc (.cells #[.slice none 0 0] 26)).alloc (.cells #[.slice none 0 0] 26))
  have HB1 := Lib.hid (((Box.last2 w (.cells #[.slice A m c] 26) #[.slice (some ⟨b', o', none⟩) 1 c'] 26).alloc (.cells #[.slice none 0 0] 26)).alloc (.cells #[.slice none 0 0] 26))
  have HB2 := Lib.hid ((Box.last3 w (.cells #[.slice A m c] 26) (.cells #[.slice (some ⟨b', o', none⟩) 1 c'] 26) #[.slice none 0 0] 26).alloc (.cells #[.slice none 0 0] 26))
  have HB3 := Lib.hid (Box.last3 (w.alloc (.cells #[.slice A m c] 26)) (.cells #[.slice (some ⟨b', o', none⟩) 1 c'] 26) (.cells #[.slice none 0 0] 26) #[.slice none 0 0] 26)
  have HCELL := Lib.hid hcell'
  clear hr hr' hbl' hcell' hx0 hy0 hl hmax hmax' hc hc' hyv
  go_enter Tryz.func14, Tryz.ntmps14
  go_wp2
  go_step3
  go_wp2_with fail
  refine (HCM.out _ (HN3.out _ _ _ _)).mono ?_
  rintro e w1 ⟨rfl, hn1⟩
  have hb0 := HB0.out.new hn1
  have hb1 := HB1.out.new hn1
  have hb2 := HB2.out.new hn1
  have hb3 := HB3.out.new hn1
  have hnw := (HN3.out _ _ _ _).trans hn1
  simp only [World.size_alloc] at hb0 hb1 hb2 hb3
  have HNW := Lib.hid hnw
  clear HB0 HB1 HB2 HB3 HN3 HCM hn1 hnw
  generalize cmpN x y = sc at *
  obtain ⟨hc0, _⟩ := bx_cell0 hb0
  obtain ⟨hc1, _⟩ := bx_cell0 hb1
  have hct := HNW.out.still HCELL.out
  have HB2 := Lib.hid hb2
  have HB3 := Lib.hid hb3
  have HWL := Lib.hid HB3.out.lt
  clear hb0 hb1 hb2 hb3
  go_wp2_with fail
  have hdr : New w1 w1.drew := (New.refl _).drew
  go_region_held3 (fun V => New w1 V ∧ V.cell? ⟨w.heap.size, 0, none⟩ = some (.slice A m c) ∧ V.cell? ⟨w.heap.size + 1, 0, none⟩ = some (.slice (some ⟨b', o', none⟩) 1 c') ∧ V.cell? ⟨b', o', none⟩ = some (.int .u32 (y : Int)))
    (first
      | exact ⟨(New.refl _).drew, by simpa using hc0, by simpa using hc1, by simpa using hct⟩
      | (go_split_ands; exact ⟨New.alloc (by assumption) _, New.still (New.alloc (New.refl _) _) (by assumption), New.still (New.alloc (New.refl _) _) (by assumption), New.still (New.alloc (New.refl _) _) (by assumption)⟩)
      | (go_split_ands; exact ⟨New.trans (by assumption) (by assumption), New.still (by assumption) (by assumption), New.still (by assumption) (by assumption), New.still (by assumption) (by assumption)⟩)
      | (go_split_ands; exact ⟨by assumption, by assumption, by assumption, by assumption⟩)
      | (go_split_ands; exact ⟨New.alloc (New.trans hdr (by first | assumption | exact New.trans (by assumption) (by assumption) | exact New.trans (by assumption) (New.trans (by assumption) (by assumption)))) _, New.still (New.alloc (New.trans hdr (by first | assumption | exact New.trans (by assumption) (by assumption) | exact New.trans (by assumption) (New.trans (by assumption) (by assumption)))) _) hc0, New.still (New.alloc (New.trans hdr (by first | assumption | exact New.trans (by assumption) (by assumption) | exact New.trans (by assumption) (New.trans (by assumption) (by assumption)))) _) hc1, New.still (New.alloc (New.trans hdr (by first | assumption | exact New.trans (by assumption) (by assumption) | exact New.trans (by assumption) (New.trans (by assumption) (by assumption)))) _) hct⟩)
      | (go_split_ands; exact ⟨(New.setCell (by assumption) (show w1.heap.size ≤ _ by first | exact Nat.le_refl _ | exact New.le (by assumption) | exact New.le (New.trans hdr (by first | assumption | exact New.trans (by assumption) (by assumption) | exact New.trans (by assumption) (New.trans (by assumption) (by assumption))))) _), New.still (New.setCell (by assumption) (show w1.heap.size ≤ _ by first | exact Nat.le_refl _ | exact New.le (by assumption) | exact New.le (New.trans hdr (by first | assumption | exact New.trans (by assumption) (by assumption) | exact New.trans (by assumption) (New.trans (by assumption) (by assumption))))) _) hc0, New.still (New.setCell (by assumption) (show w1.heap.size ≤ _ by first | exact Nat.le_refl _ | exact New.le (by assumption) | exact New.le (New.trans hdr (by first | assumption | exact New.trans (by assumption) (by assumption) | exact New.trans (by assumption) (New.trans (by assumption) (by assumption))))) _) hc1, New.still (New.setCell (by assumption) (show w1.heap.size ≤ _ by first | exact Nat.le_refl _ | exact New.le (by assumption) | exact New.le (New.trans hdr (by first | assumption | exact New.trans (by assumption) (by assumption) | exact New.trans (by assumption) (New.trans (by assumption) (by assumption))))) _) hct⟩))
    ((rw [if_pos (by rfl)]; go_big_op; go_split_ands; first
      | (with_reducible (refine (HPT.out _ (HNW.out.trans (by first | assumption | exact New.alloc (by assumption) _ | exact New.trans (by assumption) (New.trans ((New.refl _).alloc _) (by assumption))))).mono ?_); rintro e w' ⟨v', rfl, hv', hn⟩; obtain ⟨A7, l7, c7, rfl⟩ := hv'.form; (first | (have hbx := box_ahead hn; obtain ⟨hcx, hfx⟩ := bx_cell0 hbx) | (have hbx := Box.new hn (Box.last _ #[.slice none 0 0] 26); obtain ⟨hcx, hfx⟩ := bx_cell0 hbx) | (have hbx := Box.new hn hbx; obtain ⟨hcx, hfx⟩ := bx_cell0 hbx) | skip); dsimp only)))
  all_goals
    go_split_ands
    rename_i hN hd0 hd1 hdt
    clear hd0 hd1 hdt hc0 hc1 hct
    first
    | (have nb7 := hv'.set hbx (by decide) (i := 0) (.slice A7 l7 c7); have hb7 := box_set1 (u := .slice A7 l7 c7) hbx; have hp7 : w1.heap.size ≤ w1.heap.size := Nat.le_refl _)
    | (have nb7 := hv'.new ((New.refl w').alloc (.cells #[.slice A7 l7 c7] 26)); have hb7 := Box.last w' #[.slice A7 l7 c7] 26; have hp7 : w1.heap.size ≤ w'.heap.size := (hdr.trans hn).le)
    have hq := Nat.lt_of_lt_of_le HWL.out hp7
    clear hp7 hn hv'
    revert hq
    refine name_it hb7 ?_
    rintro W9 p7 hW9 hp7 hb9 hq
    rw [← hW9] at hN nb7 ⊢
    rw [← hp7] at hq ⊢
    clear hb7 hW9 hp7
    obtain ⟨hd7, _⟩ := bx_cell0 hb9
    have HN9 := Lib.hid (HNW.out.trans hN)
    have HB29 := Lib.hid (HB2.out.new hN)
    have HB39 := Lib.hid (HB3.out.new hN)
    have HQ9 := Lib.hid nb7
    have HB9 := Lib.hid hb9
    have HNE : Hid (w.heap.size + 1 + 1 ≠ p7 ∧ w.heap.size + 1 + 1 + 1 ≠ p7) := Lib.hid (by omega)
    clear hN nb7 hb9 hq hdr
    have hdr9 : New w W9.drew := HN9.out.drew
    go_wp2_with fail
    go_region_held3 (fun V => New w V ∧ V.cell? ⟨p7, 0, none⟩ = some (.slice A7 l7 c7))
      (first
        | exact ⟨hdr9, by simpa using hd7⟩
        | (go_split_ands; exact ⟨New.trans (by assumption) (by assumption), New.still (by assumption) (by assumption)⟩)
        | (go_split_ands; exact ⟨by assumption, by assumption⟩))
      ((rw [if_pos (by rfl)]; go_big_op; go_split_ands; first
        | (with_reducible (refine (HOF.out _).mono ?_); rintro e w8 ⟨v8, rfl, hv8, hn8⟩; obtain ⟨A8, l8, c8, rfl⟩ := hv8.form; have hn98 : New W9 w8 := ((New.refl W9).drew).trans hn8; have hb2 := HB29.out.new hn98; have hb3 := HB39.out.new hn98; have hb9 := HB9.out.new hn98; have hN8 := HN9.out.trans hn98; obtain ⟨h9e, _⟩ := bx_cell0 hb9; obtain ⟨hc4, hf4⟩ := bx_cell0 hb2; have hb3' := hb3.far (p := w.heap.size + 1 + 1) (i := 0) (by omega) (.slice A7 l7 c7); obtain ⟨hc5, hf5⟩ := bx_cell0 hb3'; obtain ⟨g4, g5⟩ := dv_two_boxes (u := .slice A7 l7 c7) (v := .slice A8 l8 c8) hb2 hb3 (by omega); have HQ7 := Lib.hid (((HQ9.out.new hn98).set hb2 (by decide) (i := 0) (.slice A7 l7 c7)).set hb3' (by decide) (i := 0) (.slice A8 l8 c8)); have HR7 := Lib.hid ((hv8.set hb2 (by decide) (i := 0) (.slice A7 l7 c7)).set hb3' (by decide) (i := 0) (.slice A8 l8 c8)); have hN7a := (HN9.out.trans hn98).setCell (p := ⟨w.heap.size + 1 + 1, 0, none⟩) (by simp; omega) (.slice A7 l7 c7); have hN7 := hN7a.setCell (p := ⟨w.heap.size + 1 + 1 + 1, 0, none⟩) (by simp; omega) (.slice A8 l8 c8); have h9a := hb9.far HNE.out.1.symm (i := 0) (.slice A7 l7 c7); have h9b := h9a.far HNE.out.2.symm (i := 0) (.slice A8 l8 c8); obtain ⟨h9c, _⟩ := bx_cell0 h9a; obtain ⟨h9d, _⟩ := bx_cell0 h9b; obtain ⟨k4, _⟩ := bx_cell0 g4; obtain ⟨k5, _⟩ := bx_cell0 g5; clear hb2 hb3 hb9 hb3' g4 g5 hv8 h9a h9b; dsimp only)))
    go_wp2
    first | rw [Exit.noGoto_ret] | skip
    refine bodyPost_ret (v := .tuple #[.agg #[.slice A7 l7 c7], .agg #[.slice A8 l8 c8], .int .i64 0]) (by simp [results, Tryz.results14, go_sem, k4, k5]) rfl ⟨_, _, rfl, HQ7.out, HR7.out, hN7⟩
end Go.Proofs.YtkjlmibleoecgaaGreatDoor
