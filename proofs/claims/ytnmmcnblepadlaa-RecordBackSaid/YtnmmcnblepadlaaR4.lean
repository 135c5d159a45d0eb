/- The law RecordEncodes, walked. -/
import Derived.Test.YtnmmcnblepadlaaR3
namespace Go.Proofs.Ytnmmcnblepadlaa
set_option linter.unusedSimpArgs false
set_option linter.unusedVariables false
open Go.RowKit

theorem info3 : (Try.prog.info? 3).map (fun i => (i.zero, i.size, i.bytes)) = some (some (.int .i64 0), 1, 8) := by kernel_rfl
theorem nE_one (n : Int) : (nE n).oneCell' = true := rfl
theorem RecAt.of_box {w : World} {b : Nat} {r : Rec} {u : Value} (h : Box w b #[.int .i64 r.kind, .string r.who, u, .string r.text] 24) (hs : SlE nE w u r.nums) (hk : ∀ n ∈ r.nums, i64ok n) : RecAt w b 0 r :=
  ⟨u, h.lt, h.cell 0, h.cell 1, h.cell 2, h.cell 3, hs, hk⟩
theorem SlR.one {w : World} {b : Nat} {r : Rec} {u : Value} (h : Box w b #[.int .i64 r.kind, .string r.who, u, .string r.text] 24) (hs : SlE nE w u r.nums) (hk : ∀ n ∈ r.nums, i64ok n) : SlR w (.slice (some ⟨b, 0, none⟩) 1 1) [r] :=
  ⟨some ⟨b, 0, none⟩, 1, rfl, Nat.le_refl _, by decide, fun i hi => by
    obtain rfl : i = 0 := by simpa using hi
    exact ⟨b, 0, rfl, RecAt.of_box h hs hk⟩⟩

set_option maxHeartbeats 4000000 in
theorem recordEncodes_walk (r : Rec) (v : Value) (w : World) (h : RecV w v r) :
    Calls Try.prog 3 #[v] w fun e w' => e = .returned (.bool true) ∧ New w w' := by
  obtain ⟨u, rfl, hs, ho⟩ := h
  obtain ⟨A, c, rfl⟩ := hs.form
  obtain ⟨kind, who, nums, text⟩ := r
  simp only at *
  have hHE := heavy_c [⟨kind, who, nums, text⟩]
  have HE := Lib.hid hHE
  obtain ⟨W1, hW1⟩ : ∃ W1, W1 = (w.alloc (.cells #[.int .i64 kind, .string who, .slice A nums.length c, .string text] 24)).alloc (.cells #[.int .i64 kind, .string who, .slice A nums.length c, .string text] 24) := ⟨_, rfl⟩
  have hn1 : New w W1 := by rw [hW1]; exact ((New.refl w).alloc _).alloc _
  have hb0 : Box W1 w.heap.size #[.int .i64 kind, .string who, .slice A nums.length c, .string text] 24 := by rw [hW1]; exact (Box.last _ _ _).alloc _
  have hb1 : Box W1 (w.heap.size + 1) #[.int .i64 kind, .string who, .slice A nums.length c, .string text] 24 := by rw [hW1]; exact Box.last2 _ _ _ _
  have hsl : SlR W1 (.slice (some ⟨w.heap.size + 1, 0, none⟩) 1 1) [⟨kind, who, nums, text⟩] := SlR.one (r := ⟨kind, who, nums, text⟩) hb1 (hs.new hn1) ho
  have HSL := Lib.hid hsl
  have HB0 := Lib.hid hb0
  have HN1 := Lib.hid hn1
  have HW1 := Lib.hid hW1
  have HS := Lib.hid (hs.new hn1)
  have HO := Lib.hid ho
  clear hHE hn1 hb0 hb1 hsl hW1 hs ho
  go_enter Try.func3, Try.ntmps3
  go_wp2_with fail
  refine (HE.out _ _ (by rw [← HW1.out]; exact HSL.out)).mono ?_
  rintro e w2 ⟨b, rfl, hb, hn2⟩
  have hn2' : New W1 w2 := by rw [HW1.out]; exact hn2
  cases b with
  | true =>
    go_wp2
    go_ret
    exact ⟨rfl, HN1.out.trans hn2'⟩
  | false =>
    have hnl : nums.length ≤ 131072 := by
      have := (hb rfl).2 _ (List.mem_cons_self ..)
      exact this.2.2
    have hbx := HB0.out.new hn2'
    have hcx0 := hbx.cell 0
    have hcx1 := hbx.cell 1
    have hcx2 := hbx.cell 2
    have hcx3 := hbx.cell 3
    have HBX := Lib.hid hbx
    have HN2 := Lib.hid hn2'
    clear hb hn2 hn2' hbx HB0
    simp at hcx0 hcx1 hcx2 hcx3
    have hlt : w.heap.size < w2.heap.size := HBX.out.lt
    have hsz : ¬ w.heap.size = w2.heap.size := by omega
    have hcy := fun o => ((New.refl w2).alloc o).still hcx2
    have hnl2 : nums.length ≤ 1099511627776 := by omega
    obtain ⟨W3, hW3⟩ : ∃ W3, W3 = w2.alloc (.cells #[.int .i64 kind, .string who, .slice none 0 0, .string text] 24) := ⟨_, rfl⟩
    have hn3 : New w2 W3 := by rw [hW3]; exact (New.refl w2).alloc _
    have hbx3 : Box W3 w2.heap.size #[.int .i64 kind, .string who, .slice none 0 0, .string text] 24 := by rw [hW3]; exact Box.last _ _ _
    have HS3 := Lib.hid (HS.out.new (HN2.out.trans hn3))
    have HN3 := Lib.hid hn3
    have HBX3 := Lib.hid hbx3
    have HW3 := Lib.hid hW3
    clear hn3 hbx3 hW3
    go_wp2_with (at_builtin; refine app_sl nE W3 _ rfl _ _ 22 3 rfl (.int .i64 0) 8 rfl info3 rfl (by omega) _ [] rfl (by rw [← HW3.out]; exact New.refl _) (by rw [← HW3.out]; exact OwnE.nil _ _ _ _) _ nums rfl (by rw [← HW3.out]; exact HS3.out) nE_one (by simp; omega) ?_)
    intro A4 c4 w4 ho4 hn4 _
    have hb4 := HBX3.out.new hn4
    have hx40 := hb4.cell 0
    have hx41 := hb4.cell 1
    have hx42 := hb4.cell 2
    have hx43 := hb4.cell 3
    have hf4 := hb4.frozen 2
    have hb4' := hb4.set 2 (.slice A4 nums.length c4)
    have HS5 := Lib.hid ((ho4.set hb4 (by decide) (i := 2) (.slice A4 nums.length c4)).sl)
    have HN5 := Lib.hid (((HN3.out.trans hn4)).setCell (p := ⟨w2.heap.size, 2, none⟩) (Nat.le_refl _) (.slice A4 nums.length c4))
    have HB5 := Lib.hid hb4'
    have HS4 := Lib.hid (HS.out.new (HN2.out.trans HN5.out))
    have hbr := (HBX.out.new (HN3.out.trans hn4)).far (p := w2.heap.size) (i := 2) (by omega) (.slice A4 nums.length c4)
    have HBR := Lib.hid hbr
    clear ho4 hn4 hb4 hb4' hcy hbr
    simp at hx40 hx41 hx42 hx43
    go_wp2_with fail
    obtain ⟨W5, hW5⟩ : ∃ W5, W5 = w4.setCell ⟨w2.heap.size, 2, none⟩ (.slice A4 nums.length c4) := ⟨_, rfl⟩
    rw [← hW5]
    rw [← hW5] at HS5 HN5 HB5 HBR HS4
    clear hW5 hx40 hx41 hx42 hx43 hf4
    refine (enc_c ⟨kind, who, nums, text⟩ _ _ ⟨_, rfl, HS5.out, HO.out⟩).mono ?_
    rintro e w6 ⟨rfl, hn6⟩
    have hbr6 := HBR.out.new hn6
    have hr60 := hbr6.cell 0
    have hr61 := hbr6.cell 1
    have hr62 := hbr6.cell 2
    have hr63 := hbr6.cell 3
    have hsr6 := HS4.out.new hn6
    have hsx6 := HS5.out.new hn6
    have hbx6 := HB5.out.new hn6
    have HBR6 := Lib.hid hbr6
    have HSR6 := Lib.hid hsr6
    have HSX6 := Lib.hid hsx6
    have HBX6 := Lib.hid hbx6
    have HN6 := Lib.hid (HN5.out.trans hn6)
    clear hbr6 hsr6 hsx6 hbx6 hn6 HS3 HBR HS4 HS5 HN5 HB5
    simp at hr60 hr61 hr62 hr63
    obtain ⟨S, hS⟩ : ∃ S, S = encS ⟨kind, who, nums, text⟩ := ⟨_, rfl⟩
    obtain ⟨E, hE⟩ : ∃ E, E = err ⟨kind, who, nums, text⟩ := ⟨_, rfl⟩
    have hR := fun v w => renc_c ⟨kind, who, nums, text⟩ v w
    rw [← hS, ← hE] at hR ⊢
    have HR := Lib.hid hR
    clear hS hE hR
    go_wp2_with fail
    refine (HR.out _ _ ⟨_, rfl, HSR6.out, HO.out⟩).mono ?_
    rintro e w7 ⟨rfl, hn7⟩
    have hbx7 := HBX6.out.new hn7
    have hx70 := hbx7.cell 0
    have hx71 := hbx7.cell 1
    have hx72 := hbx7.cell 2
    have hx73 := hbx7.cell 3
    simp at hx70 hx71 hx72 hx73
    have HSX7 := Lib.hid (HSX6.out.new hn7)
    have HN7 := Lib.hid (HN6.out.trans hn7)
    clear hn7 hbx7 HN6 HBX6 HSX6 HBR6 HSR6
    go_wp2_with fail
    obtain ⟨W8, hW8⟩ : ∃ W8, W8 = w7.alloc (.cells #[.int .i64 kind, .string who, .slice A4 nums.length c4, .string text] 24) := ⟨_, rfl⟩
    have hn8 : New w7 W8 := by rw [hW8]; exact (New.refl w7).alloc _
    have hb8 : Box W8 w7.heap.size #[.int .i64 kind, .string who, .slice A4 nums.length c4, .string text] 24 := by rw [hW8]; exact Box.last _ _ _
    have hs8 := SlR.one (r := ⟨kind, who, nums, text⟩) hb8 (HSX7.out.new hn8) HO.out
    rw [← hW8]
    refine (same_c [⟨kind, who, nums, text⟩] _ _ _ (HSL.out.new (HN2.out.trans (HN7.out.trans hn8))) hs8).mono ?_
    rintro e w9 ⟨rfl, hn9⟩
    have HN9 := Lib.hid (HN1.out.trans (HN2.out.trans (HN7.out.trans (hn8.trans hn9))))
    clear hn8 hb8 hs8 hn9 hW8
    go_wp2
    go_ret
    exact ⟨rfl, HN9.out⟩
end Go.Proofs.Ytnmmcnblepadlaa
