/- The reference's disk: New, walked. -/
import Derived.Test.YtjeaejeikgkcaaaN2
namespace Go.Proofs.Ytjeaejeikgkcaaa
set_option linter.unusedSimpArgs false
set_option linter.unusedVariables false
open Go.RowKit
def rsN (i j : Nat) : RS := ⟨List.replicate i ⟨#[]⟩, List.replicate j ⟨#[]⟩, [], 0, false, 0, false, 0, 0, false, false⟩
theorem info9 : (Try.prog.info? 9).map (fun i => (i.zero, i.size, i.bytes)) = some (some (.string ⟨#[]⟩), 1, 16) := by kernel_rfl
def RNew (w w' : World) (p i j : Nat) : Prop := ∃ F a b, Rdk w' p F (rsN i j) a b (.slice none 0 0) ∧ New w w' ∧ ∀ k, F k → w.heap.size ≤ k
theorem RNew.start (w : World) : RNew w (w.alloc (.cells (rcells (rsN 0 0) (.slice none 0 0) (.slice none 0 0) (.slice none 0 0)).toArray 52)) w.heap.size 0 0 :=
  ⟨fun k => k = w.heap.size, .slice none 0 0, .slice none 0 0, ⟨Box.last w _ _, OwnE.nil _ _ _ _, OwnE.nil _ _ _ _, OwnE.nil _ _ _ _, rfl, fun k hk => absurd hk (nil_foot k), fun k hk => absurd hk (nil_foot k), fun k hk => absurd hk (nil_foot k), fun k hk => absurd hk (nil_foot k), fun k hk => by simp [hk]⟩, (New.refl w).alloc _, fun k hk => by rw [hk]; exact Nat.le_refl _⟩
set_option maxHeartbeats 2000000 in
set_option maxRecDepth 100000 in
theorem rnew_c (w : World) : Calls Try.prog 19 #[] w fun e w' => e = .returned (.pointer (some ⟨w.heap.size, 0, none⟩)) ∧ RNew w w' w.heap.size 256 256 := by
  have HS := Lib.hid (RNew.start w)
  go_enter Try.func19, Try.ntmps19
  go_wp2
  obtain ⟨p, hp⟩ : ∃ p, p = w.heap.size := ⟨_, rfl⟩
  go_loopw [2] (fun v2 w' => ∃ (k : Nat), v2 = .int .i64 (k : Int) ∧ k ≤ 256 ∧ Hid (RNew w w' w.heap.size k k)) (fun v2 _ => 256 - (intOf v2).toNat)
  case atStart => exact ⟨0, rfl, Nat.zero_le _, HS.out⟩
  case round =>
    obtain ⟨k, rfl, hk, HR⟩ := hrel
    by_cases hkl : k < 256
    · obtain ⟨F, a, b, hr, hn, hF⟩ := HR.out
      have hc0 : wr.cell? ⟨w.heap.size, 0, none⟩ = some a := hr.cell 0
      have ca : ∀ o, (wr.alloc o).cell? ⟨w.heap.size, 0, none⟩ = some a := fun o => ((New.refl wr).alloc o).still hc0
      have HB5 := Lib.hid ((Box.last wr #[.string ⟨#[]⟩] 9).cell 0)
      have HRR := Lib.hid hr
      have HNF := Lib.hid (⟨hn, hF⟩ : New w wr ∧ ∀ k, F k → w.heap.size ≤ k)
      clear hr hn hF HR HS hp
      go_wp2_with (at_builtin; refine app_foot Value.string _ rfl _ _ 34 9 rfl (.string ⟨#[]⟩) 16 rfl info9 rfl (by omega) _ (List.replicate k ⟨#[]⟩) rfl (HRR.out.was.new ((New.refl wr).alloc _)) _ 0 _ ⟨#[]⟩ rfl HB5.out (fun _ => rfl) (by simp; omega) ?_)
      intro v6 w6 ho6 hb6 hs6
      have hrep : List.replicate k (⟨#[]⟩ : ByteArray) ++ [⟨#[]⟩] = List.replicate (k + 1) ⟨#[]⟩ := by rw [List.replicate_succ']
      obtain ⟨A6, c6, rfl⟩ := (hrep ▸ ho6 : OwnE Value.string 9 0 w6 v6 (List.replicate (k + 1) ⟨#[]⟩)).form
      rw [List.length_replicate] at *
      have HG : Hid (Rdk (w6.setCell ⟨w.heap.size, 0, none⟩ (.slice A6 (k + 1) c6)) w.heap.size (fun j => F j ∨ Foot (.slice A6 (k + 1) c6) j) (rsN (k + 1) k) (.slice A6 (k + 1) c6) b (.slice none 0 0)) := by
        have := HRR.out.growWas ⟨#[]⟩ ((New.refl wr).alloc _) ho6 hb6 (by simpa using hs6)
        unfold rsN at this
        simp only [hrep] at this
        exact Lib.hid this
      have hx6 := hb6.box (HRR.out.box.new ((New.refl wr).alloc (.cells #[.string ⟨#[]⟩] 9))) (foot_no HRR.out.was HRR.out.box (by decide))
      have hc6 : w6.cell? ⟨w.heap.size, 0, none⟩ = some a := hx6.cell 0
      have hc61 : w6.cell? ⟨w.heap.size, 1, none⟩ = some b := hx6.cell 1
      have hf61 := hx6.frozen 1
      have hf6 := hx6.frozen 0
      have HN6 : Hid (New w (w6.setCell ⟨w.heap.size, 0, none⟩ (.slice A6 (k + 1) c6)) ∧ ∀ j, (fun j => F j ∨ Foot (.slice A6 (k + 1) c6) j) j → w.heap.size ≤ j) := by
        obtain ⟨n1, n2⟩ := HNF.out
        refine Lib.hid ⟨(hb6.new (n1.alloc _) fun j hj => n2 j (HRR.out.fa j hj)).setCell (Nat.le_refl _) _, fun j hj => ?_⟩
        rcases hj with hj | hj
        · exact n2 j hj
        · rcases hs6 j hj with h | h
          · exact n2 j (HRR.out.fa j h)
          · have := n1.le; omega
      clear ho6 hb6 hs6 hx6 hc0 ca HB5 HRR HNF
      generalize (fun j => F j ∨ Foot (.slice A6 (k + 1) c6) j) = F6 at HG HN6
      have HB7 : Hid (((w6.setCell ⟨w.heap.size, 0, none⟩ (.slice A6 (k + 1) c6)).alloc (.cells #[.string ⟨#[]⟩] 9)).cell? ⟨w6.heap.size, 0, none⟩ = some (.string ⟨#[]⟩)) := by
        have e : (w6.setCell ⟨w.heap.size, 0, none⟩ (.slice A6 (k + 1) c6)).heap.size = w6.heap.size := by simp [World.setCell]
        rw [← e]
        exact Lib.hid ((Box.last (w6.setCell ⟨w.heap.size, 0, none⟩ (.slice A6 (k + 1) c6)) #[.string ⟨#[]⟩] 9).cell 0)
      go_wp2_with (at_builtin; refine app_foot Value.string _ rfl _ _ 34 9 rfl (.string ⟨#[]⟩) 16 rfl info9 rfl (by omega) _ (List.replicate k ⟨#[]⟩) rfl (HG.out.is.new ((New.refl _).alloc _)) _ 0 _ ⟨#[]⟩ rfl HB7.out (fun _ => rfl) (by simp; omega) ?_)
      intro v8 w8 ho8 hb8 hs8
      obtain ⟨A8, c8, rfl⟩ := ho8.form
      rw [List.length_replicate] at *
      have e8 : ∀ o, ((w6.setCell ⟨w.heap.size, 0, none⟩ (.slice A6 (k + 1) c6)).alloc o).heap.size = w6.heap.size + 1 := by intro o; simp [World.setCell]
      have HG8 : Hid (Rdk (w8.setCell ⟨w.heap.size, 1, none⟩ (.slice A8 (k + 1) c8)) w.heap.size (fun j => F6 j ∨ Foot (.slice A8 (k + 1) c8) j) (rsN (k + 1) (k + 1)) (.slice A6 (k + 1) c6) (.slice A8 (k + 1) c8) (.slice none 0 0)) := by
        have := HG.out.growIs ⟨#[]⟩ ((New.refl _).alloc (.cells #[.string ⟨#[]⟩] 9)) (v := .slice A8 (k + 1) c8) (w2 := w8) (by unfold rsN; simp only [hrep]; exact ho8) hb8 (by rw [e8]; exact hs8)
        unfold rsN at this
        simp only [hrep] at this
        exact Lib.hid this
      have hx8 := hb8.box (HG.out.box.new ((New.refl _).alloc (.cells #[.string ⟨#[]⟩] 9))) (foot_no HG.out.is HG.out.box (by decide))
      have hc8 : w8.cell? ⟨w.heap.size, 1, none⟩ = some b := hx8.cell 1
      have hf8 := hx8.frozen 1
      have HN8 : Hid (New w (w8.setCell ⟨w.heap.size, 1, none⟩ (.slice A8 (k + 1) c8)) ∧ ∀ j, (fun j => F6 j ∨ Foot (.slice A8 (k + 1) c8) j) j → w.heap.size ≤ j) := by
        obtain ⟨n1, n2⟩ := HN6.out
        refine Lib.hid ⟨(hb8.new (n1.alloc _) fun j hj => n2 j (HG.out.fb j hj)).setCell (Nat.le_refl _) _, fun j hj => ?_⟩
        rcases hj with hj | hj
        · exact n2 j hj
        · rcases hs8 j hj with h | h
          · exact n2 j (HG.out.fb j h)
          · have h1 := n1.le
            have h2 : (w6.setCell ⟨w.heap.size, 0, none⟩ (.slice A6 (k + 1) c6)).heap.size = w6.heap.size := by simp [World.setCell]
            omega
      clear ho8 hb8 hs8 hx8 HB7 HG HN6 hc6 hc61 hf61 hf6
      generalize (fun j => F6 j ∨ Foot (.slice A8 (k + 1) c8) j) = F8 at HG8 HN8
      go_wp2
      go_roundw
      case rel => exact ⟨k + 1, by go_num, by omega, Lib.hid ⟨F8, _, _, HG8.out, HN8.out.1, HN8.out.2⟩⟩
      case measure => simp [intOf]; omega
    · obtain rfl : k = 256 := by omega
      go_wp2
      go_ret
      exact ⟨rfl, HR.out⟩
end Go.Proofs.Ytjeaejeikgkcaaa
