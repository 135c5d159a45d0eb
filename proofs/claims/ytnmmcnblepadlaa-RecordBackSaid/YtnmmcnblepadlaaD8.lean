/- noonbellref06.Decode, walked. -/
import Derived.Test.YtnmmcnblepadlaaD7
namespace Go.Proofs.Ytnmmcnblepadlaa
set_option linter.unusedSimpArgs false
set_option linter.unusedVariables false
open Go.RowKit

set_option maxHeartbeats 4000000 in
theorem rdecode_c (s : ByteArray) (w : World) (hs : s.size ≤ 1000000) :
    Calls Try.prog 14 #[.string s] w fun e w' => ∃ v n rs, e = .returned (.tuple #[v, .int .i64 (n : Nat)]) ∧ SlR w' v rs ∧ Dec s.data.toList rs n ∧ New w w' := by
  go_enter Try.func14, Try.ntmps14
  go_wp2
  go_loopw [4, 5] (fun v4 v5 w' => ∃ (k : Nat) (rs : List Rec) (A : Option Addr) (c : Nat), v5 = .int .i64 (k : Int) ∧ v4 = .slice A rs.length c ∧ k ≤ s.size ∧ Hid (OwnR w.heap.size w' (.slice A rs.length c) rs) ∧ Hid (DecTo s.data.toList rs k) ∧ Hid (New w w')) (fun _ v5 _ => s.size - (intOf v5).toNat)
  case atStart => exact ⟨0, [], some ⟨w.heap.size, 0, none⟩, 0, rfl, rfl, by omega, ⟨[], rfl, World.ownsRow_lit (w := w) (base := w.heap.size) (e := 24) (size := 4) #[] 0 (Nat.le_refl _) (Nat.zero_le _) rfl, fun p hp => absurd hp List.not_mem_nil⟩, DecTo.start _, (New.refl w).alloc _⟩
  case round =>
    obtain ⟨k, rs, A, c, rfl, rfl, hk, HO, HD, HN⟩ := hrel
    by_cases hks : k < s.size
    rotate_left
    · have hno : ∀ r, ¬ IsRec (s.data.toList.drop k) r := by
        rintro r ⟨_, tl, e⟩
        have hl := congrArg List.length e
        rw [List.length_drop, size_data, List.length_append] at hl
        have := body_len r
        omega
      have HDEC := Lib.hid (HD.out.stop hno)
      clear hno
      go_wp2
      go_ret2
      exact ⟨_, k, rs, rfl, HO.out.slr, HDEC.out, HN.out⟩
    have HF := Lib.hid (fun W => one_c (s.extract k s.size) W (by rw [← size_data, Lib.extract_data, List.length_take]; omega))
    go_wp2_with fail
    refine (HF.out _).mono ?_
    rintro e w1 ⟨v, n, rfl, hF, hn1⟩
    obtain ⟨kk, xx, AA, ll, cc, yy, rfl⟩ := hF.form
    have hdr : (s.extract k s.size).data.toList = s.data.toList.drop k := drop_data s k
    rw [hdr] at hF
    clear hdr HF
    have hb1 := Box.last w1 #[.int .i64 kk, .string xx, .slice AA ll cc, .string yy] 24
    have HN1 := Lib.hid (HN.out.trans hn1)
    rcases hF with ⟨r, hr, rfl, hT⟩ | ⟨rfl, hno, _⟩
    · obtain ⟨u, e, hsl, hok⟩ := hT
      obtain ⟨kind, who, nums, text⟩ := r
      simp only [Value.agg.injEq, Array.mk.injEq, List.cons.injEq, and_true, Value.int.injEq, Value.string.injEq, true_and] at e
      obtain ⟨rfl, rfl, rfl, rfl⟩ := e
      have hst := HD.out.step hr
      have hbl := body_len ⟨kk, xx, nums, yy⟩
      have hle : k + (body ⟨kk, xx, nums, yy⟩).length ≤ s.size := by rw [← size_data]; exact hst.2.2
      have hrl := hst.len
      generalize (body ⟨kk, xx, nums, yy⟩).length = n at *
      have HST := Lib.hid hst
      have hne : ((n : Int) == 0) = false := by rw [beq_eq_false_iff_ne]; omega
      obtain ⟨W2, hW2⟩ : ∃ W2, W2 = (w1.alloc (.cells #[.int .i64 kk, .string xx, .slice AA ll cc, .string yy] 24)).alloc (.cells #[.int .i64 kk, .string xx, .slice AA ll cc, .string yy] 24) := ⟨_, rfl⟩
      have hn12 : New w1 W2 := by rw [hW2]; exact ((New.refl w1).alloc _).alloc _
      have hb2 : Box W2 (w1.heap.size + 1) #[.int .i64 kk, .string xx, .slice AA ll cc, .string yy] 24 := by rw [hW2]; exact Box.last2 _ _ _ _
      have HB2 := Lib.hid hb2
      have HN2 := Lib.hid (HN1.out.trans hn12)
      have HO2 := Lib.hid ((HO.out.new hn1).new hn12)
      have HS2 := Lib.hid (hsl.new hn12)
      have HK := Lib.hid hok
      have HW2 := Lib.hid hW2
      have hrl2 : rs.length ≤ 1000000 := by rw [List.length_append] at hrl; omega
      clear hst hr hb1 hb2 hn12 hsl hok hW2 hrl HO HD HN HN1 hn1
      go_wp2_with (at_builtin; refine app_rec w _ rfl _ _ rfl _ rs rfl (by rw [← HW2.out]; exact HN2.out) (by rw [← HW2.out]; exact HO2.out) _ _ ⟨kk, xx, nums, yy⟩ (.slice AA ll cc) rfl (by rw [← HW2.out]; exact HB2.out) (by rw [← HW2.out]; exact HS2.out) HK.out (by omega) ?_)
      intro A5 c5 w5 ho5 hn5 _
      have HO5 := Lib.hid ho5
      have HN5 := Lib.hid hn5
      clear ho5 hn5
      go_wp2
      go_roundw
      case rel => exact ⟨k + n, rs ++ [(⟨kk, xx, nums, yy⟩ : Rec)], A5, c5, by go_num, by simp, by omega, (by rw [List.length_append]; exact HO5.out : OwnR _ _ (.slice A5 (rs ++ [(⟨kk, xx, nums, yy⟩ : Rec)]).length c5) _), HST.out, HN5.out⟩
      case measure => simp [intOf]; omega
    · have HDEC := Lib.hid (HD.out.stop hno)
      have HO1 := Lib.hid (HO.out.new hn1)
      clear hno hn1
      go_wp2
      go_ret2
      exact ⟨_, k, rs, rfl, (HO1.out.new ((New.refl w1).alloc _)).slr, HDEC.out, HN1.out.alloc _⟩
end Go.Proofs.Ytnmmcnblepadlaa
