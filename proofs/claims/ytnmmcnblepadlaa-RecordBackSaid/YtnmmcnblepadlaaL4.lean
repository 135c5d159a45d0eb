/- The law RecordJoined, walked. -/
import Derived.Test.YtnmmcnblepadlaaD9
namespace Go.Proofs.Ytnmmcnblepadlaa
set_option linter.unusedSimpArgs false
set_option linter.unusedVariables false
open Go.RowKit

theorem dec_join {s t : List UInt8} {rs rt : List Rec} {n k : Nat} (h : Dec s rs n) (h' : Dec t rt k) : Dec (s.take n ++ t) (rs ++ rt) (n + k) := by
  have hl : (s.take n).length = n := by rw [List.length_take]; have := h.2.2.1; omega
  refine ⟨fun r hr => ?_, ?_, by rw [List.length_append, hl]; have := h'.2.2.1; omega, fun r hr => ?_⟩
  · rcases List.mem_append.1 hr with hr | hr
    · exact h.1 r hr
    · exact h'.1 r hr
  · rw [List.flatMap_append, ← h.2.1, ← h'.2.1, List.take_append, hl, List.take_of_length_le (by omega)]
    congr 2; omega
  · refine h'.2.2.2 r ?_
    rw [List.drop_append, hl, List.drop_of_length_le (by omega), List.nil_append, show n + k - n = k by omega] at hr
    exact hr
theorem OwnX.empty (w : World) : OwnX w (w.alloc (.cells #[] 24)) (.slice (some ⟨w.heap.size, 0, none⟩) 0 0) [] :=
  ⟨[], rfl, World.ownsRow_lit (w := w) (base := w.heap.size) (e := 24) (size := 4) #[] 0 (Nat.le_refl _) (Nat.zero_le _) rfl, fun p hp => absurd hp List.not_mem_nil⟩
set_option maxRecDepth 100000 in
set_option maxHeartbeats 4000000 in
theorem recordJoined_walk (s t : ByteArray) (w : World) :
    Calls Try.prog 8 #[.string s, .string t] w fun e w' => e = .returned (.bool true) ∧ New w w' := by
  by_cases hl : s.size ≤ 32768
  · by_cases hl2 : t.size ≤ 32768
    · have H1 := Lib.hid (fun W => decode_c s W (by omega))
      have H2 := Lib.hid (fun W => decode_c t W (by omega))
      have H4 := Lib.hid (fun W => rdecode_c s W (by omega))
      go_enter Try.func8, Try.ntmps8
      go_wp2_with fail
      refine (H1.out _).mono ?_
      rintro e w1 ⟨v1, n1, rs, rfl, hs1, hd1, hn1⟩
      obtain ⟨A1, c1, rfl⟩ := hs1.form
      have HS1 := Lib.hid hs1
      have HD1 := Lib.hid hd1
      have HN1 := Lib.hid hn1
      clear hs1 hd1 hn1
      go_wp2_with fail
      refine (H2.out _).mono ?_
      rintro e w2 ⟨v2, n2, rt, rfl, hs2, hd2, hn2⟩
      obtain ⟨A2, c2, rfl⟩ := hs2.form
      have HS1 := Lib.hid (HS1.out.new hn2)
      have HS2 := Lib.hid hs2
      have HD2 := Lib.hid hd2
      have HN2 := Lib.hid (HN1.out.trans hn2)
      clear hs2 hd2 hn2 HN1
      have q1 : n1 ≤ s.size := by rw [← size_data]; exact HD1.out.2.2.1
      have q2 : n2 ≤ t.size := by rw [← size_data]; exact HD2.out.2.2.1
      have hjd : (s.extract 0 n1 ++ t).data.toList = s.data.toList.take n1 ++ t.data.toList := by
        rw [ByteArray.data_append, Array.toList_append, Lib.extract_data]; simp
      have hjs : (s.extract 0 n1 ++ t).size ≤ 1000000 := by
        rw [← size_data, hjd, List.length_append, List.length_take, size_data, size_data]; omega
      have hD := dec_join HD1.out HD2.out
      rw [← hjd] at hD
      have HDJ := Lib.hid hD
      have H3 := Lib.hid (fun W => decode_c (s.extract 0 n1 ++ t) W hjs)
      clear hjd hjs hD
      go_wp2_with fail
      refine (H3.out _).mono ?_
      rintro e w3 ⟨v3, n3, rj, rfl, hs3, hd3, hn3⟩
      obtain ⟨he1, he2⟩ := hd3.uniq HDJ.out
      subst he1
      subst he2
      obtain ⟨A3, c3, rfl⟩ := hs3.form
      have HS3 := Lib.hid hs3
      have HS1 := Lib.hid (HS1.out.new hn3)
      have HS2 := Lib.hid (HS2.out.new hn3)
      have HN3 := Lib.hid (HN2.out.trans hn3)
      clear hs3 hd3 hn3 HN2
      go_wp2_with fail
      refine (H4.out _).mono ?_
      rintro e w4 ⟨v4, n4, rs4, rfl, hs4, hd4, hn4⟩
      obtain ⟨he1, he2⟩ := HD1.out.uniq hd4
      subst he1
      subst he2
      obtain ⟨A4, c4, rfl⟩ := hs4.form
      have HS1 := Lib.hid (HS1.out.new hn4)
      have HS2 := Lib.hid (HS2.out.new hn4)
      have HS3 := Lib.hid (HS3.out.new hn4)
      have HN4 := Lib.hid (HN3.out.trans hn4)
      have hll1 : rs.length ≤ 100000 := by have := flat_len rs; rw [HD1.out.len] at this; omega
      have hll2 : rt.length ≤ 100000 := by have := flat_len rt; rw [HD2.out.len] at this; omega
      clear hs4 hd4 hn4 HN3 HDJ H1 H2 H3 H4
      have HX := Lib.hid (OwnX.empty w4)
      go_wp2_with (at_builtin; refine app_recs w4 _ rfl _ _ rfl _ [] rfl ((New.refl w4).alloc _) HX.out _ rs rfl HS1.out (by simp; omega) ?_)
      intro A5 c5 w5 ho5 hn5 _
      have HO5 := Lib.hid ho5
      have HN5 := Lib.hid hn5
      clear ho5 hn5
      go_wp2_with (at_builtin; refine app_recs w4 _ rfl _ _ rfl _ rs rfl HN5.out HO5.out _ rt rfl HS2.out (by omega) ?_)
      intro A6 c6 w6 ho6 hn6 _
      have hsa := HS3.out.new hn6
      have hsb := ho6.slr hn6
      rw [List.length_append] at hsa
      have HC := Lib.hid (same_c (rs ++ rt) _ _ w6 hsa hsb)
      have HN6 := Lib.hid (HN4.out.trans hn6)
      clear hsa hsb ho6 hn6 HS1 HS2 HS3 HO5 HN5 HX HD1 HD2 HN4
      go_wp2_with fail
      refine HC.out.mono ?_
      rintro e w7 ⟨rfl, hn7⟩
      have HN7 := Lib.hid (HN6.out.trans hn7)
      clear hn7
      go_wp2
      go_ret
      exact ⟨rfl, HN7.out⟩
    · go_enter Try.func8, Try.ntmps8
      go_wp2
      go_ret
      exact ⟨rfl, New.refl _⟩
  · go_enter Try.func8, Try.ntmps8
    go_wp2
    go_ret
    exact ⟨rfl, New.refl _⟩
end Go.Proofs.Ytnmmcnblepadlaa
