/- The laws of 01: NatTexts, walked. -/
import Derived.Test.YtjandmkopeapeaaDoorLaw2a
import Derived.Test.YtjandmkopeapeaaDoorRef8
namespace Go.Proofs.YtjandmkopeapeaaDoor
set_option linter.unusedSimpArgs false
set_option linter.unusedVariables false
open Go.RowKit
theorem num_len4 {a : ByteArray} (h : a.size ≤ 4096) (hi : isNum a.data.toList = true) : (dg B32 (pNum a.data.toList)).length ≤ 4096 ∧ Lib.decDigits (pNum a.data.toList) = a.data.toList := by
  have hp : pNum a.data.toList = numL a.data.toList := by unfold pNum; rw [if_pos hi]
  refine ⟨?_, by rw [hp]; exact dec_num hi⟩
  have hd : a.data.toList.all dig = true := by
    unfold isNum at hi
    simp only [Bool.and_eq_true] at hi
    exact hi.1.2
  rw [hp]
  have h1 := numL_lt hd
  have h2 : numL a.data.toList < B32 ^ a.data.toList.length := Nat.lt_of_lt_of_le h1 (Nat.pow_le_pow_left (by rw [B32_eq]; omega) _)
  have h3 := dg_len B32_2 h2
  rw [← Lib.size_eq] at h3
  omega
set_option maxRecDepth 100000 in
set_option maxHeartbeats 4000000 in
theorem natTexts_walk (s : ByteArray) (z : Int) (w : World) (hz1 : 0 ≤ z) (hz2 : z ≤ 18446744073709551615) (L : Lib.TabIs Tryd.prog w "internal/strconv.uint64pow10" .u64 Lib.pow10Tab) :
    Calls Tryd.prog 5 #[.string s, .int .u64 z] w fun e w' => e = .returned (.bool true) ∧ Below w.heap.size w w' := by
  obtain ⟨n, rfl⟩ : ∃ n : Nat, z = (n : Int) := ⟨z.toNat, by omega⟩
  have HTAB := Lib.hid L
  clear L
  by_cases hs : 2048 < s.size
  · have hs' : (2048 : Int) < (s.size : Int) := by omega
    go_enter Tryd.func5, Tryd.ntmps5
    go_wp2
    go_ret
    exact ⟨rfl, New.refl w⟩
  · have hs' : ¬ (2048 : Int) < (s.size : Int) := by omega
    have hn : n < 18446744073709551616 := by omega
    have hl32 : (dg B32 n).length ≤ 2 := dg_len B32_2 (by rw [B32_eq]; omega)
    have hl9 : (dg B9 n).length ≤ 3 := dg_len B9_2 (by rw [B9_eq]; omega)
    have H1 := Lib.hid (fun W => number_c s W (by omega))
    go_enter Tryd.func5, Tryd.ntmps5
    go_wp2_with fail
    refine (H1.out _).mono ?_
    rintro e w1 ⟨v1, u1, rfl, hv1, hu1, hn1⟩
    obtain ⟨A1, l1, c1, rfl⟩ := hv1.form
    obtain ⟨B1, m1, d1, rfl⟩ := hu1.form
    have T1 := Lib.hid (Two.last hv1 hu1)
    have HN1 := Lib.hid (hn1.alloc (.cells #[.slice A1 l1 c1] 26) |>.alloc (.cells #[.slice B1 m1 d1] 29))
    have hx3 := T1.out.bx.cell 0
    clear hv1 hu1 hn1 H1
    go_wp2_with fail
    generalize hW : (w1.alloc (.cells #[.slice A1 l1 c1] 26)).alloc (.cells #[.slice B1 m1 d1] 29) = W at *
    generalize hp3 : w1.heap.size = p3 at *
    generalize hq3 : p3 + 1 = q3 at *
    clear hW hp3 hq3
    refine (of_c hn _).mono ?_
    rintro e w2 ⟨v2, rfl, hv2, hn2⟩
    go_wp2_with fail
    refine (text_c hv2 (by omega) (tabIs_new (HN1.out.trans hn2) HTAB.out)).mono ?_
    rintro e w3 ⟨rfl, hn3⟩
    go_wp2_with fail
    refine (rof_c hn _).mono ?_
    rintro e w4 ⟨v4, rfl, hv4, hn4⟩
    go_wp2_with fail
    refine (rtext_c hv4 (by omega)).mono ?_
    rintro e w5 ⟨rfl, hn5⟩
    have hnx := ((hn2.trans hn3).trans hn4).trans hn5
    have T5 := Lib.hid (T1.out.new hnx)
    have HN5 := Lib.hid (HN1.out.trans hnx)
    have hy3 := T5.out.bx.cell 0
    clear hv2 hn2 hn3 hv4 hn4 hn5 hnx hx3 T1 HN1
    cases i1 : isNum s.data.toList with
    | false => go_wp2_with fail; go_ret; exact ⟨rfl, HN5.out⟩
    | true =>
      obtain ⟨L1, E1⟩ := num_len4 (by omega) i1
      go_wp2_with fail
      refine (text_c T5.out.nx (by omega) (tabIs_new HN5.out HTAB.out)).mono ?_
      rintro e w6 ⟨rfl, hn6⟩
      rw [show (⟨(Lib.decDigits (pNum s.data.toList)).toArray⟩ : ByteArray) = s by rw [E1]]
      have HN6 := Lib.hid (HN5.out.trans hn6)
      clear hn6
      go_wp2_with fail
      go_ret
      first | exact ⟨rfl, HN6.out⟩ | exact ⟨by simp, HN6.out⟩
end Go.Proofs.YtjandmkopeapeaaDoor
