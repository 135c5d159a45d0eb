/- The law LexOne, walked. -/
import Derived.Test.YteopdmifgdcghaaDoorX4
import Derived.Laws.Concat
namespace Go.Proofs.YteopdmifgdcghaaDoor
set_option linter.unusedSimpArgs false
set_option linter.unusedVariables false
open Go.RowKit
theorem number_bad (s : ByteArray) (w : World) (hs : s.size ≤ 65536) (L : Laid w) (h : refN s.data.toList = none) : Calls Tryd.prog 14 #[.string s] w fun e w' => e = .returned (.tuple #[.int .i64 0, .int .i64 81]) ∧ New w w' :=
  (number_c s w hs L).mono fun e w' hh => by
    obtain ⟨h1, h2⟩ := hh
    unfold numV numE at h1
    rw [h] at h1
    exact ⟨h1, h2⟩
theorem cat_list (a b : ByteArray) : (a ++ b).data.toList = a.data.toList ++ b.data.toList := by
  rw [ByteArray.data_append, Array.toList_append]
theorem refN_ne {l : List UInt8} {n : Int} (h : refN l = some n) : l ≠ [] := by
  rintro rfl
  cases h
theorem bad_zero {l : List UInt8} (h : l ≠ []) : refN (48 :: l) = none := by
  rw [refN_plain (by
    intro h
    injection h with h
    exact absurd h (by decide))]
  exact refB_none_zero rfl (.inr (by cases l with
    | nil => exact absurd rfl h
    | cons c r => simp))
theorem bad_head {c : UInt8} (l : List UInt8) (h1 : c ≠ 45) (h2 : dig c = false) : refN (c :: l) = none := by
  rw [refN_plain (by
    intro h
    injection h with h
    exact h1 h)]
  exact refB_none_dig (by rw [List.all_cons, h2]; rfl)
theorem bad_minus (l : List UInt8) : refN (45 :: 45 :: l) = none := by
  rw [refN_below rfl]
  exact refB_none_dig (by rw [List.tail_cons, List.all_cons]; rfl)
theorem bad_last {l : List UInt8} (h : l ≠ []) : refN (l ++ [46]) = none := by
  obtain ⟨c, r, rfl⟩ : ∃ c r, l = c :: r := by
    cases l with
    | nil => exact absurd rfl h
    | cons c r => exact ⟨c, r, rfl⟩
  have hd : ∀ p : List UInt8, (p ++ [46]).all dig = false := fun p => by
    rw [List.all_append]
    have : ([46] : List UInt8).all dig = false := by decide
    rw [this, Bool.and_false]
  by_cases hc : c = 45
  · subst hc
    rw [refN_below rfl]
    exact refB_none_dig (hd r)
  · rw [refN_plain (by
      intro h
      injection h with h
      exact hc h)]
    exact refB_none_dig (hd (c :: r))
set_option maxRecDepth 1000000 in
set_option maxHeartbeats 4000000 in
theorem lexOne_walk (s : ByteArray) (w : World) (L : Laid w) : Calls Tryd.prog 6 #[.string s] w fun e w' => e = .returned (.bool true) ∧ New w w' := by
  by_cases hs : (s.size : Int) ≤ 1024
  · have HL := Lib.hid L
    have HC1 := Lib.hid (number_c s w (by omega) L)
    have HC2 := Lib.hid (fun W => rnumber_c s W (by omega))
    have HE : Hid (numE s = 0 → s.data.toList ≠ []) := Lib.hid (fun h => by
      unfold numE at h
      split at h
      · rename_i h2
        obtain ⟨n, hn⟩ := Option.isSome_iff_exists.1 h2
        exact refN_ne hn
      · cases h)
    have HB1 : Hid (numE s = 0 → ∀ W, Laid W → Calls Tryd.prog 14 #[.string ((⟨#[48]⟩ : ByteArray) ++ s)] W fun e w' => e = .returned (.tuple #[.int .i64 0, .int .i64 81]) ∧ New W w') := Lib.hid (fun h W LW => number_bad _ W (by rw [ByteArray.size_append]; show 1 + s.size ≤ _; omega) LW (by rw [cat_list]; exact bad_zero (HE.out h)))
    have HB2 : Hid (∀ W, Laid W → Calls Tryd.prog 14 #[.string ((⟨#[43]⟩ : ByteArray) ++ s)] W fun e w' => e = .returned (.tuple #[.int .i64 0, .int .i64 81]) ∧ New W w') := Lib.hid (fun W LW => number_bad _ W (by rw [ByteArray.size_append]; show 1 + s.size ≤ _; omega) LW (by rw [cat_list]; exact bad_head _ (by decide) (by decide)))
    have HB3 : Hid (∀ W, Laid W → Calls Tryd.prog 14 #[.string ((⟨#[32]⟩ : ByteArray) ++ s)] W fun e w' => e = .returned (.tuple #[.int .i64 0, .int .i64 81]) ∧ New W w') := Lib.hid (fun W LW => number_bad _ W (by rw [ByteArray.size_append]; show 1 + s.size ≤ _; omega) LW (by rw [cat_list]; exact bad_head _ (by decide) (by decide)))
    have HB4 : Hid (∀ W, Laid W → Calls Tryd.prog 14 #[.string ((⟨#[45, 45]⟩ : ByteArray) ++ s)] W fun e w' => e = .returned (.tuple #[.int .i64 0, .int .i64 81]) ∧ New W w') := Lib.hid (fun W LW => number_bad _ W (by rw [ByteArray.size_append]; show 2 + s.size ≤ _; omega) LW (by rw [cat_list]; exact bad_minus _))
    have HB5 : Hid (numE s = 0 → ∀ W, Laid W → Calls Tryd.prog 14 #[.string (s ++ (⟨#[46]⟩ : ByteArray))] W fun e w' => e = .returned (.tuple #[.int .i64 0, .int .i64 81]) ∧ New W w') := Lib.hid (fun h W LW => number_bad _ W (by rw [ByteArray.size_append]; show s.size + 1 ≤ _; omega) LW (by rw [cat_list]; exact bad_last (HE.out h)))
    unfold NPost at HC1 HC2
    generalize numV s = V at *
    generalize numE s = E at *
    clear L HE
    go_enter Tryd.func6, Tryd.ntmps6
    go_wp2_with fail
    refine HC1.out.mono ?_
    rintro e w1 ⟨rfl, hn⟩
    have HN1 := Lib.hid hn
    clear hn HC1
    go_wp2_with fail
    refine (HC2.out _).mono ?_
    rintro e w2 ⟨rfl, hn⟩
    have HN2 := Lib.hid (HN1.out.trans hn)
    clear hn HC2 HN1
    by_cases hE : E = 0
    · subst hE
      have HD1 := Lib.hid (HB1.out rfl)
      have HD5 := Lib.hid (HB5.out rfl)
      clear HB1 HB5
      go_wp2_with fail
      refine (HD1.out _ (HL.out.new HN2.out)).mono ?_
      rintro e w3 ⟨rfl, hn⟩
      have HN3 := Lib.hid (HN2.out.trans hn)
      clear hn HD1
      go_wp2_with fail
      refine (HB2.out _ (HL.out.new HN3.out)).mono ?_
      rintro e w4 ⟨rfl, hn⟩
      have HN4 := Lib.hid (HN3.out.trans hn)
      clear hn HB2
      go_wp2_with fail
      refine (HB3.out _ (HL.out.new HN4.out)).mono ?_
      rintro e w5 ⟨rfl, hn⟩
      have HN5 := Lib.hid (HN4.out.trans hn)
      clear hn HB3
      go_wp2_with fail
      refine (HB4.out _ (HL.out.new HN5.out)).mono ?_
      rintro e w6 ⟨rfl, hn⟩
      have HN6 := Lib.hid (HN5.out.trans hn)
      clear hn HB4
      go_wp2_with fail
      refine (HD5.out _ (HL.out.new HN6.out)).mono ?_
      rintro e w7 ⟨rfl, hn⟩
      have HN7 := Lib.hid (HN6.out.trans hn)
      clear hn HD5
      go_wp2
      go_ret
      exact ⟨rfl, HN7.out⟩
    · have hE2 : (E != 0) = true := by rw [bne_iff_ne]; exact hE
      clear HB1 HB2 HB3 HB4 HB5
      go_wp2
      go_ret
      exact ⟨rfl, HN2.out⟩
  · have hs2 : (1024 : Int) < (s.size : Int) := by omega
    clear L
    go_enter Tryd.func6, Tryd.ntmps6
    go_wp2
    go_ret
    exact ⟨rfl, New.refl _⟩
end Go.Proofs.YteopdmifgdcghaaDoor
