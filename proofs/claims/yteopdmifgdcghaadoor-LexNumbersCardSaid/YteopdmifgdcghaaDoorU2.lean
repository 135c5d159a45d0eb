/- Letters, kinds of runes, names: walked. -/
import Derived.Test.YteopdmifgdcghaaDoorU1
import Derived.Test.YteopdmifgdcghaaDoorProg
namespace Go.Proofs.YteopdmifgdcghaaDoor
set_option linter.unusedSimpArgs false
set_option linter.unusedVariables false
open Go.RowKit
theorem isL_yes {r : Int} (h : (97 ≤ r ∧ r ≤ 122) ∨ (945 ≤ r ∧ r ≤ 969)) : isL r = true := by unfold isL; simp; omega
theorem isL_no {r : Int} (h : ¬ ((97 ≤ r ∧ r ≤ 122) ∨ (945 ≤ r ∧ r ≤ 969))) : isL r = false := by
  unfold isL
  rw [decide_eq_false (by omega), decide_eq_false (by omega)]
  rfl
/-- The kind of a rune. -/
def kindN (r : Int) : Int := if isL r then 1 else if 48 ≤ r ∧ r ≤ 57 then 2 else if r = 45 then 3 else if r = 44 then 4 else if r = 32 then 5 else 0
theorem kind_one (r : Int) : (kindN r = 1) ↔ isL r = true := by
  unfold kindN
  split
  · simp [*]
  · rename_i h
    simp only [h]
    split
    · simp
    split
    · simp
    split
    · simp
    split <;> simp
set_option maxHeartbeats 1000000 in
theorem letter_c (r : Int) (w : World) : Calls Tryd.prog 21 #[.int .i32 r] w fun e w' => e = .returned (.bool (isL r)) ∧ w = w' := by
  have hc : r < 97 ∨ (97 ≤ r ∧ r ≤ 122) ∨ (122 < r ∧ r < 945) ∨ (945 ≤ r ∧ r ≤ 969) ∨ 969 < r := by omega
  rcases hc with h | ⟨h1, h2⟩ | ⟨h1, h2⟩ | ⟨h1, h2⟩ | h
  · rw [isL_no (by omega)]
    go_enter Tryd.func21, Tryd.ntmps21
    go_wp2
    go_ret
    exact ⟨ret_bool (by first | rfl | (simp; omega)), rfl⟩
  · rw [isL_yes (by omega)]
    go_enter Tryd.func21, Tryd.ntmps21
    go_wp2
    go_ret
    exact ⟨ret_bool (by first | rfl | (simp; omega)), rfl⟩
  · rw [isL_no (by omega)]
    have h3 : 97 ≤ r := by omega
    go_enter Tryd.func21, Tryd.ntmps21
    go_wp2
    go_ret
    exact ⟨ret_bool (by first | rfl | (simp; omega)), rfl⟩
  · rw [isL_yes (by omega)]
    have h3 : 97 ≤ r := by omega
    have h4 : 122 < r := by omega
    go_enter Tryd.func21, Tryd.ntmps21
    go_wp2
    go_ret
    exact ⟨ret_bool (by first | rfl | (simp; omega)), rfl⟩
  · rw [isL_no (by omega)]
    have h3 : 97 ≤ r := by omega
    have h4 : 122 < r := by omega
    have h5 : 945 ≤ r := by omega
    go_enter Tryd.func21, Tryd.ntmps21
    go_wp2
    go_ret
    exact ⟨ret_bool (by first | rfl | (simp; omega)), rfl⟩
set_option maxRecDepth 100000 in
set_option maxHeartbeats 2000000 in
theorem kind_c (r : Int) (w : World) : Calls Tryd.prog 20 #[.int .i32 r] w fun e w' => e = .returned (.int .i64 (kindN r)) ∧ w = w' := by
  have hc : (97 ≤ r ∧ r ≤ 122) ∨ (945 ≤ r ∧ r ≤ 969) ∨ (48 ≤ r ∧ r ≤ 57) ∨ r = 45 ∨ r = 44 ∨ r = 32 ∨ (r < 48 ∧ r ≠ 45 ∧ r ≠ 44 ∧ r ≠ 32) ∨ (57 < r ∧ r < 97) ∨ (122 < r ∧ r < 945) ∨ 969 < r := by omega
  rcases hc with ⟨h1, h2⟩ | ⟨h1, h2⟩ | ⟨h1, h2⟩ | rfl | rfl | rfl | ⟨h1, h2, h3, h4⟩ | ⟨h1, h2⟩ | ⟨h1, h2⟩ | h1
  · have e : kindN r = 1 := by unfold kindN; rw [isL_yes (by omega)]; rfl
    rw [e]
    go_enter Tryd.func20, Tryd.ntmps20
    go_wp2
    go_ret
    exact ⟨rfl, rfl⟩
  · have e : kindN r = 1 := by unfold kindN; rw [isL_yes (by omega)]; rfl
    rw [e]
    have h3 : 97 ≤ r := by omega
    have h4 : 122 < r := by omega
    go_enter Tryd.func20, Tryd.ntmps20
    go_wp2
    go_ret
    exact ⟨rfl, rfl⟩
  · have e : kindN r = 2 := by unfold kindN; rw [isL_no (by omega), if_neg (by simp), if_pos ⟨h1, h2⟩]
    rw [e]
    have h3 : r < 97 := by omega
    go_enter Tryd.func20, Tryd.ntmps20
    go_wp2
    go_ret
    exact ⟨rfl, rfl⟩
  · rw [show kindN 45 = 3 by decide]
    go_enter Tryd.func20, Tryd.ntmps20
    go_wp2
    go_ret
    exact ⟨rfl, rfl⟩
  · rw [show kindN 44 = 4 by decide]
    go_enter Tryd.func20, Tryd.ntmps20
    go_wp2
    go_ret
    exact ⟨rfl, rfl⟩
  · rw [show kindN 32 = 5 by decide]
    go_enter Tryd.func20, Tryd.ntmps20
    go_wp2
    go_ret
    exact ⟨rfl, rfl⟩
  · have e : kindN r = 0 := by unfold kindN; rw [isL_no (by omega), if_neg (by simp), if_neg (by omega), if_neg h2, if_neg h3, if_neg h4]
    rw [e]
    have h5 : r < 97 := by omega
    go_enter Tryd.func20, Tryd.ntmps20
    go_wp2
    go_ret
    exact ⟨rfl, rfl⟩
  · have e : kindN r = 0 := by unfold kindN; rw [isL_no (by omega), if_neg (by simp), if_neg (by omega), if_neg (by omega), if_neg (by omega), if_neg (by omega)]
    rw [e]
    have h5 : 48 ≤ r := by omega
    have h6 : ¬ r = 45 := by omega
    have h7 : ¬ r = 44 := by omega
    have h8 : ¬ r = 32 := by omega
    go_enter Tryd.func20, Tryd.ntmps20
    go_wp2
    go_ret
    exact ⟨rfl, rfl⟩
  · have e : kindN r = 0 := by unfold kindN; rw [isL_no (by omega), if_neg (by simp), if_neg (by omega), if_neg (by omega), if_neg (by omega), if_neg (by omega)]
    rw [e]
    have h5 : 97 ≤ r := by omega
    have h9 : 48 ≤ r := by omega
    have h10 : 57 < r := by omega
    have h6 : ¬ r = 45 := by omega
    have h7 : ¬ r = 44 := by omega
    have h8 : ¬ r = 32 := by omega
    go_enter Tryd.func20, Tryd.ntmps20
    go_wp2
    go_ret
    exact ⟨rfl, rfl⟩
  · have e : kindN r = 0 := by unfold kindN; rw [isL_no (by omega), if_neg (by simp), if_neg (by omega), if_neg (by omega), if_neg (by omega), if_neg (by omega)]
    rw [e]
    have h5 : 97 ≤ r := by omega
    have h11 : 122 < r := by omega
    have h12 : 945 ≤ r := by omega
    have h9 : 48 ≤ r := by omega
    have h10 : 57 < r := by omega
    have h6 : ¬ r = 45 := by omega
    have h7 : ¬ r = 44 := by omega
    have h8 : ¬ r = 32 := by omega
    go_enter Tryd.func20, Tryd.ntmps20
    go_wp2
    go_ret
    exact ⟨rfl, rfl⟩
/-- The runes seen so far, all of them letters. -/
def Seen (P : Int → Bool) (s : ByteArray) (pos b n : Nat) : Prop := (∃ pre, runes s = pre ++ runesOf s b pos ∧ pre.length = n ∧ pre.all (fun r => P (r : Int)) = true) ∧ s.size ≤ pos + b
section
variable {P : Int → Bool} {s : ByteArray} {pos b n : Nat}
theorem Seen.start (P : Int → Bool) (s : ByteArray) : Seen P s 0 s.size 0 := ⟨⟨[], rfl, rfl, rfl⟩, by omega⟩
theorem Seen.step (h : Seen P s pos b n) (hp : pos < s.size) : ∃ b', b = b' + 1 ∧ (P (((Utf8.decode s pos).1 : Nat) : Int) = true → Seen P s (pos + (Utf8.decode s pos).2) b' (n + 1)) ∧ (P (((Utf8.decode s pos).1 : Nat) : Int) = false → (runes s).all (fun r => P (r : Int)) = false) := by
  obtain ⟨⟨pre, h1, h2, h3⟩, h4⟩ := h
  have hw := Lib.decode_width_pos s pos hp
  obtain ⟨b, rfl⟩ : ∃ g, b = g + 1 := ⟨b - 1, by omega⟩
  have hr : runesOf s (b + 1) pos = (Utf8.decode s pos).1 :: runesOf s b (pos + (Utf8.decode s pos).2) := by
    conv => lhs; unfold runesOf
    rw [if_pos hp]
  rw [hr] at h1
  refine ⟨b, rfl, fun hP => ⟨⟨pre ++ [(Utf8.decode s pos).1], by rw [h1]; simp, by simp [h2], by simp [h3, hP]⟩, by omega⟩, fun hP => ?_⟩
  rw [h1]
  simp [hP]
theorem Seen.fin (h : Seen P s pos b n) (hp : ¬ pos < s.size) : (runes s).all (fun r => P (r : Int)) = true ∧ (runes s).length = n := by
  obtain ⟨⟨pre, h1, h2, h3⟩, h4⟩ := h
  have hr : runesOf s b pos = [] := by
    cases b with
    | zero => rfl
    | succ b => unfold runesOf; rw [if_neg hp]
  rw [hr, List.append_nil] at h1
  rw [h1]
  exact ⟨h3, h2⟩
theorem Seen.le (h : Seen P s pos b n) : n ≤ s.size := by
  obtain ⟨⟨pre, h1, h2, h3⟩, h4⟩ := h
  have := runesOf_len s s.size 0
  have e := congrArg List.length h1
  unfold runes at e
  rw [List.length_append] at e
  omega
end
theorem nameB_no {s : ByteArray} (h : (runes s).all (fun r => isL (r : Int)) = false) : nameB (runes s) = false := by
  unfold nameB
  rw [h]
  rfl
theorem nameB_is {s : ByteArray} {n : Nat} (h : (runes s).all (fun r => isL (r : Int)) = true ∧ (runes s).length = n) : nameB (runes s) = decide (1 ≤ n ∧ n ≤ 8) := by
  unfold nameB
  rw [h.1, h.2]
  rfl
set_option maxRecDepth 100000 in
set_option maxHeartbeats 2000000 in
theorem name_c (s : ByteArray) (w : World) (hs : s.size < 9223372036854775807) : Calls Tryd.prog 18 #[.string s] w fun e w' => e = .returned (.bool (nameB (runes s))) ∧ New w w' := by
  go_enter Tryd.func18, Tryd.ntmps18
  go_wp2
  go_loopw [3] (fun v3 w' => ∃ (pos b n : Nat), w' = w.iter s pos ∧ v3 = .int .i64 (n : Int) ∧ Hid (Seen isL s pos b n)) (fun _ w' => s.size - w'.iterPos w.heap.size)
  case atStart => exact ⟨0, s.size, 0, rfl, rfl, Seen.start _ _⟩
  case round =>
    obtain ⟨pos, b, n, rfl, rfl, HS⟩ := hrel
    have hn := HS.out.le
    by_cases hp : pos < s.size
    · have hnx : ∀ ty, (Instr.next (.pointer (some ⟨w.heap.size, 0, none⟩)) true ty).run Tryd.prog (w.iter s pos) = _ := fun ty => run_next_any w s pos ty hp
      have hwd := Lib.decode_width_pos s pos hp
      obtain ⟨b', rfl, k1, k2⟩ := HS.out.step hp
      have K1 := Lib.hid k1
      have K2 := Lib.hid k2
      have HL := Lib.hid (fun W => letter_c (((Utf8.decode s pos).1 : Nat) : Int) W)
      clear k1 k2
      cases hb : isL (((Utf8.decode s pos).1 : Nat) : Int)
      case true =>
        have HS2 := Lib.hid (K1.out hb)
        rw [hb] at HL
        clear hb
        go_wp2_with fail
        refine (HL.out _).mono ?_
        rintro e w2 ⟨rfl, rfl⟩
        go_wp2
        go_roundw
        case rel => exact ⟨_, _, n + 1, rfl, by go_num, HS2.out⟩
        case measure =>
          simp
          omega
      case false =>
        have HN := Lib.hid (nameB_no (K2.out hb))
        rw [hb] at HL
        clear hb
        go_wp2_with fail
        refine (HL.out _).mono ?_
        rintro e w2 ⟨rfl, rfl⟩
        go_wp2
        go_ret
        rw [HN.out]
        exact ⟨rfl, (New.refl w).alloc _⟩
    · have hnx : ∀ ty, (Instr.next (.pointer (some ⟨w.heap.size, 0, none⟩)) true ty).run Tryd.prog (w.iter s pos) = _ := fun ty => run_next_end w s pos ty hp
      have HN := Lib.hid (nameB_is (HS.out.fin hp))
      have hc : n < 1 ∨ (1 ≤ n ∧ n ≤ 8) ∨ 8 < n := by omega
      rcases hc with hc | ⟨hc1, hc2⟩ | hc
      · rw [decide_eq_false (by omega)] at HN
        go_wp2
        go_ret
        rw [HN.out]
        exact ⟨rfl, (New.refl w).alloc _⟩
      · rw [decide_eq_true ⟨hc1, hc2⟩] at HN
        go_wp2
        go_ret
        rw [HN.out]
        exact ⟨ret_bool (by first | rfl | (simp; omega)), (New.refl w).alloc _⟩
      · rw [decide_eq_false (by omega)] at HN
        have hc3 : 1 ≤ n := by omega
        go_wp2
        go_ret
        rw [HN.out]
        exact ⟨ret_bool (by first | rfl | (simp; omega)), (New.refl w).alloc _⟩
set_option maxRecDepth 100000 in
set_option maxHeartbeats 2000000 in
theorem rname_c (s : ByteArray) (w : World) (hs : s.size < 9223372036854775807) : Calls Tryd.prog 19 #[.string s] w fun e w' => e = .returned (.bool (nameB (runes s))) ∧ New w w' := by
  go_enter Tryd.func19, Tryd.ntmps19
  go_wp2
  go_loopw [3] (fun v3 w' => ∃ (pos b n : Nat), w' = w.iter s pos ∧ v3 = .int .i64 (n : Int) ∧ Hid (Seen isL s pos b n)) (fun _ w' => s.size - w'.iterPos w.heap.size)
  case atStart => exact ⟨0, s.size, 0, rfl, rfl, Seen.start _ _⟩
  case round =>
    obtain ⟨pos, b, n, rfl, rfl, HS⟩ := hrel
    have hn := HS.out.le
    by_cases hp : pos < s.size
    · have hnx : ∀ ty, (Instr.next (.pointer (some ⟨w.heap.size, 0, none⟩)) true ty).run Tryd.prog (w.iter s pos) = _ := fun ty => run_next_any w s pos ty hp
      have hwd := Lib.decode_width_pos s pos hp
      obtain ⟨b', rfl, k1, k2⟩ := HS.out.step hp
      have K1 := Lib.hid k1
      have K2 := Lib.hid k2
      have HL := Lib.hid (fun W => kind_c (((Utf8.decode s pos).1 : Nat) : Int) W)
      clear k1 k2
      have hk1 := kind_one (((Utf8.decode s pos).1 : Nat) : Int)
      cases hb : isL (((Utf8.decode s pos).1 : Nat) : Int)
      case true =>
        have HS2 := Lib.hid (K1.out hb)
        rw [hk1.2 hb] at HL
        clear hb hk1
        go_wp2_with fail
        refine (HL.out _).mono ?_
        rintro e w2 ⟨rfl, rfl⟩
        go_wp2
        go_roundw
        case rel => exact ⟨_, _, n + 1, rfl, by go_num, HS2.out⟩
        case measure =>
          simp
          omega
      case false =>
        have HN := Lib.hid (nameB_no (K2.out hb))
        have hne : ¬ kindN (((Utf8.decode s pos).1 : Nat) : Int) = 1 := fun e => by rw [hk1.1 e] at hb; cases hb
        generalize kindN (((Utf8.decode s pos).1 : Nat) : Int) = kk at *
        clear hb hk1
        go_wp2_with fail
        refine (HL.out _).mono ?_
        rintro e w2 ⟨rfl, rfl⟩
        go_wp2
        go_ret
        rw [HN.out]
        exact ⟨rfl, (New.refl w).alloc _⟩
    · have hnx : ∀ ty, (Instr.next (.pointer (some ⟨w.heap.size, 0, none⟩)) true ty).run Tryd.prog (w.iter s pos) = _ := fun ty => run_next_end w s pos ty hp
      have HN := Lib.hid (nameB_is (HS.out.fin hp))
      have hc : n < 1 ∨ (1 ≤ n ∧ n ≤ 8) ∨ 8 < n := by omega
      rcases hc with hc | ⟨hc1, hc2⟩ | hc
      · rw [decide_eq_false (by omega)] at HN
        go_wp2
        go_ret
        rw [HN.out]
        exact ⟨rfl, (New.refl w).alloc _⟩
      · rw [decide_eq_true ⟨hc1, hc2⟩] at HN
        go_wp2
        go_ret
        rw [HN.out]
        exact ⟨ret_bool (by first | rfl | (simp; omega)), (New.refl w).alloc _⟩
      · rw [decide_eq_false (by omega)] at HN
        have hc3 : 1 ≤ n := by omega
        go_wp2
        go_ret
        rw [HN.out]
        exact ⟨ret_bool (by first | rfl | (simp; omega)), (New.refl w).alloc _⟩
end Go.Proofs.YteopdmifgdcghaaDoor
