/- A number's text: the reference's Number, walked; the law LexOne. -/
import Derived.Test.YteopdmifgdcghaaDoorX3
namespace Go.Proofs.YteopdmifgdcghaaDoor
set_option linter.unusedSimpArgs false
set_option linter.unusedVariables false
open Go.RowKit
/-- The reference's loop: k digits read. -/
def DigInv (t : List UInt8) (k : Nat) (n : Int) : Prop := (t.take k).all dig = true ∧ n = (numL (t.take k) : Int)
theorem DigInv.start (t : List UInt8) : DigInv t 0 0 := ⟨rfl, rfl⟩
theorem dig_bounds {c : UInt8} (h : dig c = true) : 48 ≤ c.toNat ∧ c.toNat ≤ 57 := by
  unfold dig at h
  exact of_decide_eq_true h
theorem DigInv.next {t : List UInt8} {k : Nat} {n : Int} (h : DigInv t k n) (hk : k < t.length) (hd : dig t[k] = true) : DigInv t (k + 1) (n * 10 + ((t[k].toNat : Int) - 48)) := by
  obtain ⟨h1, h2⟩ := h
  have hb := dig_bounds hd
  rw [DigInv, List.take_succ_eq_append_getElem hk]
  refine ⟨by rw [List.all_append, h1]; simp [hd], ?_⟩
  rw [numL_snoc, h2]
  omega
theorem DigInv.bound {t : List UInt8} {k : Nat} {n : Int} (h : DigInv t k n) (hk : k ≤ 10) : 0 ≤ n ∧ n < 10000000000 := by
  obtain ⟨h1, h2⟩ := h
  have := numL_lt h1
  have hl : (t.take k).length ≤ 10 := by rw [List.length_take]; omega
  have : 10 ^ (t.take k).length ≤ 10 ^ 10 := Nat.pow_le_pow_right (by omega) hl
  omega
theorem not_dig_none {t : List UInt8} {k : Nat} (hk : k < t.length) (hd : dig t[k] = false) : t.all dig = false := by
  cases h : t.all dig with
  | false => rfl
  | true =>
    have := List.all_eq_true.1 h t[k] (List.getElem_mem hk)
    rw [hd] at this
    cases this
theorem isNum_all {t : List UInt8} (h : t.all dig = false) : isNum t = false := by
  unfold isNum
  rw [h]
  simp
/-- The document's rule, the sign taken off. -/
def refB (below : Bool) (t : List UInt8) : Option Int :=
  if isNum t = true ∧ t.length ≤ 10 ∧ (below = true → t.head? ≠ some 48) ∧ numL t ≤ 1000000000 then some (if below then -(numL t : Int) else (numL t : Int)) else none
section
variable {below : Bool} {t : List UInt8}
theorem isNum_iff : isNum t = true ↔ t ≠ [] ∧ t.all dig = true ∧ (t.head? = some 48 → t.length = 1) := by
  unfold isNum
  simp only [Bool.and_eq_true, Bool.not_eq_true', List.isEmpty_eq_false_iff, Bool.or_eq_true, bne_iff_ne, beq_iff_eq, ne_eq]
  constructor
  · rintro ⟨⟨h1, h2⟩, h3⟩
    exact ⟨h1, h2, fun h => h3.resolve_left (fun hh => hh h)⟩
  · rintro ⟨h1, h2, h3⟩
    refine ⟨⟨h1, h2⟩, ?_⟩
    by_cases h : t.head? = some 48
    · exact .inr (h3 h)
    · exact .inl h
theorem refB_none_len (h : t.length = 0) : refB below t = none := by
  unfold refB
  rw [if_neg (fun hh => (isNum_iff.1 hh.1).1 (List.eq_nil_of_length_eq_zero h))]
theorem refB_none_long (h : 10 < t.length) : refB below t = none := by
  unfold refB
  rw [if_neg (fun hh => by have := hh.2.1; omega)]
theorem refB_none_zero (h : t.head? = some 48) (h2 : below = true ∨ 1 < t.length) : refB below t = none := by
  unfold refB
  rw [if_neg (fun hh => by
    rcases h2 with h2 | h2
    · exact hh.2.2.1 h2 h
    · have := (isNum_iff.1 hh.1).2.2 h
      omega)]
theorem refB_none_dig (h : t.all dig = false) : refB below t = none := by
  unfold refB
  rw [if_neg (fun hh => by have := (isNum_iff.1 hh.1).2.1; rw [h] at this; cases this)]
theorem refB_none_big (h : 1000000000 < numL t) : refB below t = none := by
  unfold refB
  rw [if_neg (fun hh => by have := hh.2.2.2; omega)]
theorem refB_some (h1 : 1 ≤ t.length) (h2 : t.length ≤ 10) (h3 : t.all dig = true) (h4 : t.head? = some 48 → below = false ∧ t.length = 1) (h5 : numL t ≤ 1000000000) : refB below t = some (if below then -(numL t : Int) else (numL t : Int)) := by
  unfold refB
  rw [if_pos ⟨isNum_iff.2 ⟨fun h => (by rw [h] at h1; cases h1), h3, fun h => (h4 h).2⟩, h2, fun hb h => (by rw [(h4 h).1] at hb; cases hb), h5⟩]
end
theorem refN_below {l : List UInt8} (h : l.head? = some 45) : refN l = refB true l.tail := by
  unfold refN refB
  rw [if_pos h]
  simp
theorem refN_plain {l : List UInt8} (h : l.head? ≠ some 45) : refN l = refB false l := by
  unfold refN refB
  rw [if_neg h]
  simp
theorem mag_toList {s : ByteArray} {c : UInt8} (h : s.data.toList.head? = some c) : (s.extract 1 s.size).data.toList = s.data.toList.tail := by
  rw [ByteArray.data_extract, Array.toList_extract]
  have hl := size_data s
  cases hs : s.data.toList with
  | nil => rw [hs] at h; cases h
  | cons c r =>
    rw [hs, List.length_cons] at hl
    rw [← hl]
    simp
set_option maxRecDepth 100000 in
set_option maxHeartbeats 8000000 in
theorem rnumber_c (s : ByteArray) (w : World) (hs : s.size ≤ 65536) : Calls Tryd.prog 15 #[.string s] w (NPost s w) := by
  by_cases e0 : s.size = 0
  · have HB : Hid (refN s.data.toList = none) := Lib.hid (by
      have : s.data.toList = [] := List.eq_nil_of_length_eq_zero (by rw [size_data]; exact e0)
      rw [this]; rfl)
    have e0i : (s.size : Int) = 0 := by omega
    clear e0
    go_enter Tryd.func15, Tryd.ntmps15
    go_wp2
    go_ret2
    exact NPost.bad HB.out (New.refl _)
  · have hp : 0 < s.size := by omega
    have hpi : (0 : Int) < (s.size : Int) := by omega
    have hh : s.data.toList.head? = some (s[0]'hp) := by
      rw [List.head?_eq_getElem?, List.getElem?_eq_getElem (by rw [size_data]; exact hp)]
      rfl
    have hs2 : (s.size : Int) ≤ 65536 := by omega
    by_cases hm : (s[0]'hp).toNat = 45
    · have hh2 : s.data.toList.head? = some 45 := by
        rw [hh]
        exact congrArg some (UInt8.toNat_inj.1 hm)
      have f0 : (((s[0]'hp).toNat : Int) == 45) = true := by rw [beq_iff_eq]; omega
      obtain ⟨T, hT⟩ : ∃ T, s.extract 1 s.size = T := ⟨_, rfl⟩
      have HT : Hid (refN s.data.toList = refB true T.data.toList) := Lib.hid (by rw [refN_below hh2, ← hT, mag_toList hh2])
      clear hh hh2 hm e0
      go_enter Tryd.func15, Tryd.ntmps15
      by_cases c1 : T.size < 1
      · have HB := Lib.hid (refB_none_len (below := true) (t := T.data.toList) (by rw [size_data]; omega))
        have c1i : (T.size : Int) < 1 := by omega
        go_wp2
        go_ret2
        exact NPost.bad (HT.out.trans HB.out) (New.refl _)
      by_cases c2 : 10 < T.size
      · have HB := Lib.hid (refB_none_long (below := true) (t := T.data.toList) (by rw [size_data]; omega))
        have c1i : (1 : Int) ≤ (T.size : Int) := by omega
        have c2i : (10 : Int) < (T.size : Int) := by omega
        go_wp2
        go_ret2
        exact NPost.bad (HT.out.trans HB.out) (New.refl _)
      have c1i : (1 : Int) ≤ (T.size : Int) := by omega
      have c2i : (T.size : Int) ≤ 10 := by omega
      have h0 : 0 < T.size := by omega
      have hg0 : T.data.toList[0]? = some (T[0]'h0) := by
        rw [List.getElem?_eq_getElem (by rw [size_data]; exact h0)]
        rfl
      by_cases c3 : (T[0]'h0).toNat = 48
      · have HB := Lib.hid (refB_none_zero (below := true) (t := T.data.toList) (by rw [← List.head?_eq_getElem?] at hg0; rw [hg0]; exact congrArg some (UInt8.toNat_inj.1 c3)) (.inl rfl))
        have z : (((T[0]'h0).toNat : Int) == 48) = true := by rw [beq_iff_eq]; omega
        have hc4 : (1 : Int) < (T.size : Int) ∨ (T.size : Int) ≤ 1 := by omega
        rcases hc4 with c4 | c4
        all_goals
          go_wp2
          go_ret2
          exact NPost.bad (HT.out.trans HB.out) (New.refl _)
      have HZ : Hid (T.data.toList.head? = some 48 → false = true) := Lib.hid (fun h => by
        rw [List.head?_eq_getElem?, hg0] at h
        injection h with h
        exact absurd (by rw [h]; rfl) c3)
      have z : (((T[0]'h0).toNat : Int) == 48) = false := by rw [beq_eq_false_iff_ne]; omega
      clear c3
      have HZ2 : Hid (T.data.toList.head? = some 48 → true = false ∧ T.data.toList.length = 1) := Lib.hid (fun h => by have := HZ.out h; cases this)
      clear hg0
      go_wp2
      clear z
      go_loopw [6, 7] (fun v6 v7 w' => ∃ (k : Nat) (n : Int), v6 = .int .i64 n ∧ v7 = .int .i64 (k : Int) ∧ k ≤ T.size ∧ 0 ≤ n ∧ n < 10000000000 ∧ Hid (DigInv T.data.toList k n) ∧ Hid (w' = w)) (fun _ v7 _ => T.size - (intOf v7).toNat)
      case atStart => exact ⟨0, 0, rfl, rfl, Nat.zero_le _, by omega, by omega, DigInv.start _, rfl⟩
      case round =>
        obtain ⟨k, n, rfl, rfl, hk, n0, n1, HD, HW⟩ := hrel
        obtain rfl := HW.out
        by_cases hkl : k < T.size
        · have hkt : k < T.data.toList.length := by rw [size_data]; exact hkl
          have hgk : T.data.toList[k]'hkt = T[k]'hkl := rfl
          cases hd : dig (T[k]'hkl)
          case false =>
            have HB := Lib.hid (refB_none_dig (below := true) (not_dig_none hkt hd))
            have hdc : ((T[k]'hkl).toNat : Int) < 48 ∨ (48 ≤ ((T[k]'hkl).toNat : Int) ∧ 57 < ((T[k]'hkl).toNat : Int)) := by
              unfold dig at hd
              have := of_decide_eq_false hd
              omega
            clear hd hgk
            rcases hdc with d1 | ⟨d1, d2⟩
            all_goals
              go_wp2
              go_ret2
              exact NPost.bad (HT.out.trans HB.out) (New.refl _)
          case true =>
            have hb := dig_bounds hd
            have hnx := HD.out.next hkt hd
            have d1 : (48 : Int) ≤ ((T[k]'hkl).toNat : Int) := by omega
            have d2 : ((T[k]'hkl).toNat : Int) ≤ 57 := by omega
            have hnb := hnx.bound (by omega)
            have HN := Lib.hid hnx
            rw [hgk] at HN hnb
            clear hd hgk hb hnx
            go_wp2
            go_roundw
            case rel => exact ⟨k + 1, n * 10 + (((T[k]'hkl).toNat : Int) - 48), by go_num, by go_num, by omega, by omega, by omega, HN.out, Lib.hid trivial⟩
            case measure => simp [intOf]; omega
        · obtain rfl : k = T.size := by omega
          have hall := HD.out
          unfold DigInv at hall
          rw [← size_data, List.take_length] at hall
          by_cases hbig : 1000000000 < n
          · have HB := Lib.hid (refB_none_big (below := true) (t := T.data.toList) (by omega))
            clear hall
            go_wp2
            go_ret2
            exact NPost.bad (HT.out.trans HB.out) (New.refl _)
          · have HB := Lib.hid (refB_some (below := true) (t := T.data.toList) (by rw [size_data]; omega) (by rw [size_data]; omega) hall.1 (fun h => ⟨by first | rfl | exact (HZ2.out h).1, (HZ2.out h).2⟩) (by omega))
            have HB2 : Hid (refN s.data.toList = some (-n)) := Lib.hid (by rw [HT.out, HB.out, ← hall.2]; rfl)
            have hbig2 : n ≤ 1000000000 := by omega
            clear hall hbig HB
            go_wp2
            go_ret2
            exact NPost.good HB2.out (New.refl _)

    · have hh2 : s.data.toList.head? ≠ some 45 := by
        rw [hh]
        intro h
        injection h with h
        exact hm (by rw [h]; rfl)
      have f0 : (((s[0]'hp).toNat : Int) == 45) = false := by rw [beq_eq_false_iff_ne]; omega
      obtain ⟨T, hT⟩ : ∃ T, T = s := ⟨_, rfl⟩
      have HT : Hid (refN s.data.toList = refB false T.data.toList) := Lib.hid (by rw [refN_plain hh2, hT])
      clear hh hh2 hm e0
      subst hT
      go_enter Tryd.func15, Tryd.ntmps15
      by_cases c1 : T.size < 1
      · have HB := Lib.hid (refB_none_len (below := false) (t := T.data.toList) (by rw [size_data]; omega))
        have c1i : (T.size : Int) < 1 := by omega
        go_wp2
        go_ret2
        exact NPost.bad (HT.out.trans HB.out) (New.refl _)
      by_cases c2 : 10 < T.size
      · have HB := Lib.hid (refB_none_long (below := false) (t := T.data.toList) (by rw [size_data]; omega))
        have c1i : (1 : Int) ≤ (T.size : Int) := by omega
        have c2i : (10 : Int) < (T.size : Int) := by omega
        go_wp2
        go_ret2
        exact NPost.bad (HT.out.trans HB.out) (New.refl _)
      have c1i : (1 : Int) ≤ (T.size : Int) := by omega
      have c2i : (T.size : Int) ≤ 10 := by omega
      have h0 : 0 < T.size := by omega
      have hg0 : T.data.toList[0]? = some (T[0]'h0) := by
        rw [List.getElem?_eq_getElem (by rw [size_data]; exact h0)]
        rfl
      by_cases c3 : (T[0]'h0).toNat = 48
      · have z : (((T[0]'h0).toNat : Int) == 48) = true := by rw [beq_iff_eq]; omega
        by_cases c4 : 1 < T.size
        · have HB := Lib.hid (refB_none_zero (below := false) (t := T.data.toList) (by rw [← List.head?_eq_getElem?] at hg0; rw [hg0]; exact congrArg some (UInt8.toNat_inj.1 c3)) (.inr (by rw [size_data]; exact c4)))
          have c4i : (1 : Int) < (T.size : Int) := by omega
          go_wp2
          go_ret2
          exact NPost.bad (HT.out.trans HB.out) (New.refl _)
        · have HZ2 : Hid (T.data.toList.head? = some 48 → false = false ∧ T.data.toList.length = 1) := Lib.hid (fun _ => ⟨rfl, by rw [size_data]; omega⟩)
          have c4i : (T.size : Int) ≤ 1 := by omega
          clear c3
          clear hg0
          go_wp2
          clear z
          go_loopw [6, 7] (fun v6 v7 w' => ∃ (k : Nat) (n : Int), v6 = .int .i64 n ∧ v7 = .int .i64 (k : Int) ∧ k ≤ T.size ∧ 0 ≤ n ∧ n < 10000000000 ∧ Hid (DigInv T.data.toList k n) ∧ Hid (w' = w)) (fun _ v7 _ => T.size - (intOf v7).toNat)
          case atStart => exact ⟨0, 0, rfl, rfl, Nat.zero_le _, by omega, by omega, DigInv.start _, rfl⟩
          case round =>
            obtain ⟨k, n, rfl, rfl, hk, n0, n1, HD, HW⟩ := hrel
            obtain rfl := HW.out
            by_cases hkl : k < T.size
            · have hkt : k < T.data.toList.length := by rw [size_data]; exact hkl
              have hgk : T.data.toList[k]'hkt = T[k]'hkl := rfl
              cases hd : dig (T[k]'hkl)
              case false =>
                have HB := Lib.hid (refB_none_dig (below := false) (not_dig_none hkt hd))
                have hdc : ((T[k]'hkl).toNat : Int) < 48 ∨ (48 ≤ ((T[k]'hkl).toNat : Int) ∧ 57 < ((T[k]'hkl).toNat : Int)) := by
                  unfold dig at hd
                  have := of_decide_eq_false hd
                  omega
                clear hd hgk
                rcases hdc with d1 | ⟨d1, d2⟩
                all_goals
                  go_wp2
                  go_ret2
                  exact NPost.bad (HT.out.trans HB.out) (New.refl _)
              case true =>
                have hb := dig_bounds hd
                have hnx := HD.out.next hkt hd
                have d1 : (48 : Int) ≤ ((T[k]'hkl).toNat : Int) := by omega
                have d2 : ((T[k]'hkl).toNat : Int) ≤ 57 := by omega
                have hnb := hnx.bound (by omega)
                have HN := Lib.hid hnx
                rw [hgk] at HN hnb
                clear hd hgk hb hnx
                go_wp2
                go_roundw
                case rel => exact ⟨k + 1, n * 10 + (((T[k]'hkl).toNat : Int) - 48), by go_num, by go_num, by omega, by omega, by omega, HN.out, Lib.hid trivial⟩
                case measure => simp [intOf]; omega
            · obtain rfl : k = T.size := by omega
              have hall := HD.out
              unfold DigInv at hall
              rw [← size_data, List.take_length] at hall
              by_cases hbig : 1000000000 < n
              · have HB := Lib.hid (refB_none_big (below := false) (t := T.data.toList) (by omega))
                clear hall
                go_wp2
                go_ret2
                exact NPost.bad (HT.out.trans HB.out) (New.refl _)
              · have HB := Lib.hid (refB_some (below := false) (t := T.data.toList) (by rw [size_data]; omega) (by rw [size_data]; omega) hall.1 (fun h => ⟨by first | rfl | exact (HZ2.out h).1, (HZ2.out h).2⟩) (by omega))
                have HB2 : Hid (refN T.data.toList = some (n)) := Lib.hid (by rw [HT.out, HB.out, ← hall.2]; rfl)
                have hbig2 : n ≤ 1000000000 := by omega
                clear hall hbig HB
                go_wp2
                go_ret2
                exact NPost.good HB2.out (New.refl _)

      have HZ2 : Hid (T.data.toList.head? = some 48 → false = false ∧ T.data.toList.length = 1) := Lib.hid (fun h => by
        rw [List.head?_eq_getElem?, hg0] at h
        injection h with h
        exact absurd (by rw [h]; rfl) c3)
      have z : (((T[0]'h0).toNat : Int) == 48) = false := by rw [beq_eq_false_iff_ne]; omega
      clear c3
      clear hg0
      go_wp2
      clear z
      go_loopw [6, 7] (fun v6 v7 w' => ∃ (k : Nat) (n : Int), v6 = .int .i64 n ∧ v7 = .int .i64 (k : Int) ∧ k ≤ T.size ∧ 0 ≤ n ∧ n < 10000000000 ∧ Hid (DigInv T.data.toList k n) ∧ Hid (w' = w)) (fun _ v7 _ => T.size - (intOf v7).toNat)
      case atStart => exact ⟨0, 0, rfl, rfl, Nat.zero_le _, by omega, by omega, DigInv.start _, rfl⟩
      case round =>
        obtain ⟨k, n, rfl, rfl, hk, n0, n1, HD, HW⟩ := hrel
        obtain rfl := HW.out
        by_cases hkl : k < T.size
        · have hkt : k < T.data.toList.length := by rw [size_data]; exact hkl
          have hgk : T.data.toList[k]'hkt = T[k]'hkl := rfl
          cases hd : dig (T[k]'hkl)
          case false =>
            have HB := Lib.hid (refB_none_dig (below := false) (not_dig_none hkt hd))
            have hdc : ((T[k]'hkl).toNat : Int) < 48 ∨ (48 ≤ ((T[k]'hkl).toNat : Int) ∧ 57 < ((T[k]'hkl).toNat : Int)) := by
              unfold dig at hd
              have := of_decide_eq_false hd
              omega
            clear hd hgk
            rcases hdc with d1 | ⟨d1, d2⟩
            all_goals
              go_wp2
              go_ret2
              exact NPost.bad (HT.out.trans HB.out) (New.refl _)
          case true =>
            have hb := dig_bounds hd
            have hnx := HD.out.next hkt hd
            have d1 : (48 : Int) ≤ ((T[k]'hkl).toNat : Int) := by omega
            have d2 : ((T[k]'hkl).toNat : Int) ≤ 57 := by omega
            have hnb := hnx.bound (by omega)
            have HN := Lib.hid hnx
            rw [hgk] at HN hnb
            clear hd hgk hb hnx
            go_wp2
            go_roundw
            case rel => exact ⟨k + 1, n * 10 + (((T[k]'hkl).toNat : Int) - 48), by go_num, by go_num, by omega, by omega, by omega, HN.out, Lib.hid trivial⟩
            case measure => simp [intOf]; omega
        · obtain rfl : k = T.size := by omega
          have hall := HD.out
          unfold DigInv at hall
          rw [← size_data, List.take_length] at hall
          by_cases hbig : 1000000000 < n
          · have HB := Lib.hid (refB_none_big (below := false) (t := T.data.toList) (by omega))
            clear hall
            go_wp2
            go_ret2
            exact NPost.bad (HT.out.trans HB.out) (New.refl _)
          · have HB := Lib.hid (refB_some (below := false) (t := T.data.toList) (by rw [size_data]; omega) (by rw [size_data]; omega) hall.1 (fun h => ⟨by first | rfl | exact (HZ2.out h).1, (HZ2.out h).2⟩) (by omega))
            have HB2 : Hid (refN T.data.toList = some (n)) := Lib.hid (by rw [HT.out, HB.out, ← hall.2]; rfl)
            have hbig2 : n ≤ 1000000000 := by omega
            clear hall hbig HB
            go_wp2
            go_ret2
            exact NPost.good HB2.out (New.refl _)

end Go.Proofs.YteopdmifgdcghaaDoor
