/- The closure of record.first that reads a number, walked. -/
import Derived.Test.YtnmmcnblepadlaaD1
import Derived.Test.YtnmmcnblepadlaaD0
namespace Go.Proofs.Ytnmmcnblepadlaa
set_option linter.unusedSimpArgs false
set_option linter.unusedVariables false
open Go.RowKit

/-- What a reader of a number does: some number; of the bytes of m, it is m, and all is well if it was. -/
def NumPost (L : List UInt8) (ok : Bool) (v : Int) (L' : List UInt8) (ok' : Bool) : Prop :=
  i64ok v ∧ L'.length ≤ L.length ∧ (ok = true → ∀ m tl, i64ok m → L = vb (zz m) ++ tl → v = m ∧ L' = tl ∧ ok' = true)
def NumRel (L : List UInt8) (ok : Bool) (V j : Nat) (M : List UInt8) (okj : Bool) : Prop :=
  M.length ≤ L.length ∧ (ok = true → ∀ m tl, i64ok m → L = vb (zz m) ++ tl → okj = true ∧ Mid (zz m) V j M tl)
def NumOut (L : List UInt8) (ok : Bool) (pr po : Nat) (w : World) (e : Ending) (w' : World) : Prop :=
  ∃ v L' ok', e = .returned (.int .i64 v) ∧ NumPost L ok v L' ok' ∧ St w' pr po L' ok' ∧ But (Two pr po) w w'
theorem NumRel.start (L : List UInt8) (ok : Bool) : NumRel L ok 0 0 L ok := ⟨Nat.le_refl _, fun ho m tl _ e => ⟨ho, by rw [e]; exact Mid.start _ _⟩⟩
theorem NumRel.lo {L : List UInt8} {ok : Bool} {V j : Nat} {M : List UInt8} (h : NumRel L ok V j M true) (hc : hdN M < 128) (hV : V < 18446744073709551616) : NumPost L ok (dz (nxt V (hdN M) j)) (M.drop 1) (tkL M true 1) := by
  refine ⟨dz_ok (nxt_lt hV), by rw [List.length_drop]; have := h.1; omega, fun ho m tl hm e => ?_⟩
  obtain ⟨h1, h2, h3⟩ := (h.2 ho m tl hm e).2.lo (zz_lt hm) hc
  refine ⟨by rw [show nxt V (hdN M) j = zz m from h1, dz_zz], h2, ?_⟩
  unfold tkL
  have := List.length_pos_iff.2 h3
  simp; omega
theorem NumRel.hi {L : List UInt8} {ok : Bool} {V j : Nat} {M : List UInt8} (h : NumRel L ok V j M true) (hc : ¬ hdN M < 128) : NumRel L ok (nxt V (hdN M) j) (j + 1) (M.drop 1) (tkL M true 1) := by
  refine ⟨by rw [List.length_drop]; have := h.1; omega, fun ho m tl hm e => ?_⟩
  obtain ⟨h1, h3⟩ := (h.2 ho m tl hm e).2.hi (zz_lt hm) hc
  refine ⟨?_, h1⟩
  unfold tkL
  have := List.length_pos_iff.2 h3
  simp; omega
theorem NumRel.none {L : List UInt8} {ok : Bool} {V j : Nat} {M : List UInt8} {okj : Bool} (h : NumRel L ok V j M okj) (hx : okj = false ∨ 9 < j) : NumPost L ok 0 M false := by
  refine ⟨by unfold i64ok; omega, h.1, fun ho m tl hm e => ?_⟩
  obtain ⟨h1, z', _, _, _, h2⟩ := h.2 ho m tl hm e
  rcases hx with hx | hx
  · rw [hx] at h1; cases h1
  · omega

set_option maxRecDepth 20000 in
set_option maxHeartbeats 2000000 in
theorem number_c (L : List UInt8) (ok : Bool) (pr po p6 p7 : Nat) (w : World) (h : St w pr po L ok) (h6 : TakeB w pr po p6) (h7 : GetB w p6 p7) :
    Calls Try.prog 20 #[.pointer (some ⟨po, 0, none⟩), .pointer (some ⟨p7, 0, none⟩)] w (NumOut L ok pr po w) := by
  have H := Lib.hid h
  have H6 := Lib.hid h6
  have H7 := Lib.hid h7
  have hn6 : p6 ≠ pr ∧ p6 ≠ po := ⟨Box.ne h6 h.r (by decide), Box.ne h6 h.o (by decide)⟩
  have hn7 : p7 ≠ pr ∧ p7 ≠ po := ⟨Box.ne h7 h.r (by decide), Box.ne h7 h.o (by decide)⟩
  have HN6 := Lib.hid hn6
  have HN7 := Lib.hid hn7
  clear hn6 hn7 h h6 h7
  go_enter Try.func20, Try.ntmps20
  go_wp2
  go_loopw [3, 4] (fun v3 v4 w' => ∃ (j V : Nat) (M : List UInt8) (okj : Bool), v4 = .int .u64 (7 * (j : Int)) ∧ v3 = .int .u64 (V : Int) ∧ j ≤ 10 ∧ Hid (V < 18446744073709551616) ∧ Hid (NumRel L ok V j M okj) ∧ Hid (St w' pr po M okj) ∧ Hid (But (Two pr po) w w')) (fun _ v4 _ => 100 - (intOf v4).toNat)
  case atStart => exact ⟨0, 0, L, ok, rfl, rfl, by omega, (by omega : 0 < 18446744073709551616), NumRel.start L ok, H.out, But.refl _ _⟩
  case round =>
    obtain ⟨j, V, M, okj, rfl, rfl, hj, hV, HR, HS, HB⟩ := hrel
    have ck := HS.out.o.cell 0
    have fk := HS.out.o.frozen 0
    simp at ck
    by_cases hj9 : j ≤ 9
    · cases okj with
      | true =>
        have c7 : wr.cell? ⟨p7, 0, none⟩ = some (.func (.func 19) #[] #[.pointer (some ⟨p6, 0, none⟩)]) := HB.out.cell (by have := HN7.out; unfold Two; omega) (Box.cell H7.out 0)
        have h6' : TakeB wr pr po p6 := HB.out.box H6.out (by have := HN6.out; unfold Two; omega)
        have HG := Lib.hid (get_c M true pr po p6 wr HS.out h6')
        clear h6'
        go_wp2_with fail
        refine HG.out.mono ?_
        rintro e w1 ⟨rfl, hst, hb⟩
        have hc := hdN_lt M
        have hw := nxt_word (j := j) hV.out hc
        have hd := dz_word (nxt_lt (c := hdN M) (j := j) hV.out)
        have hlt := nxt_lt (c := hdN M) (j := j) hV.out
        have HLO := fun h => Lib.hid (HR.out.lo h hV.out)
        have HHI := fun h => Lib.hid (HR.out.hi h)
        generalize nxt V (hdN M) j = V' at *
        generalize hdN M = c at *
        have HST := Lib.hid hst
        have HB1 := Lib.hid (HB.out.trans hb)
        have HLT := Lib.hid hlt
        clear hst hb ck hlt
        by_cases hc8 : c < 128
        · have HL := HLO hc8
          clear HLO HHI
          go_wp2
          go_ret
          exact ⟨_, _, _, rfl, HL.out, HST.out, HB1.out⟩
        · have HH := HHI hc8
          clear HLO HHI
          go_wp2
          go_roundw
          case rel => exact ⟨j + 1, V', M.drop 1, _, by go_num, rfl, by omega, HLT.out, HH.out, HST.out, HB1.out⟩
          case measure => simp [intOf]; omega
      | false =>
        have HP := Lib.hid (HR.out.none (.inl rfl))
        go_wp2
        go_ret
        exact ⟨0, M, false, rfl, HP.out, HS.out.setO false, HB.out.set (.inr rfl) _⟩
    · have HP := Lib.hid (HR.out.none (.inr (by omega)))
      cases okj <;>
        (go_wp2
         go_ret
         exact ⟨0, M, false, rfl, HP.out, HS.out.setO false, HB.out.set (.inr rfl) _⟩)
end Go.Proofs.Ytnmmcnblepadlaa
