/- noonbellref06.number, walked. -/
import Derived.Test.YtnmmcnblepadlaaD5
namespace Go.Proofs.Ytnmmcnblepadlaa
set_option linter.unusedSimpArgs false
set_option linter.unusedVariables false
open Go.RowKit

/-- What the reference's reader of a number answers. -/
def RNum (L : List UInt8) (v : Int) (k : Nat) : Prop := i64ok v ∧ k ≤ L.length ∧ ∀ m tl, i64ok m → L = vb (zz m) ++ tl → v = m ∧ k = (vb (zz m)).length
def RRel (L : List UInt8) (V j : Nat) : Prop := ∀ m tl, i64ok m → L = vb (zz m) ++ tl → Mid (zz m) V j (L.drop j) tl
theorem RRel.start (L : List UInt8) : RRel L 0 0 := fun m tl _ e => by rw [List.drop_zero, e]; exact Mid.start _ _
theorem RRel.lo {L : List UInt8} {V j : Nat} (h : RRel L V j) (hj : j < L.length) (hc : hdN (L.drop j) < 128) (hV : V < 18446744073709551616) : RNum L (dz (nxt V (hdN (L.drop j)) j)) (j + 1) := by
  refine ⟨dz_ok (nxt_lt hV), by omega, fun m tl hm e => ?_⟩
  obtain ⟨h1, h2, h3⟩ := (h m tl hm e).lo (zz_lt hm) hc
  refine ⟨by rw [show nxt V (hdN (L.drop j)) j = zz m from h1, dz_zz], ?_⟩
  have e1 := congrArg List.length e
  have e2 := congrArg List.length h2
  rw [List.length_append] at e1
  rw [List.length_drop, List.length_drop] at e2
  omega
theorem RRel.hi {L : List UInt8} {V j : Nat} (h : RRel L V j) (hc : ¬ hdN (L.drop j) < 128) : RRel L (nxt V (hdN (L.drop j)) j) (j + 1) := by
  intro m tl hm e
  have := ((h m tl hm e).hi (zz_lt hm) hc).1
  rw [List.drop_drop] at this
  exact this
theorem RRel.none {L : List UInt8} {V j : Nat} (h : RRel L V j) (hx : L.length ≤ j ∨ 9 < j) : RNum L 0 0 := by
  refine ⟨by unfold i64ok; omega, Nat.zero_le _, fun m tl hm e => ?_⟩
  obtain ⟨z', h1, _, _, h2⟩ := h m tl hm e
  rcases hx with hx | hx
  · rw [List.drop_of_length_le hx] at h1
    have e1 := congrArg List.length h1
    rw [List.length_append, List.length_nil] at e1
    have := vb_pos z'
    omega
  · omega
theorem hd_at (s : ByteArray) (j : Nat) (h : j < s.size) : hdN (s.data.toList.drop j) = (s[j]).toNat := by
  unfold hdN
  have hl : j < s.data.toList.length := by rw [size_data]; exact h
  rw [List.drop_eq_getElem_cons hl]
  rfl
theorem nxt_word2 {V c j : Nat} (hV : V < 18446744073709551616) (hc : c < 256) :
    bits .or .u64 (V : Int) (IntKind.u64.wrap ((c : Int) % 128 * 2 ^ (7 * j))) = ((nxt V c j : Nat) : Int) := by
  have h1 : IntKind.u64.wrap (bits .and .i64 (c : Int) 127) = (c : Int) % 128 := by rw [and127 c hc, IntKind.wrap_u64]; omega
  rw [← h1]
  exact nxt_word hV hc
theorem wr1 {V : Nat} (h : V < 18446744073709551616) : wrap64 (IntKind.u64.wrap ((V : Int) / 2)) = ((V / 2 : Nat) : Int) := by
  rw [IntKind.wrap_u64]; unfold wrap64; omega
theorem wr2 {V : Nat} (h : V < 18446744073709551616) : wrap64 (wrap64 (-wrap64 (IntKind.u64.wrap ((V : Int) / 2))) - 1) = -((V / 2 : Nat) : Int) - 1 := by
  rw [wr1 h]; unfold wrap64; omega
set_option maxRecDepth 20000 in
set_option maxHeartbeats 4000000 in
theorem rnumber_c (s : ByteArray) (w : World) (hs : s.size ≤ 1000000) :
    Calls Try.prog 21 #[.string s] w fun e w' => ∃ v k, e = .returned (.tuple #[.int .i64 v, .int .i64 (k : Nat)]) ∧ RNum s.data.toList v k ∧ w = w' := by
  go_enter Try.func21, Try.ntmps21
  go_wp2
  go_loop [4, 5] (fun v4 v5 => ∃ (j V : Nat), v5 = .int .i64 (j : Int) ∧ v4 = .int .u64 (V : Int) ∧ j ≤ 10 ∧ j ≤ s.size ∧ Hid (V < 18446744073709551616) ∧ Hid (RRel s.data.toList V j)) (fun _ v5 => 100 - (intOf v5).toNat)
  case atStart => exact ⟨0, 0, rfl, rfl, by omega, by omega, (by omega : 0 < 18446744073709551616), RRel.start _⟩
  case round =>
    obtain ⟨j, V, rfl, rfl, hj, hjs, hV, HR⟩ := hrel
    by_cases hjn : j < s.size
    · by_cases hj9 : j ≤ 9
      · have hc := hdN_lt (s.data.toList.drop j)
        have hw := nxt_word2 (j := j) hV.out hc
        have hlt := nxt_lt (c := hdN (s.data.toList.drop j)) (j := j) hV.out
        have HLO := fun h => Lib.hid (HR.out.lo (by rw [size_data]; exact hjn) h hV.out)
        have HHI := fun h => Lib.hid (HR.out.hi h)
        generalize nxt V (hdN (s.data.toList.drop j)) j = V' at *
        rw [hd_at s j hjn] at hc hw HLO HHI
        have HLT := Lib.hid hlt
        clear hlt
        by_cases hc8 : (s[j]).toNat < 128
        · have HL := HLO hc8
          clear HLO HHI
          by_cases h2 : V' % 2 = 0
          · have hdz : dz V' = ((V' / 2 : Nat) : Int) := by unfold dz; rw [if_pos h2]
            rw [hdz] at HL
            clear hdz
            go_wp2
            go_ret2
            exact ⟨_, j + 1, by rw [wr1 HLT.out]; rfl, HL.out, rfl⟩
          · have hdz : dz V' = -((V' / 2 : Nat) : Int) - 1 := by unfold dz; rw [if_neg h2]
            rw [hdz] at HL
            clear hdz
            go_wp2
            go_ret2
            exact ⟨_, j + 1, by rw [wr2 HLT.out]; rfl, HL.out, rfl⟩
        · have HH := HHI hc8
          clear HLO HHI
          go_wp2
          go_round
          case rel => exact ⟨j + 1, V', by go_num, rfl, by omega, by omega, HLT.out, HH.out⟩
          case measure => simp [intOf]; omega
      · have HP := Lib.hid (HR.out.none (.inr (by omega)))
        go_wp2
        go_ret2
        exact ⟨0, 0, rfl, HP.out, rfl⟩
    · have HP := Lib.hid (HR.out.none (.inl (by rw [size_data]; omega)))
      go_wp2
      go_ret2
      exact ⟨0, 0, rfl, HP.out, rfl⟩
end Go.Proofs.Ytnmmcnblepadlaa
