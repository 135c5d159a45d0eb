/- noonbelllaw06's heavy and same, walked. -/
import Derived.Test.YtnmmcnblepadlaaR2
namespace Go.Proofs.Ytnmmcnblepadlaa
set_option linter.unusedSimpArgs false
set_option linter.unusedVariables false
open Go.RowKit

/-- A record at an address. -/
def RecAt (w : World) (b o : Nat) (r : Rec) : Prop := ∃ u, b < w.heap.size ∧ w.cell? ⟨b, o, none⟩ = some (.int .i64 r.kind) ∧ w.cell? ⟨b, o + 1, none⟩ = some (.string r.who) ∧ w.cell? ⟨b, o + 2, none⟩ = some u ∧ w.cell? ⟨b, o + 3, none⟩ = some (.string r.text) ∧ SlE nE w u r.nums ∧ ∀ n ∈ r.nums, i64ok n
theorem RecAt.new {w w' : World} {b o : Nat} {r : Rec} (h : RecAt w b o r) (hn : New w w') : RecAt w' b o r := by
  obtain ⟨u, h0, h1, h2, h3, h4, h5, h6⟩ := h
  exact ⟨u, Nat.lt_of_lt_of_le h0 hn.le, hn.still h1, hn.still h2, hn.still h3, hn.still h4, h5.new hn, h6⟩
/-- A slice of records. -/
def SlR (w : World) (v : Value) (rs : List Rec) : Prop := ∃ A c, v = .slice A rs.length c ∧ rs.length ≤ c ∧ c ≤ maxLen ∧ ∀ i (h : i < rs.length), ∃ b o, A = some ⟨b, o, none⟩ ∧ RecAt w b (o + i * 4) rs[i]
theorem SlR.new {w w' : World} {v : Value} {rs : List Rec} (h : SlR w v rs) (hn : New w w') : SlR w' v rs := by
  obtain ⟨A, c, e, h1, h2, h3⟩ := h
  refine ⟨A, c, e, h1, h2, fun i hi => ?_⟩
  obtain ⟨b, o, e, hr⟩ := h3 i hi
  exact ⟨b, o, e, hr.new hn⟩
theorem SlR.form {w : World} {v : Value} {rs : List Rec} (h : SlR w v rs) : ∃ A c, v = .slice A rs.length c := by
  obtain ⟨A, c, e, _⟩ := h; exact ⟨A, c, e⟩

def small (r : Rec) : Prop := r.who.size ≤ 131072 ∧ r.text.size ≤ 131072 ∧ r.nums.length ≤ 131072
set_option maxHeartbeats 4000000 in
theorem heavy_c (rs : List Rec) (v : Value) (w : World) (h : SlR w v rs) :
    Calls Try.prog 9 #[v] w fun e w' => ∃ r : Bool, e = .returned (.bool r) ∧ (r = false → rs.length ≤ 131072 ∧ ∀ r ∈ rs, small r) ∧ New w w' := by
  obtain ⟨A, c, rfl, h1, h2, h3⟩ := h
  have H3 := Lib.hid h3
  clear h3
  obtain ⟨L, hL⟩ : ∃ L, L = rs.length := ⟨_, rfl⟩
  rw [← hL] at h1 ⊢
  have HL := Lib.hid hL
  clear hL
  unfold maxLen at h2
  go_enter Try.func9, Try.ntmps9
  go_wp2
  go_loopw [3, 4] (fun v3 v4 w' => ∃ (k S : Nat), v3 = .int .i64 (S : Int) ∧ v4 = .int .i64 (k : Int) ∧ k ≤ L ∧ L ≤ S ∧ S ≤ L + 3276800 ∧ Hid (S ≤ 131072 → ∀ i (h : i < rs.length), i < k → small rs[i]) ∧ ∃ q, w' = w.drewN q) (fun _ v4 _ => L - (intOf v4).toNat)
  case atStart => exact ⟨0, L, rfl, rfl, Nat.zero_le _, Nat.le_refl _, by omega, (fun _ i _ h => absurd h (Nat.not_lt_zero i) : L ≤ 131072 → ∀ i (h : i < rs.length), i < 0 → small rs[i]), 0, rfl⟩
  case round =>
    obtain ⟨k, S, rfl, rfl, hk, hLS, hS, HS, q, rfl⟩ := hrel
    by_cases hkn : k < L
    · by_cases hS2 : S ≤ 131072
      · have hkl : k < rs.length := by rw [← HL.out]; exact hkn
        obtain ⟨b, o, rfl, u, hb, hc0, hc1, hc2, hc3, hs, hoks⟩ := H3.out k hkl
        clear hoks
        obtain ⟨A', c', rfl⟩ := hs.form
        clear hs
        have hrel2 : S + (min rs[k].who.size 1048576 + min rs[k].text.size 1048576 + min rs[k].nums.length 1048576) ≤ 131072 → ∀ i (h : i < rs.length), i < k + 1 → small rs[i] := by
          intro h i hi hik
          by_cases e : i = k
          · subst e; unfold small; omega
          · exact HS.out hS2 i hi (by omega)
        have HR := Lib.hid hrel2
        clear hrel2
        generalize rs[k].who = x at *
        generalize rs[k].text = y at *
        generalize rs[k].nums.length = z at *
        rcases Nat.lt_or_ge x.size 1048576 with hx | hx <;> rcases Nat.lt_or_ge y.size 1048576 with hy | hy <;> rcases Nat.lt_or_ge z 1048576 with hz | hz
        all_goals
          obtain ⟨mx, hmx⟩ : ∃ m, m = min x.size 1048576 + min y.size 1048576 + min z 1048576 := ⟨_, rfl⟩
          have hml : mx ≤ 3145728 := by omega
          rw [← hmx] at HR
          have HM := Lib.hid hmx
          clear hmx
          go_wp2
          go_quiet (fail)
          go_wp2
          go_roundw
          case rel => exact ⟨k + 1, S + mx, by have := HM.out; go_num, by go_num, by omega, by omega, by omega, HR.out, _, rfl⟩
          case measure => simp [intOf]; omega
      · go_wp2
        go_ret
        exact ⟨true, rfl, fun h => absurd h (by decide), (New.refl w).drewN _⟩
    · obtain rfl : k = L := by omega
      have hfin : S ≤ 131072 → k ≤ 131072 ∧ ∀ r ∈ rs, small r := by
        intro h
        refine ⟨by omega, fun r hr => ?_⟩
        obtain ⟨i, hi, rfl⟩ := List.getElem_of_mem hr
        exact HS.out h i hi (by rw [HL.out]; exact hi)
      have HF := Lib.hid hfin
      clear hfin
      go_wp2
      go_ret
      exact ⟨_, rfl, fun h => HF.out (by simp at h; omega), (New.refl w).drewN _⟩

set_option maxRecDepth 100000 in
set_option maxHeartbeats 4000000 in
/-- Of two slices that read alike: true. -/
theorem same_c (rs : List Rec) (v v' : Value) (w : World) (h : SlR w v rs) (h' : SlR w v' rs) :
    Calls Try.prog 12 #[v, v'] w fun e w' => e = .returned (.bool true) ∧ New w w' := by
  obtain ⟨A, c, rfl, h1, h2, h3⟩ := h
  obtain ⟨A', c', rfl, h1', h2', h3'⟩ := h'
  have H3 := Lib.hid h3
  have H3' := Lib.hid h3'
  clear h3 h3'
  obtain ⟨L, hL⟩ : ∃ L, L = rs.length := ⟨_, rfl⟩
  rw [← hL] at h1 h1' ⊢
  have HL := Lib.hid hL
  clear hL
  unfold maxLen at h2 h2'
  go_enter Try.func12, Try.ntmps12
  go_wp2
  go_loopw [5] (fun v5 w' => ∃ (k : Nat), v5 = .int .i64 (k : Int) ∧ k ≤ L ∧ ∃ q, w' = w.drewN q) (fun v5 _ => L - (intOf v5).toNat)
  case atStart => exact ⟨0, rfl, Nat.zero_le _, 0, rfl⟩
  case round =>
    obtain ⟨k, rfl, hk, q, rfl⟩ := hrel
    by_cases hkn : k < L
    · have hkl : k < rs.length := by rw [← HL.out]; exact hkn
      obtain ⟨b, o, rfl, u, hb, hc0, hc1, hc2, hc3, hs, hoks⟩ := H3.out k hkl
      obtain ⟨b', o', rfl, u', hb', hc0', hc1', hc2', hc3', hs', hoks'⟩ := H3'.out k hkl
      obtain ⟨r, hr⟩ : ∃ r, r = rs[k] := ⟨_, rfl⟩
      rw [← hr] at hc0 hc1 hc3 hs hc0' hc1' hc3' hs'
      clear hoks hoks' hr
      obtain ⟨kind, who, nums, text⟩ := r
      simp only at hc0 hc1 hc3 hs hc0' hc1' hc3' hs'
      obtain ⟨B, d, rfl, g1, g2, g3⟩ := hs.open
      obtain ⟨B', d', rfl, g1', g2', g3'⟩ := hs'.open
      have G3 := Lib.hid g3
      have G3' := Lib.hid g3'
      clear g3 g3' hs hs'
      unfold maxLen at g2 g2'
      obtain ⟨M, hM⟩ : ∃ M, M = nums.length := ⟨_, rfl⟩
      rw [← hM] at hc2 hc2' g1 g1'
      have HM := Lib.hid hM
      clear hM
      go_wp2
      go_quiet (fail)
      go_wp2
      obtain ⟨q', hq'⟩ : ∃ q', q' = q := ⟨_, rfl⟩
      go_loopw [6] (fun v6 w' => ∃ (j : Nat), v6 = .int .i64 (j : Int) ∧ j ≤ M ∧ ∃ q, w' = w.drewN q) (fun v6 _ => M - (intOf v6).toNat)
      case atStart => exact ⟨0, rfl, Nat.zero_le _, _, World.drewN_drewN ..⟩
      case round =>
        obtain ⟨j, rfl, hj, q2, rfl⟩ := hrel
        by_cases hjn : j < M
        · obtain ⟨x, y, rfl, hx, hcx⟩ := G3.out j (by rw [← HM.out]; exact hjn)
          obtain ⟨x', y', rfl, hx', hcx'⟩ := G3'.out j (by rw [← HM.out]; exact hjn)
          unfold nE at hcx hcx'
          generalize nums[j]'(by rw [← HM.out]; exact hjn) = n at *
          go_wp2
          go_quiet (fail)
          go_wp2
          go_roundw
          case rel => exact ⟨j + 1, by go_num, by omega, _, rfl⟩
          case measure => simp [intOf]; omega
        · obtain rfl : j = M := by omega
          go_wp2
          go_roundw
          case rel => exact ⟨k + 1, by go_num, by omega, _, rfl⟩
          case measure => simp [intOf]; omega
    · obtain rfl : k = L := by omega
      go_wp2
      go_ret
      exact ⟨rfl, (New.refl w).drewN _⟩
end Go.Proofs.Ytnmmcnblepadlaa
