/- Which grids may be: the program's Check, walked. -/
import Derived.Test.YtpgloooebaklmaaG2
import Derived.Laws.EntriesVeiled
namespace Go.Proofs.Ytpgloooebaklmaa
set_option linter.unusedSimpArgs false
set_option linter.unusedVariables false
open Go.RowKit
section
variable {w w' : World} {g : Grd} {v : Value}
def lineV (l : Lin) : Value := .agg #[.int .i64 l.fr, .int .i64 l.to', .int .i64 l.cap]
set_option maxRecDepth 1000000 in
set_option maxHeartbeats 2000000 in
theorem odd_c (z : Int) (z0 : 1 ≤ z) (z1 : z ≤ 3) (l : Lin) (bx : Nat) (w : World) (hc : w.cell? ⟨bx, 0, none⟩ = some (.int .i64 z)) :
    Calls Try.prog 9 #[lineV l, .pointer (some ⟨bx, 0, none⟩)] w fun e w' => e = .returned (.bool (!linOk z l)) ∧ New w w' := by
  have hways := lin_ways z l
  obtain ⟨fr, to', cap⟩ := l
  simp only at hways
  unfold lineV
  simp only
  obtain ⟨OK, hOK⟩ : ∃ x, x = linOk z ⟨fr, to', cap⟩ := ⟨_, rfl⟩
  rw [← hOK] at hways ⊢
  clear hOK
  have HF := Lib.hid (fun W => fits_c fr 0 (z - 1) W)
  have HT := Lib.hid (fun W => fits_c to' 0 (z - 1) W)
  have HC := Lib.hid (fun W => fits_c cap 0 1000 W)
  have ca : ∀ x, (w.alloc x).cell? ⟨bx, 0, none⟩ = some (.int .i64 z) := fun x => ((New.refl w).alloc x).still hc
  rcases hways with ⟨a1, rfl⟩ | ⟨a1, a2, rfl⟩ | ⟨a1, a2, a3, rfl⟩ | ⟨a1, a2, a3, a4, rfl⟩ | ⟨a1, a2, a3, a4, rfl⟩
  · skip
    rw [a1] at HF
    go_enter Try.func9, Try.ntmps9
    go_wp2_with fail
    refine (HF.out _).mono ?_
    rintro e w3 ⟨rfl, rfl⟩
    go_wp2
    go_ret
    exact ⟨rfl, (New.refl _).alloc _⟩
  · skip
    rw [a1] at HF
    rw [a2] at HT
    go_enter Try.func9, Try.ntmps9
    go_wp2_with fail
    refine (HF.out _).mono ?_
    rintro e w3 ⟨rfl, rfl⟩
    go_wp2_with fail
    refine (HT.out _).mono ?_
    rintro e w3 ⟨rfl, rfl⟩
    go_wp2
    go_ret
    exact ⟨rfl, (New.refl _).alloc _⟩
  · skip
    rw [a1] at HF
    rw [a2] at HT
    go_enter Try.func9, Try.ntmps9
    go_wp2_with fail
    refine (HF.out _).mono ?_
    rintro e w3 ⟨rfl, rfl⟩
    go_wp2_with fail
    refine (HT.out _).mono ?_
    rintro e w3 ⟨rfl, rfl⟩
    go_wp2
    go_ret
    exact ⟨rfl, (New.refl _).alloc _⟩
  · skip
    rw [a1] at HF
    rw [a2] at HT
    rw [a4] at HC
    go_enter Try.func9, Try.ntmps9
    go_wp2_with fail
    refine (HF.out _).mono ?_
    rintro e w3 ⟨rfl, rfl⟩
    go_wp2_with fail
    refine (HT.out _).mono ?_
    rintro e w3 ⟨rfl, rfl⟩
    go_wp2_with fail
    refine (HC.out _).mono ?_
    rintro e w3 ⟨rfl, rfl⟩
    go_wp2
    go_ret
    exact ⟨rfl, (New.refl _).alloc _⟩
  · skip
    rw [a1] at HF
    rw [a2] at HT
    rw [a4] at HC
    go_enter Try.func9, Try.ntmps9
    go_wp2_with fail
    refine (HF.out _).mono ?_
    rintro e w3 ⟨rfl, rfl⟩
    go_wp2_with fail
    refine (HT.out _).mono ?_
    rintro e w3 ⟨rfl, rfl⟩
    go_wp2_with fail
    refine (HC.out _).mono ?_
    rintro e w3 ⟨rfl, rfl⟩
    go_wp2
    go_ret
    exact ⟨rfl, (New.refl _).alloc _⟩
/-- What the search leaves. -/
def IxPost (b : Bool) (w : World) (e : Ending) (w' : World) : Prop := ∃ x : Int, e = .returned (.int .i64 x) ∧ ((0 ≤ x ∧ b = true) ∨ (x = -1 ∧ b = false)) ∧ New w w'
set_option maxRecDepth 1000000 in
set_option maxHeartbeats 2000000 in
theorem index_c (z : Int) (z0 : 1 ≤ z) (z1 : z ≤ 3) (ls : List Lin) (v : Value) (bx : Nat) (w : World) (h : SlLin w v ls) (hc : w.cell? ⟨bx, 0, none⟩ = some (.int .i64 z)) :
    Calls Try.prog 12 #[v, .func (.func 9) #[] #[.pointer (some ⟨bx, 0, none⟩)]] w (IxPost (!ls.all (linOk z)) w) := by
  obtain ⟨A, c, rfl, h1, h2, h3⟩ := h
  have hl : (ls.length : Int) ≤ 9223372036854775807 := by unfold maxLen at h2; omega
  have HL3 := Lib.hid h3
  have HO := Lib.hid (fun l W hW => odd_c z z0 z1 l bx W hW)
  have HCC := Lib.hid hc
  clear h3
  obtain ⟨B, hB⟩ : ∃ x, x = (!ls.all (linOk z)) := ⟨_, rfl⟩
  have HB := Lib.hid hB
  rw [← hB]
  clear hB
  go_enter Try.func12, Try.ntmps12
  go_wp2
  go_loopw [8] (fun v8 w' => ∃ (k : Nat), v8 = .int .i64 (k : Int) ∧ k ≤ ls.length ∧ Hid (Upto z ls k) ∧ Hid (New w w')) (fun v8 _ => ls.length - (intOf v8).toNat)
  case atStart => exact ⟨0, rfl, Nat.zero_le _, rfl, New.refl _⟩
  case round =>
    obtain ⟨k, rfl, hk, HU, HN⟩ := hrel
    by_cases hkl : k < ls.length
    · obtain ⟨b, o, rfl, hlt, e0, e1, e2, i0, i1, i2⟩ := HL3.out k hkl
      have t0 := HN.out.still e0
      have t1 := HN.out.still e1
      have t2 := HN.out.still e2
      have HC := Lib.hid (HO.out ls[k] wr (HN.out.still hc))
      have HNX := Lib.hid (fun h => HU.out.next hkl h)
      have HBK := Lib.hid (fun h => all_bad (z := z) hkl h)
      unfold lineV at HC
      obtain ⟨OK, hOK⟩ : ∃ x, x = linOk z ls[k] := ⟨_, rfl⟩
      rw [← hOK] at HC HNX HBK
      clear hOK
      generalize ls[k] = ln at *
      obtain ⟨fr, to', cap⟩ := ln
      simp only at t0 t1 t2 HC
      clear e0 e1 e2 hlt i0 i1 i2
      cases OK
      case false =>
        have HE : Hid (B = true) := Lib.hid (by rw [HB.out, HBK.out rfl]; rfl)
        go_wp2_with fail
        refine HC.out.mono ?_
        rintro e w3 ⟨rfl, hn⟩
        have HN3 := Lib.hid (HN.out.trans hn)
        clear hn
        go_wp2
        go_ret
        exact ⟨_, rfl, .inl ⟨by omega, HE.out⟩, HN3.out⟩
      case true =>
        have HU2 := Lib.hid (HNX.out rfl)
        go_wp2_with fail
        refine HC.out.mono ?_
        rintro e w3 ⟨rfl, hn⟩
        have HN3 := Lib.hid (HN.out.trans hn)
        clear hn
        go_wp2
        go_roundw
        case rel => exact ⟨k + 1, by go_num, by omega, HU2.out, HN3.out⟩
        case measure => simp [intOf]; omega
    · obtain rfl : k = ls.length := by omega
      have HE : Hid (B = false) := Lib.hid (by
        have := HU.out
        unfold Upto at this
        rw [List.take_length] at this
        rw [HB.out, this]
        rfl)
      go_wp2
      go_ret
      exact ⟨_, rfl, .inr ⟨rfl, HE.out⟩, HN.out⟩
theorem contains_c (z : Int) (z0 : 1 ≤ z) (z1 : z ≤ 3) (ls : List Lin) (v : Value) (bx : Nat) (w : World) (h : SlLin w v ls) (hc : w.cell? ⟨bx, 0, none⟩ = some (.int .i64 z)) :
    Calls Try.prog 11 #[v, .func (.func 9) #[] #[.pointer (some ⟨bx, 0, none⟩)]] w fun e w' => e = .returned (.bool (!ls.all (linOk z))) ∧ New w w' := by
  have HI := Lib.hid (index_c z z0 z1 ls v bx w h hc)
  obtain ⟨A, c, rfl, _⟩ := h
  generalize (!ls.all (linOk z)) = B at *
  clear hc
  go_enter Try.func11, Try.ntmps11
  go_wp2_with fail
  refine HI.out.mono ?_
  rintro e w1 ⟨x, rfl, hx, hn⟩
  have HN := Lib.hid hn
  clear hn HI
  rcases hx with ⟨hx, rfl⟩ | ⟨rfl, rfl⟩
  · go_wp2
    go_ret
    exact ⟨ret_bool (by first | rfl | (simp; omega)), HN.out⟩
  · go_wp2
    go_ret
    exact ⟨rfl, HN.out⟩
end
end Go.Proofs.Ytpgloooebaklmaa
