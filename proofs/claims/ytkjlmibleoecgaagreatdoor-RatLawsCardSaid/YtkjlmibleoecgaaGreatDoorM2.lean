/- law02: long. -/
import Derived.Test.YtkjlmibleoecgaaGreatDoorqNat8
import Derived.Test.YtkjlmibleoecgaaGreatDoorqRef2
import Derived.Lib.ItoaMem
import Derived.Lib.AppendIntMem
import Derived.Test.YtkjlmibleoecgaaGreatDoorM0
import Derived.Lib.LazyBuf
import Derived.Lib.Repeat
import Derived.Test.YtkjlmibleoecgaaGreatDoorM1
import Derived.Deep.RegionHeld3
import Derived.RegionTactic
import Derived.BigRegion
import Derived.Deep.RegionLaw
namespace Go.Proofs.YtkjlmibleoecgaaGreatDoor
set_option linter.unusedSimpArgs false
set_option linter.unusedVariables false
open Go.RowKit
set_option maxHeartbeats 1000000 in
theorem long_n (xs : List ByteArray) (b n c : Nat) (w : World) (hn : xs.length = n) (hc : ∀ i (h : i < xs.length), w.cell? ⟨b, i, none⟩ = some (.string xs[i])) (hb : b < w.heap.size) (hl : n ≤ 100) (hcl : n ≤ c) :
    Calls Tryz.prog 24 #[.slice (some ⟨b, 0, none⟩) n c] w fun e w' => ∃ r : Bool, e = .returned (.bool r) ∧ (r = false → ∀ s ∈ xs, s.size ≤ 512) ∧ New w w' := by
  have HC := Lib.hid hc
  clear hc
  have HN := Lib.hid hn
  clear hn
  go_enter Tryz.func24, Tryz.ntmps24
  go_wp2
  go_loopw [3, 4] (fun v3 v4 w' => ∃ (k S : Nat), v3 = .int .i64 (S : Int) ∧ v4 = .int .i64 (k : Int) ∧ k ≤ n ∧ S ≤ 100 + k * 1048576 ∧ Hid (S ≤ 512 → ∀ i (h : i < xs.length), i < k → (xs[i]).size ≤ 512) ∧ ∃ q, w' = w.drewN q) (fun _ v4 _ => n - (intOf v4).toNat)
  case atStart => exact ⟨0, n, rfl, rfl, Nat.zero_le _, by omega, (fun _ i _ h => absurd h (Nat.not_lt_zero i) : n ≤ 512 → ∀ i (h : i < xs.length), i < 0 → (xs[i]).size ≤ 512), 0, rfl⟩
  case round =>
    obtain ⟨k, S, rfl, rfl, hk, hS, HS, q, rfl⟩ := hrel
    by_cases hkn : k < n
    · by_cases hS2 : S ≤ 512
      · have hkl : k < xs.length := by rw [HN.out]; exact hkn
        have hcell := HC.out k hkl
        have hrel2 : S + min (xs[k]'hkl).size 1048576 ≤ 512 → ∀ i (h : i < xs.length), i < k + 1 → (xs[i]).size ≤ 512 := by
          intro h i hi hik
          by_cases e : i = k
          · subst e; omega
          · exact HS.out hS2 i hi (by omega)
        have HR := Lib.hid hrel2
        clear hrel2
        generalize xs[k]'hkl = x at *
        rcases Nat.lt_or_ge x.size 1048576 with hx | hx
        · have hm : min x.size 1048576 = x.size := by omega
          rw [hm] at HR
          clear hm
          go_wp2
          go_roundw
          case rel => exact ⟨k + 1, S + x.size, by go_num, by go_num, by omega, by omega, HR.out, _, rfl⟩
          case measure => simp [intOf]; omega
        · have hm : min x.size 1048576 = 1048576 := by omega
          rw [hm] at HR
          clear hm
          go_wp2
          go_roundw
          case rel => exact ⟨k + 1, S + 1048576, by go_num, by go_num, by omega, by omega, HR.out, _, rfl⟩
          case measure => simp [intOf]; omega
      · go_wp2
        go_ret
        exact ⟨true, rfl, fun h => absurd h (by decide), (New.refl w).drewN _⟩
    · obtain rfl : k = n := by omega
      have hfin : S ≤ 512 → ∀ s ∈ xs, s.size ≤ 512 := by
        intro h s hs
        obtain ⟨i, hi, rfl⟩ := List.getElem_of_mem hs
        exact HS.out h i hi (by rw [HN.out] at hi; exact hi)
      have HF := Lib.hid hfin
      clear hfin
      go_wp2
      go_ret
      refine ⟨_, rfl, fun h => HF.out (by simp at h; omega), (New.refl w).drewN _⟩

end Go.Proofs.YtkjlmibleoecgaaGreatDoor
/- Decimal texts of numbers: strconv.FormatUint at base 10. -/
namespace Go.Proofs.YtkjlmibleoecgaaGreatDoor
open Go.RowKit Go.Sort

/-- A listed table outlives what is new. -/
theorem tabIs_new {P : Program} {w w' : World} (hn : New w w') {name : String} {k : IntKind} {zs : List Int} (h : Lib.TabIs P w name k zs) : Lib.TabIs P w' name k zs := by
  unfold Lib.TabIs World.var? at *
  cases hg : P.globalNamed name with
  | none => simp [hg] at h
  | some g =>
    simp only [hg, Option.bind_some] at h ⊢
    have hlt : g < w.heap.size := by
      rcases Nat.lt_or_ge g w.heap.size with h' | h'
      · exact h'
      · rw [Array.getElem?_eq_none h'] at h; simp at h
    rw [Below.block hn g hlt]
    exact h
theorem new_grow (w : World) (k : Nat) (os : Array Obj) : New w (Sort.grow (w.drewN k) os) := Lib.below_grow w.heap.size w (Nat.le_refl _) k os

set_option maxHeartbeats 3000000 in
set_option maxRecDepth 100000 in
theorem fmt_in (u : Nat) (hu64 : u < 18446744073709551616) (w : World) (htab : Lib.TabIs Tryz.prog w "internal/strconv.uint64pow10" .u64 Lib.pow10Tab) :
    Calls Tryz.prog 108 #[.int .u64 u, .int .i64 10] w fun e w' => e = .returned (.string ⟨(Lib.decDigits u).toArray⟩) ∧ New w w' := by
  have e1 : ∀ args w, (callFunc 128 args).run Tryz.prog w = .ok (.enter 128 args) w := enters_of Tryz.func128 (by kernel_rfl) rfl
  have e2 : ∀ args w, (callFunc 129 args).run Tryz.prog w = .ok (.enter 129 args) w := enters_of Tryz.func129 (by kernel_rfl) rfl
  have e3 : ∀ args w, (callFunc 130 args).run Tryz.prog w = .ok (.enter 130 args) w := enters_of Tryz.func130 (by kernel_rfl) rfl
  by_cases hs : u < 100
  · go_enter Tryz.func108, Tryz.ntmps108
    go_wp2_with (go_at_fn 128; refine (Tryz.internal_strconv_small u hs _).mono ?_; rintro e w' ⟨rfl, rfl⟩)
    go_ret
    exact ⟨rfl, New.refl _⟩
  · have hu1 : 1 ≤ u := by omega
    have hnd20 : Lib.nDigits u ≤ 20 := by have := Lib.numDigits_eq u hu1 hu64; split at this <;> omega
    have hal : Tryz.prog.arrayLen 153 = 24 := by simp [Program.arrayLen, Tryz.underlying153]
    have hsl : ∀ W, (Instr.sliceAt 153 (.pointer (some ⟨w.heap.size, 0, none⟩)) none (some (.int .i64 (Lib.nDigits u : Int))) none).run Tryz.prog W = .ok (.slice (some ⟨w.heap.size, 0, none⟩) (Lib.nDigits u) 24) W := fun W => by
      rw [run_sliceAt_array_h W 153 ⟨w.heap.size, 0, none⟩ (by simp [Program.arrayLen, Program.elem, Tryz.underlying153]) .i64 (Lib.nDigits u : Int) (by omega) (by rw [hal]; omega)]
      go_simp
    have hH0 := Lib.holds_zero0 w 153 (Lib.nDigits u) (by omega)
    have hfmt := Tryz.internal_strconv_formatBase10 w.heap.size 0 24 u (Array.replicate (Lib.nDigits u) 0) (w.alloc (.cells Lib.zeros24 153)) hH0 (by rw [Array.size_replicate]; exact Lib.lt_pow_nDigits u) hu64 (by rw [Array.size_replicate]; omega)
    rw [Array.size_replicate] at hfmt
    have HH0 := Lib.hid hH0
    have iu : (100 : Int) ≤ (u : Int) := by omega
    clear hH0 hal
    go_enter Tryz.func108, Tryz.ntmps108
    go_wp2_with (go_at_fn 129; refine (Tryz.internal_strconv_numDigits u hu1 hu64 _ (Lib.tabIs_alloc htab _)).mono ?_; rintro e w' ⟨rfl, rfl⟩)
    go_at_fn 130
    refine hfmt.mono ?_
    rintro e w' ⟨rfl, k, v', dk, rfl, hF⟩
    have hcv : (convert 111 9 (.slice (some ⟨w.heap.size, 0, none⟩) (Lib.nDigits u) 24)).run Tryz.prog ((putRow (fun (b : UInt8) => Value.int .u8 (b.toNat : Int)) (w.alloc (.cells Lib.zeros24 153)) w.heap.size 0 dk).drewN k) = .ok (.string ⟨(Lib.decDigits u).toArray⟩) ((putRow (fun (b : UInt8) => Value.int .u8 (b.toNat : Int)) (w.alloc (.cells Lib.zeros24 153)) w.heap.size 0 dk).drewN k) := by
      have h := run_convert_bytes_back (P := Tryz.prog) ((putRow (fun (b : UInt8) => Value.int .u8 (b.toNat : Int)) (w.alloc (.cells Lib.zeros24 153)) w.heap.size 0 dk).drewN k) 111 9 5 ⟨w.heap.size, 0, none⟩ 24 (Lib.decDigits u) Tryz.underlying111 Tryz.underlying5 Tryz.underlying9 (fun j hj => by
        rw [Lib.row_is_numeral hF j hj, Lib.add_plain, World.cell?_drewN]
        exact cell?_putRow (fun (b : UInt8) => Value.int .u8 (b.toNat : Int)) _ w.heap.size 0 _ dk HH0.out (by rw [hF.size, Array.size_replicate]) j (by rw [hF.size]; rw [Lib.decDigits_length] at hj; exact hj))
      rw [Lib.decDigits_length] at h
      exact h
    go_wp2
    go_ret
    obtain ⟨os, eo⟩ := Lib.fin_at w (.cells Lib.zeros24 153) dk k 0
    exact ⟨rfl, by rw [eo]; exact new_grow w k os⟩
theorem fmt_c (u : Nat) (hu64 : u < 18446744073709551616) (w : World) (htab : Lib.TabIs Tryz.prog w "internal/strconv.uint64pow10" .u64 Lib.pow10Tab) :
    Calls Tryz.prog 81 #[.int .u64 u, .int .i64 10] w fun e w' => e = .returned (.string ⟨(Lib.decDigits u).toArray⟩) ∧ New w w' := by
  have e1 : ∀ args w, (callFunc 108 args).run Tryz.prog w = .ok (.enter 108 args) w := enters_of Tryz.func108 (by kernel_rfl) rfl
  go_enter Tryz.func81, Tryz.ntmps81
  go_wp2_with (go_at_fn 108; refine (fmt_in u hu64 _ htab).mono ?_; rintro e w' ⟨rfl, hn⟩)
  go_ret
  exact ⟨rfl, hn⟩
end Go.Proofs.YtkjlmibleoecgaaGreatDoor
/- The program's nat, part 11: Text. -/
namespace Go.Proofs.YtkjlmibleoecgaaGreatDoor
open Go.RowKit
open Go.Lib (decDigits)
set_option linter.unusedSimpArgs false
set_option linter.unusedVariables false
set_option exponentiation.threshold 100

abbrev encS : ByteArray → Value := fun b : ByteArray => Value.string b
theorem info_string : (Tryz.prog.info? 9).map (fun i => (i.zero, i.size, i.bytes)) = some (some (.string ⟨#[]⟩), 1, 16) := by kernel_rfl
/-- The pieces' bytes, the last piece ahead. -/
def cat (ps : List ByteArray) : List UInt8 := (ps.reverse.map (·.data.toList)).flatten
theorem cat_snoc (ps : List ByteArray) (p : ByteArray) : cat (ps ++ [p]) = p.data.toList ++ cat ps := by simp [cat]
/-- What is left to be said, and the pieces. -/
def rest (m : Nat) : List UInt8 := if m = 0 then [] else decDigits m
theorem repeat_zero (c : Nat) : Lib.repeatL [48] c = List.replicate c 48 := by
  induction c with
  | zero => rfl
  | succ c ih => rw [Lib.repeatL, ih]; rfl
theorem rest_step {m : Nat} (h : 0 < m) : rest m = rest (m / 1000000000) ++ (if m / 1000000000 = 0 then decDigits (m % 1000000000) else pad9 (decDigits (m % 1000000000))) := by
  unfold rest
  rw [if_neg (by omega)]
  by_cases h1 : m / 1000000000 = 0
  · rw [if_pos h1, if_pos h1, Nat.mod_eq_of_lt (by omega)]; rfl
  · rw [if_neg h1, if_neg h1]; exact dec_nine (by omega)
theorem many_le {m n L k : Nat} (h0 : 0 < m) (h : m * 2 ^ k ≤ n) (hl : (dg B32 n).length ≤ L) : k < 32 * L := by
  have h1 := dg_lt_pow B32_2 n
  have h2 : B32 ^ (dg B32 n).length ≤ B32 ^ L := Nat.pow_le_pow_right (by rw [B32_eq]; omega) hl
  have h3 : 2 ^ k ≤ m * 2 ^ k := Nat.le_mul_of_pos_left _ h0
  have h4 : B32 ^ L = 2 ^ (32 * L) := by rw [B32_eq, Nat.pow_mul]
  exact (Nat.pow_lt_pow_iff_right (a := 2) (by omega)).1 (by omega)

theorem dec_len_of {n L : Nat} (hl : (dg B32 n).length ≤ L) (h0 : 0 < L) : (decDigits n).length ≤ 10 * L := by
  have h1 := dg_lt_pow B32_2 n
  have h2 : B32 ^ (dg B32 n).length ≤ B32 ^ L := Nat.pow_le_pow_right (by rw [B32_eq]; omega) hl
  have h3 : B32 ^ L ≤ (10 ^ 10) ^ L := Nat.pow_le_pow_left (by rw [B32_eq]; omega) _
  rw [← Nat.pow_mul] at h3
  have h4 : n < 10 ^ (10 * L) := Nat.lt_of_lt_of_le h1 (Nat.le_trans h2 h3)
  exact dec_len_le h4 (by omega)
set_option maxRecDepth 100000 in
set_option maxHeartbeats 4000000 in
theorem text_c {n : Nat} {u : Value} {w : World} (hx : NatV w u n) (hl : (dg B32 n).length ≤ 1000000) (htab : Lib.TabIs Tryz.prog w "internal/strconv.uint64pow10" .u64 Lib.pow10Tab) :
    Calls Tryz.prog 16 #[u] w fun e w' => e = .returned (.string ⟨(decDigits n).toArray⟩) ∧ New w w' := by
  obtain ⟨A, l, c, rfl⟩ := hx.form
  have HT := Lib.hid htab
  have hbx := Box.last w #[.slice A l c] 26
  have hxv := hx.new ((New.refl w).alloc (.cells #[.slice A l c] 26))
  have hlen : l = (dg B32 n).length := by obtain ⟨_, e, A', c', rfl, _⟩ := hx; simp at e; omega
  by_cases h0 : n = 0
  · subst h0
    rw [dg_zero] at hlen
    have hl0 : l = 0 := hlen
    subst hl0
    clear hbx hxv htab hlen hl hx
    go_enter Tryz.func16, Tryz.ntmps16
    go_wp2
    go_ret
    exact ⟨by rw [show decDigits 0 = [48] from dec_small (by omega)]; rfl, (New.refl w).alloc _⟩
  · have hl0 : 0 < l := by
      rw [hlen]; refine List.length_pos_iff.2 fun h => h0 ((dg_nil B32_2).1 h)
    have hl0b : ((l : Int) == 0) = false := by rw [beq_eq_false_iff_ne]; omega
    have HX := Lib.hid hxv
    have HB := Lib.hid hbx
    have HLEN := Lib.hid hlen
    have HN := Lib.hid ((New.refl w).alloc (.cells #[.slice A l c] 26))
    have HREST := Lib.hid (show decDigits n = rest n ++ cat [] by unfold rest; rw [if_neg h0]; simp [cat])
    clear hbx hxv hlen htab hx
    go_enter Tryz.func16, Tryz.ntmps16
    go_wp2
    generalize w.alloc (.cells #[.slice A l c] 26) = W0 at *
    go_loopw [3, 4, 5] (fun v3 _ _ w' => ∃ (ps : List ByteArray) (B : Option Addr) (k : Nat) (m : Nat) (A : Option Addr) (l c : Nat), v3 = .slice B ps.length k ∧ Hid (OwnE encS 9 w.heap.size w' (.slice B ps.length k) ps) ∧ Hid (Box w' w.heap.size #[.slice A l c] 26) ∧ Hid (NatV w' (.agg #[.slice A l c]) m) ∧ Hid (l = (dg B32 m).length) ∧ Hid (m * 2 ^ ps.length ≤ n) ∧ Hid (decDigits n = rest m ++ cat ps) ∧ Hid (ps ≠ [] ∨ 0 < m) ∧ ps.length ≤ 32000000 ∧ Hid (New w w')) (fun v3 _ _ _ => match v3 with | .slice _ l _ => 40000000 - l | _ => 0)
    case atStart => exact ⟨[], none, 0, n, A, l, c, rfl, OwnE.nil _ _ _ _, HB.out, HX.out, HLEN.out, (show n * 2 ^ 0 ≤ n by simp), HREST.out, Or.inr (by omega), by simp, HN.out⟩
    case round =>
      obtain ⟨ps, B, k, m, A1, l1, c1, rfl, HO, HB1, HV1, HL1, HM, HR, HNE, hpsl, HNW⟩ := hrel
      by_cases hm : 0 < m
      · have hml : 0 < l1 := by
          rw [HL1.out]; exact List.length_pos_iff.2 fun h => by rw [dg_nil B32_2] at h; omega
        have hmn : m ≤ n := Nat.le_trans (Nat.le_mul_of_pos_right m (Nat.pow_pos (by omega))) HM.out
        have hdl : (dg B32 m).length ≤ 1000000 := Nat.le_trans (dg_len_mono B32_2 hmn) hl
        have hpl := many_le hm HM.out hl
        have hc1 : wr.cell? ⟨w.heap.size, 0, none⟩ = some (.slice A1 l1 c1) := HB1.out.cell 0
        have HP := Lib.hid (parted_c HV1.out (by_ := 1000000000) (by omega) (by rw [B32_eq]; omega) (by omega))
        clear hdl
        have hrs := rest_step hm
        have hq2 : m / 1000000000 * 2 ^ (ps.length + 1) ≤ n := by
          have h1 : m / 1000000000 * 2 ≤ m := by omega
          have h2 : m / 1000000000 * 2 * 2 ^ ps.length ≤ m * 2 ^ ps.length := Nat.mul_le_mul_right _ h1
          have h3 := HM.out
          rw [Nat.pow_succ, Nat.mul_comm (2 ^ ps.length) 2, ← Nat.mul_assoc]; omega
        have hr9 : m % 1000000000 < 1000000000 := Nat.mod_lt _ (by omega)
        generalize m % 1000000000 = r at *
        generalize m / 1000000000 = q at *
        have HRS := Lib.hid hrs
        have HQ2 := Lib.hid hq2
        clear hrs hq2
        go_wp2_with fail
        refine HP.out.mono ?_
        rintro e w1 ⟨v1, rfl, hv1, hn1⟩
        obtain ⟨A2, l2, c2, rfl⟩ := hv1.form
        have hl2 : l2 = (dg B32 q).length := by obtain ⟨_, e, A', c', rfl, _⟩ := hv1; simp at e; omega
        have hb1 := HB1.out.new hn1
        have hc2 : w1.cell? ⟨w.heap.size, 0, none⟩ = some (.slice A1 l1 c1) := hb1.cell 0
        have hf2 := hb1.frozen 0
        have HB2 := Lib.hid (hb1.set 0 (.slice A2 l2 c2))
        have HV2 := Lib.hid (hv1.set hb1 (by decide) (i := 0) (.slice A2 l2 c2))
        have HN2 := Lib.hid ((HNW.out.trans hn1).setCell (p := ⟨w.heap.size, 0, none⟩) (Nat.le_refl _) (.slice A2 l2 c2))
        have HO2 := Lib.hid ((HO.out.new hn1).set hb1 (by decide) (i := 0) (.slice A2 l2 c2))
        have HL2 := Lib.hid hl2
        clear hb1 hv1 hn1 hl2 HP hc1
        go_wp2_with fail
        generalize w1.setCell ⟨w.heap.size, 0, none⟩ (.slice A2 l2 c2) = W2 at *
        refine (fmt_c r (by omega) _ (tabIs_new HN2.out HT.out)).mono ?_
        rintro e w2 ⟨rfl, hn2⟩
        have hc3 : w2.cell? ⟨w.heap.size, 0, none⟩ = some (.slice A2 l2 c2) := (HB2.out.new hn2).cell 0
        have hp9 := dec_len_le (u := r) (k := 9) hr9 (by omega)
        generalize hpd : (⟨(decDigits r).toArray⟩ : ByteArray) = p at *
        have hpl2 : p.data.toList = decDigits r := by rw [← hpd]
        have hps : p.size ≤ 9 := by rw [Lib.size_eq, hpl2]; exact hp9
        have HPL := Lib.hid hpl2
        have HB3 := Lib.hid (HB2.out.new hn2)
        have HV3 := Lib.hid (HV2.out.new hn2)
        have HO3 := Lib.hid (HO2.out.new hn2)
        have HN3 := Lib.hid (HN2.out.trans hn2)
        clear hpd hpl2 hp9 hn2
        by_cases hq0 : q = 0
        · subst hq0
          obtain rfl : l2 = 0 := by rw [HL2.out, dg_zero]; rfl
          have hcx := (Box.last w2 #[encS p] 9).cell 0
          have hown := HO3.out.new ((New.refl w2).alloc (.cells #[encS p] 9))
          have hnn := HN3.out.alloc (.cells #[encS p] 9)
          have HCX := Lib.hid hcx
          have HOWN := Lib.hid hown
          have HNN := Lib.hid hnn
          clear hcx hown hnn
          go_wp2_with (at_builtin; refine app_own2 encS w _ rfl _ _ 22 9 rfl (.string ⟨#[]⟩) 16 (by kernel_rfl) info_string rfl (by decide) _ ps rfl HNN.out HOWN.out _ _ _ p rfl HCX.out rfl (by omega) ?_)
          intro A4 c4 w3 hown3 hn3 hkept hsz3
          have HB4 := Lib.hid (hkept _ _ _ _ _ (HB3.out.alloc (.cells #[encS p] 9)) (by decide))
          have HV4 := Lib.hid ((HV3.out.new ((New.refl w2).alloc (.cells #[encS p] 9))).kept (by decide) (fun a b c fr => hkept a b c fr.1 fr.2))
          have HO4 := Lib.hid hown3
          have HN4 := Lib.hid hn3
          have HC4 := Lib.hid (show decDigits n = rest 0 ++ cat (ps ++ [p]) by rw [cat_snoc, HR.out, HRS.out, HPL.out]; simp)
          clear hown3 hn3 hkept hsz3 HCX HOWN HNN
          go_wp2
          go_roundw
          case rel => exact ⟨ps ++ [p], A4, c4, 0, A2, 0, c2, by simp, by rw [List.length_append]; exact HO4.out, HB4.out, HV4.out, HL2.out, by rw [List.length_append]; exact HQ2.out, HC4.out, Or.inl (by simp), by simp; omega, HN4.out⟩
          case measure => simp; omega
        · have hl2p : 0 < l2 := by
            rw [HL2.out]; exact List.length_pos_iff.2 fun h => hq0 ((dg_nil B32_2).1 h)
          obtain ⟨cN, hcN⟩ : ∃ cN, cN + p.size = 9 := ⟨9 - p.size, by omega⟩
          have hc9 : (9 : Int) - (p.size : Int) = (cN : Int) := by omega
          have HRP := Lib.hid (fun W => Tryz.strings_Repeat ⟨#[48]⟩ cN W (by omega) (by show 1 * cN ≤ _; omega))
          have HCN := Lib.hid hcN
          clear hcN
          go_wp2_with fail
          refine (HRP.out _).mono ?_
          rintro e w4 ⟨rfl, hn4⟩
          have hPP : ((⟨(Lib.repeatL [48] cN).toArray⟩ : ByteArray) ++ p).data.toList = if q = 0 then decDigits r else pad9 (decDigits r) := by
            rw [if_neg hq0]
            unfold pad9
            rw [← HPL.out, ← Lib.size_eq, show 9 - p.size = cN by have := HCN.out; omega, repeat_zero]
            simp
          have HB5 := Lib.hid (HB3.out.new hn4)
          have HV5 := Lib.hid (HV3.out.new hn4)
          have HO5 := Lib.hid (HO3.out.new hn4)
          have HN5 := Lib.hid (HN3.out.trans hn4)
          have hzs : (⟨(Lib.repeatL [48] cN).toArray⟩ : ByteArray).size = cN := by rw [Lib.size_eq, repeat_zero]; simp
          generalize (⟨(Lib.repeatL [48] cN).toArray⟩ : ByteArray) = Z at *
          have hzs2 : Z.size ≤ 9 := by have := HCN.out; omega
          clear hzs
          have HPP := Lib.hid hPP
          clear hPP hn4
          have hcx := (Box.last w4 #[encS (Z ++ p)] 9).cell 0
          have hown := HO5.out.new ((New.refl w4).alloc (.cells #[encS (Z ++ p)] 9))
          have hnn := HN5.out.alloc (.cells #[encS (Z ++ p)] 9)
          have HCX := Lib.hid hcx
          have HOWN := Lib.hid hown
          have HNN := Lib.hid hnn
          clear hcx hown hnn
          go_wp2_with (at_builtin; refine app_own2 encS w _ rfl _ _ 22 9 rfl (.string ⟨#[]⟩) 16 (by kernel_rfl) info_string rfl (by decide) _ ps rfl HNN.out HOWN.out _ _ _ (Z ++ p) rfl HCX.out rfl (by omega) ?_)
          intro A4 c4 w3 hown3 hn3 hkept hsz3
          have HB4 := Lib.hid (hkept _ _ _ _ _ (HB5.out.alloc (.cells #[encS (Z ++ p)] 9)) (by decide))
          have HV4 := Lib.hid ((HV5.out.new ((New.refl w4).alloc (.cells #[encS (Z ++ p)] 9))).kept (by decide) (fun a b c fr => hkept a b c fr.1 fr.2))
          have HO4 := Lib.hid hown3
          have HN4 := Lib.hid hn3
          have HC4 := Lib.hid (show decDigits n = rest q ++ cat (ps ++ [Z ++ p]) by rw [cat_snoc, HR.out, HRS.out, HPP.out]; simp)
          clear hown3 hn3 hkept hsz3 HCX HOWN HNN
          go_wp2
          go_roundw
          case rel => exact ⟨ps ++ [Z ++ p], A4, c4, q, A2, l2, c2, by simp, by rw [List.length_append]; exact HO4.out, HB4.out, HV4.out, HL2.out, by rw [List.length_append]; exact HQ2.out, HC4.out, Or.inl (by simp), by simp; omega, HN4.out⟩
          case measure => simp; omega
      · obtain rfl : m = 0 := by omega
        obtain rfl : l1 = 0 := by rw [HL1.out, dg_zero]; rfl
        have hne : ps ≠ [] := HNE.out.elim id (fun h => absurd h (by omega))
        obtain ⟨g, k', e, h1, h2, hBg, ⟨cur, hcur⟩, hcells⟩ := HO.out.at hne
        obtain ⟨rfl, rfl⟩ : B = some ⟨g, 0, none⟩ ∧ k = k' := by simpa using e
        have hc1 : wr.cell? ⟨w.heap.size, 0, none⟩ = some (.slice A1 0 c1) := HB1.out.cell 0
        clear e
        have hcS : ∀ i, i < ps.length → wr.cell? ⟨g, 0 + i, none⟩ = some (.string (ps.getD i ⟨#[]⟩)) := fun i hi => by
          rw [Nat.zero_add, hcells i hi, getD_lt hi]
        have hrev := Tryz.slices_Reverse_string_cells g 0 ps.length k (fun i => ps.getD i ⟨#[]⟩) wr (by unfold maxLen at h2; omega) hcS (fun j hj => Box.frozen (C := cur) (t := 9) hcur _)
        have hso : Lib.strsOf (fun i => ps.getD i ⟨#[]⟩) ps.length = ps.map (·.data.toList) := by
          apply List.ext_getElem
          · simp [Lib.strsOf]
          · intro i a b
            simp only [Lib.strsOf, List.getElem_map, List.getElem_range]
            rw [getD_lt (by simpa using b)]
        rw [hso] at hrev
        have HREV := Lib.hid hrev
        have hlt := lt_of_block hcur
        have HCS := Lib.hid hcS
        clear hrev hso hcS hcells hcur
        go_wp2_with fail
        refine HREV.out.mono ?_
        rintro e w1 ⟨rfl, q, rfl⟩
        go_wp2_with fail
        have hcd : decDigits n = cat ps := by rw [HR.out]; rfl
        have hvs : ∀ j x, ps.reverse[j]? = some x → ((wr.drewN q).setCells g 0 (List.map (encStr ∘ fun x => x.data.toList) ps).reverse).cell? ⟨g, 0 + j, none⟩ = some (.string x) := by
          intro j x hj
          obtain ⟨hj1, hj2⟩ := List.getElem?_eq_some_iff.1 hj
          have hj3 : j < (List.map (encStr ∘ fun x : ByteArray => x.data.toList) ps).reverse.length := by simpa using hj1
          rw [World.cell?_setCells_in g _ 0 (wr.drewN q) (fun i hi => by
            have hi' : i < ps.length := by simpa using hi
            rw [World.cell?_drewN, HCS.out i hi']; rfl) j hj3]
          rw [← hj2]
          simp only [List.getElem_reverse, List.getElem_map, List.length_map]
          rfl
        have hjn : Lib.join (ps.reverse.map (·.data.toList)) (⟨#[]⟩ : ByteArray).data.toList = decDigits n := by
          rw [hcd]
          unfold cat
          generalize ps.reverse.map (·.data.toList) = L
          show Lib.join L [] = L.flatten
          cases L with
          | nil => rfl
          | cons x r => rw [Lib.join_cons]; simp [Lib.joinTail]
        have hd10 : (decDigits n).length ≤ 140737488355328 := by
          have := dec_len_of hl (by omega)
          omega
        have hj := Tryz.strings_Join g 0 k ps.reverse ⟨#[]⟩ ((wr.drewN q).setCells g 0 (List.map (encStr ∘ fun x => x.data.toList) ps).reverse) hvs (Nat.lt_of_lt_of_le hlt (Below.size (Go.below_setCells hBg _ 0 _ (Below.mono ((New.refl wr).drewN q) HNW.out.le)))) (by simp; omega) (by simp; exact h1) (by rw [hjn]; exact hd10)
        rw [hjn, List.length_reverse] at hj
        have hnS : New w ((wr.drewN q).setCells g 0 (List.map (encStr ∘ fun x => x.data.toList) ps).reverse) := Go.below_setCells hBg _ 0 _ (HNW.out.drewN q)
        refine hj.mono ?_
        rintro e w5 ⟨rfl, hn5⟩
        have HF := Lib.hid (hnS.trans hn5)
        clear hvs hj hjn hnS hn5 HREV
        go_wp2
        go_ret
        exact ⟨by rw [hcd]; rfl, HF.out⟩
end Go.Proofs.YtkjlmibleoecgaaGreatDoor
/- Contracts with sizes, texts. -/
namespace Go.Proofs.YtkjlmibleoecgaaGreatDoor
set_option linter.unusedSimpArgs false
set_option linter.unusedVariables false
open Go.RowKit
/-- v is the program's nat n, of k limbs at most. -/
structure NatB (w : World) (v : Value) (n k : Nat) : Prop where
  v : NatV w v n
  k : (dg B32 n).length ≤ k
theorem NatB.new {w w' : World} {v : Value} {n k : Nat} (h : NatB w v n k) (hn : New w w') : NatB w' v n k := ⟨h.v.new hn, h.k⟩
section
variable {w : World} {u v : Value} {x y k j : Nat}
theorem add_b (hu : NatB w u x k) (hv : NatB w v y j) (hk : k ≤ 100000) (hj : j ≤ 100000) :
    Calls Tryz.prog 92 #[u, v] w fun e w' => ∃ v, e = .returned v ∧ NatB w' v (x + y) (k + j + 1) ∧ New w w' :=
  (add_c hu.v hv.v (by have := hu.k; omega) (by have := hv.k; omega)).mono fun e w' ⟨v, h1, h2, h3⟩ => ⟨v, h1, ⟨h2, by have := dg_len_add B32_2 x y; have := hu.k; have := hv.k; omega⟩, h3⟩
theorem mul_b (hu : NatB w u x k) (hv : NatB w v y j) (hk : k ≤ 100000) (hj : j ≤ 100000) :
    Calls Tryz.prog 96 #[u, v] w fun e w' => ∃ v, e = .returned v ∧ NatB w' v (x * y) (k + j) ∧ New w w' :=
  (mul_c hu.v hv.v (by have := hu.k; omega) (by have := hv.k; omega)).mono fun e w' ⟨v, h1, h2, h3⟩ => ⟨v, h1, ⟨h2, by have := dg_len_mul B32_2 x y; have := hu.k; have := hv.k; omega⟩, h3⟩
theorem sub_b (hu : NatB w u x k) (hv : NatB w v y j) (hk : k ≤ 100000) (hj : j ≤ 100000) (h : y ≤ x) :
    Calls Tryz.prog 93 #[u, v] w fun e w' => ∃ v, e = .returned (.tuple #[v, .int .i64 0]) ∧ NatB w' v (x - y) k ∧ New w w' :=
  (sub_c hu.v hv.v (by have := hu.k; omega) (by have := hv.k; omega)).mono fun e w' ⟨v, h1, h2, h3⟩ => ⟨v, by rw [h1]; unfold subE; rw [if_neg (by omega)], ⟨h2, by have := dg_len_mono B32_2 (Nat.sub_le x y); have := hu.k; omega⟩, h3⟩
theorem cmp_same (hu : NatB w u x k) (hv : NatB w v y j) (hk : k ≤ 100000) (hj : j ≤ 100000) (h : x = y) :
    Calls Tryz.prog 20 #[u, v] w fun e w' => e = .returned (.int .i64 0) ∧ New w w' := by
  have := cmp_c hu.v hv.v (by have := hu.k; omega) (by have := hv.k; omega)
  subst h
  rw [show cmpN x x = 0 by unfold cmpN; simp] at this
  exact this
theorem text_b (hu : NatB w u x k) (hk : k ≤ 100000) (L : Lib.TabIs Tryz.prog w "internal/strconv.uint64pow10" .u64 Lib.pow10Tab) (s : ByteArray) (hs : Lib.decDigits x = s.data.toList) :
    Calls Tryz.prog 16 #[u] w fun e w' => e = .returned (.string s) ∧ New w w' :=
  (text_c hu.v (by have := hu.k; omega) L).mono fun e w' ⟨h1, h2⟩ => ⟨by rw [h1, hs], h2⟩
end
theorem box_cell0 {w : World} {p : Nat} {v : Value} {T : TypeId} (h : Box w p #[v] T) : w.cell? ⟨p, 0, none⟩ = some v ∧ w.frozen? ⟨p, 0, none⟩ = false := ⟨h.cell 0, h.frozen 0⟩
/-- A box that is laid ahead of a draw and a call. -/
theorem box_ahead {W w' : World} {C : Array Value} {T : TypeId} (h : New (W.alloc (.cells C T)).drew w') : Box w' W.heap.size C T :=
  Box.new h (Box.new (New.refl _).drew (Box.last W C T))
theorem box_ahead0 {W w' : World} {v : Value} {T : TypeId} (h : New (W.alloc (.cells #[v] T)).drew w') : w'.cell? ⟨W.heap.size, 0, none⟩ = some v ∧ w'.frozen? ⟨W.heap.size, 0, none⟩ = false :=
  ⟨(box_ahead h).cell 0, (box_ahead h).frozen 0⟩
theorem NatB.form {w : World} {v : Value} {n k : Nat} (h : NatB w v n k) : ∃ A l c, v = .agg #[.slice A l c] := h.v.form
/-- A number's text. -/
def decS (n : Nat) : ByteArray := ⟨(Lib.decDigits n).toArray⟩
theorem decS_of {n : Nat} {s : ByteArray} (h : Lib.decDigits n = s.data.toList) : decS n = s := by unfold decS; rw [h]
theorem decS_data (n : Nat) : (decS n).data.toList = Lib.decDigits n := rfl
theorem decS_inj {a b : Nat} (h : decS a = decS b) : a = b := dec_inj (by rw [← decS_data, h, decS_data])
section
variable {w : World} {u v : Value} {x y k j : Nat}
theorem sub_e (hu : NatB w u x k) (hv : NatB w v y j) (hk : k ≤ 100000) (hj : j ≤ 100000) :
    Calls Tryz.prog 93 #[u, v] w fun e w' => ∃ v, e = .returned (.tuple #[v, .int .i64 (subE x y)]) ∧ NatB w' v (x - y) k ∧ New w w' :=
  (sub_c hu.v hv.v (by have := hu.k; omega) (by have := hv.k; omega)).mono fun e w' ⟨v, h1, h2, h3⟩ => ⟨v, h1, ⟨h2, by have := dg_len_mono B32_2 (Nat.sub_le x y); have := hu.k; omega⟩, h3⟩
theorem cmp_b (hu : NatB w u x k) (hv : NatB w v y j) (hk : k ≤ 100000) (hj : j ≤ 100000) :
    Calls Tryz.prog 20 #[u, v] w fun e w' => e = .returned (.int .i64 (cmpN x y)) ∧ New w w' :=
  cmp_c hu.v hv.v (by have := hu.k; omega) (by have := hv.k; omega)
theorem text_v (hu : NatB w u x k) (hk : k ≤ 100000) (L : Lib.TabIs Tryz.prog w "internal/strconv.uint64pow10" .u64 Lib.pow10Tab) :
    Calls Tryz.prog 16 #[u] w fun e w' => e = .returned (.string (decS x)) ∧ New w w' :=
  text_c hu.v (by have := hu.k; omega) L
theorem text_s {s : ByteArray} (hu : NatB w u x k) (hk : k ≤ 100000) (L : Lib.TabIs Tryz.prog w "internal/strconv.uint64pow10" .u64 Lib.pow10Tab) (hs : decS x = s) :
    Calls Tryz.prog 16 #[u] w fun e w' => e = .returned (.string s) ∧ New w w' := hs ▸ text_v hu hk L
end
theorem NatB.set {w : World} {v : Value} {n k : Nat} (h : NatB w v n k) {p i : Nat} {C : Array Value} {T : TypeId} (hp : Box w p C T) (ht : T ≠ 89) (u : Value) : NatB (w.setCell ⟨p, i, none⟩ u) v n k := ⟨h.v.set hp ht u, h.k⟩
theorem name_it {V : World} {P : Nat} {C : Array Value} {T : TypeId} (h : Box V P C T) {Q : Prop} (k : ∀ V' P', V' = V → P' = P → Box V' P' C T → Q) : Q := k V P rfl rfl h
theorem box_set1 {w : World} {p : Nat} {v u : Value} {T : TypeId} (h : Box w p #[v] T) : Box (w.setCell ⟨p, 0, none⟩ u) p #[u] T := h.set 0 u
end Go.Proofs.YtkjlmibleoecgaaGreatDoor
/- Whole numbers in plain words: signs, texts. -/
namespace Go.Proofs.YtkjlmibleoecgaaGreatDoor
set_option linter.unusedSimpArgs false
set_option linter.unusedVariables false
open Go.RowKit
theorem data_inj0 {a b : ByteArray} (h : a.data.toList = b.data.toList) : a = b := by
  obtain ⟨⟨l⟩⟩ := a; obtain ⟨⟨m⟩⟩ := b
  cases h; rfl
/-- A size and a sign. -/
def sgn (b : Bool) (n : Nat) : Int := if b = true then -(n : Int) else (n : Int)
theorem sgn_abs (b : Bool) (n : Nat) : (sgn b n).natAbs = n := by unfold sgn; split <;> omega
theorem sgn_neg (b : Bool) (n : Nat) : decide (sgn b n < 0) = (b && decide (0 < n)) := by
  unfold sgn
  cases b <;> simp
theorem sgn_self (z : Int) : sgn (decide (z < 0)) z.natAbs = z := by
  unfold sgn
  by_cases h : z < 0 <;> simp [h] <;> omega
theorem sgn_zero (b : Bool) : sgn b 0 = 0 := by unfold sgn; split <;> rfl
/-- A whole number's sign. -/
def sgZ (z : Int) : Int := if z < 0 then -1 else if z = 0 then 0 else 1
/-- The order. -/
def cmpZ (x y : Int) : Int := if x < y then -1 else if y < x then 1 else 0
/-- A whole number's text. -/
def numS (z : Int) : ByteArray := if z < 0 then (⟨#[45]⟩ : ByteArray) ++ decS z.natAbs else decS z.natAbs
/-- Is a text a whole number's? Which? -/
def isZ (l : List UInt8) : Bool := if l.head? = some 45 then isNum l.tail && decide (0 < pNum l.tail) else isNum l
def zNum (l : List UInt8) : Int := if isZ l = true then (if l.head? = some 45 then -(pNum l.tail : Int) else (pNum l : Int)) else 0
theorem zNum_text {s : ByteArray} (h : isZ s.data.toList = true) : numS (zNum s.data.toList) = s := by
  unfold zNum
  rw [if_pos h]
  unfold isZ at h
  by_cases h1 : s.data.toList.head? = some 45
  · rw [if_pos h1] at h ⊢
    simp only [Bool.and_eq_true, decide_eq_true_eq] at h
    unfold numS
    rw [if_pos (by omega)]
    refine data_inj0 ?_
    have e : (-(pNum s.data.toList.tail : Int)).natAbs = pNum s.data.toList.tail := by omega
    rw [e, ByteArray.data_append, Array.toList_append, decS_data]
    have hp : pNum s.data.toList.tail = numL s.data.toList.tail := by unfold pNum; rw [if_pos h.1]
    rw [hp, dec_num h.1]
    cases hl : s.data.toList with
    | nil => rw [hl] at h1; cases h1
    | cons a r =>
      rw [hl] at h1
      simp only [List.head?_cons, Option.some.injEq] at h1
      subst h1
      rfl
  · rw [if_neg h1] at h ⊢
    unfold numS
    rw [if_neg (by omega)]
    have hp : pNum s.data.toList = numL s.data.toList := by unfold pNum; rw [if_pos h]
    refine decS_of ?_
    rw [Int.natAbs_natCast, hp, dec_num h]
theorem isNum_len {l : List UInt8} (hi : isNum l = true) {b : Nat} (hb : 10 ≤ b) : (dg b (pNum l)).length ≤ l.length := by
  have hp : pNum l = numL l := by unfold pNum; rw [if_pos hi]
  have hd : l.all dig = true := by
    unfold isNum at hi
    simp only [Bool.and_eq_true] at hi
    exact hi.1.2
  rw [hp]
  exact dg_len (by omega) (Nat.lt_of_lt_of_le (numL_lt hd) (Nat.pow_le_pow_left hb _))
theorem zNum_len {l : List UInt8} {b : Nat} (hb : 10 ≤ b) : (dg b (zNum l).natAbs).length ≤ l.length := by
  unfold zNum
  by_cases h : isZ l = true
  · rw [if_pos h]
    unfold isZ at h
    by_cases h1 : l.head? = some 45
    · rw [if_pos h1] at h ⊢
      simp only [Bool.and_eq_true] at h
      have e : (-(pNum l.tail : Int)).natAbs = pNum l.tail := by omega
      rw [e]
      have := isNum_len h.1 hb
      simp at this
      omega
    · rw [if_neg h1] at h ⊢
      rw [Int.natAbs_natCast]
      exact isNum_len h hb
  · rw [if_neg h]
    rw [show (0 : Int).natAbs = 0 from rfl, dg_zero]
    simp
end Go.Proofs.YtkjlmibleoecgaaGreatDoor
/- Contracts with sizes of the reference. -/
namespace Go.Proofs.YtkjlmibleoecgaaGreatDoor
set_option linter.unusedSimpArgs false
set_option linter.unusedVariables false
open Go.RowKit
/-- v is the reference's nat n, of k digits at most. -/
structure RefB (w : World) (v : Value) (n k : Nat) : Prop where
  v : RefV w v n
  k : (dg B9 n).length ≤ k
theorem RefB.new {w w' : World} {v : Value} {n k : Nat} (h : RefB w v n k) (hn : New w w') : RefB w' v n k := ⟨h.v.new hn, h.k⟩
theorem RefB.form {w : World} {v : Value} {n k : Nat} (h : RefB w v n k) : ∃ A l c, v = .agg #[.slice A l c] := h.v.form
section
variable {w : World} {u v : Value} {x y k j : Nat}
theorem radd_b (hu : RefB w u x k) (hv : RefB w v y j) (hk : k ≤ 100000) (hj : j ≤ 100000) :
    Calls Tryz.prog 95 #[u, v] w fun e w' => ∃ v, e = .returned v ∧ RefB w' v (x + y) (k + j + 1) ∧ New w w' :=
  (radd_c hu.v hv.v (by have := hu.k; omega) (by have := hv.k; omega)).mono fun e w' ⟨v, h1, h2, h3⟩ => ⟨v, h1, ⟨h2, by have := dg_len_add B9_2 x y; have := hu.k; have := hv.k; omega⟩, h3⟩
theorem rmul_b (hu : RefB w u x k) (hv : RefB w v y j) (hk : k ≤ 100000) (hj : j ≤ 100000) :
    Calls Tryz.prog 97 #[u, v] w fun e w' => ∃ v, e = .returned v ∧ RefB w' v (x * y) (k + j) ∧ New w w' :=
  (rmul_c hu.v hv.v (by have := hu.k; omega) (by have := hv.k; omega)).mono fun e w' ⟨v, h1, h2, h3⟩ => ⟨v, h1, ⟨h2, by have := dg_len_mul B9_2 x y; have := hu.k; have := hv.k; omega⟩, h3⟩
theorem rsub_e (hu : RefB w u x k) (hv : RefB w v y j) (hk : k ≤ 100000) (hj : j ≤ 100000) :
    Calls Tryz.prog 78 #[u, v] w fun e w' => ∃ v, e = .returned (.tuple #[v, .int .i64 (subE x y)]) ∧ RefB w' v (x - y) k ∧ New w w' :=
  (rsub_c hu.v hv.v (by have := hu.k; omega) (by have := hv.k; omega)).mono fun e w' ⟨v, h1, h2, h3⟩ => ⟨v, h1, ⟨h2, by have := dg_len_mono B9_2 (Nat.sub_le x y); have := hu.k; omega⟩, h3⟩
theorem rcmp_b (hu : RefB w u x k) (hv : RefB w v y j) (hk : k ≤ 100000) (hj : j ≤ 100000) :
    Calls Tryz.prog 21 #[u, v] w fun e w' => e = .returned (.int .i64 (cmpN x y)) ∧ New w w' :=
  rcmp_c hu.v hv.v (by have := hu.k; omega) (by have := hv.k; omega)
theorem rtext_v (hu : RefB w u x k) (hk : k ≤ 100000) :
    Calls Tryz.prog 17 #[u] w fun e w' => e = .returned (.string (decS x)) ∧ New w w' :=
  rtext_c hu.v (by have := hu.k; omega)
end
end Go.Proofs.YtkjlmibleoecgaaGreatDoor
/- word; numbers of two limbs. -/
namespace Go.Proofs.YtkjlmibleoecgaaGreatDoor
set_option linter.unusedSimpArgs false
set_option linter.unusedVariables false
open Go.RowKit
theorem NatV.len {w : World} {A : Option Addr} {l c n : Nat} (h : NatV w (.agg #[.slice A l c]) n) : l = (dg B32 n).length := by
  obtain ⟨_, e, A', c', rfl, _⟩ := h
  simp only [Value.agg.injEq, Array.mk.injEq, List.cons.injEq, and_true] at e
  injection e
theorem word_step {n d k : Nat} (hk : k < 2) (hn : n < B32 ^ k) (hd : d < B32) :
    Go.bits .or .u64 (n : Int) (IntKind.u64.wrap ((d : Int) * 2 ^ (32 * k))) = ((n + B32 ^ k * d : Nat) : Int) ∧ n + B32 ^ k * d < B32 ^ (k + 1) := by
  have e : B32 ^ k = 2 ^ (32 * k) := by rw [B32_eq, show (4294967296 : Nat) = 2 ^ 32 from rfl, ← Nat.pow_mul]
  have h1 : n + B32 ^ k * d < B32 ^ (k + 1) := by
    rw [Nat.pow_succ]
    have : B32 ^ k * (d + 1) ≤ B32 ^ k * B32 := Nat.mul_le_mul_left _ hd
    rw [Nat.mul_add] at this; omega
  have h2 : B32 ^ (k + 1) ≤ B32 ^ 2 := Nat.pow_le_pow_right (by rw [B32_eq]; omega) (by omega)
  have h3 : B32 ^ 2 = 18446744073709551616 := by rw [B32_eq]
  have h4 := Nat.two_pow_add_eq_or_of_lt (i := 32 * k) (b := n) (by rw [← e]; exact hn) d
  have h5 : IntKind.u64.wrap ((d : Int) * 2 ^ (32 * k)) = ((B32 ^ k * d : Nat) : Int) := by
    rw [show (d : Int) * 2 ^ (32 * k) = ((B32 ^ k * d : Nat) : Int) by rw [e, Int.natCast_mul, Int.natCast_pow, Int.mul_comm]; rfl]
    exact IntWalk.u64_in _ (by omega)
  refine ⟨?_, h1⟩
  rw [h5, u64_or_nat _ _ (by omega) (by omega), Nat.or_comm, e, ← h4, Nat.add_comm]
set_option maxHeartbeats 2000000 in
theorem word_c {x : Nat} {v : Value} {w : World} (h : NatV w v x) (hl : (dg B32 x).length ≤ 2) :
    Calls Tryz.prog 85 #[v] w fun e w' => e = .returned (.int .u64 (x : Int)) ∧ New w w' := by
  obtain ⟨_, rfl, A, c, rfl, hc, hmax, hr⟩ := h
  have hxs := dg_lt B32_2 x
  have hval := dg_val B32_2 x
  generalize dg B32 x = xs at *
  generalize hn : xs.length = n at *
  have HV := Lib.hid hval
  have HXS := Lib.hid hxs
  have HN := Lib.hid hn
  have HR := Lib.hid hr
  clear hval hxs hn hr
  go_enter Tryz.func85, Tryz.ntmps85
  go_wp2
  go_loopw [3, 9] (fun v3 i w' => ∃ (k s : Nat), k ≤ n ∧ i = .int .i64 (k : Int) ∧ v3 = .int .u64 (s : Int) ∧ Hid (s = val B32 (xs.take k) ∧ s < B32 ^ k) ∧
    w' = w.alloc (.cells #[.slice A n c] 26)) (fun _ i _ => n - (intOf i).toNat)
  case atStart => exact ⟨0, 0, by omega, rfl, rfl, ⟨rfl, by simp⟩, rfl⟩
  case round =>
    obtain ⟨k, s, hk, rfl, rfl, HS, rfl⟩ := hrel
    by_cases hlt : k < n
    · obtain ⟨b, o, C, fr, rfl, hbl, hcell⟩ := HR.out k hlt
      have hxd : xs.getD k 0 < B32 := HXS.out _ (getD_mem (by rw [HN.out]; exact hlt))
      obtain ⟨hst, hsl⟩ := word_step (k := k) (by omega) HS.out.2 hxd
      have HS2 : Hid (s + B32 ^ k * xs.getD k 0 = val B32 (xs.take (k + 1)) ∧ s + B32 ^ k * xs.getD k 0 < B32 ^ (k + 1)) := Lib.hid ⟨by rw [val_take_succ, HS.out.1], hsl⟩
      generalize xs.getD k 0 = xd at *
      generalize s + B32 ^ k * xd = s2 at *
      rw [B32_eq] at hxd
      have hw1 : IntKind.u64.wrap (xd : Int) = (xd : Int) := IntWalk.u64_in _ (by omega)
      clear hsl hbl
      rcases (show k = 0 ∨ k = 1 by omega) with rfl | rfl
      · rw [Nat.add_zero] at hcell
        have hc3 := fun o1 => ((New.refl w).alloc o1).still hcell
        have hst0 : Go.bits .or .u64 (s : Int) (xd : Int) = (s2 : Int) := by rw [← hst]; simp [hw1]
        clear hst hcell
        go_wp2
        go_roundw
        case rel => exact ⟨1, s2, by omega, by go_num, by go_num, HS2.out, by first | rfl | trivial⟩
        case measure => simp [intOf]; omega
      · have hc3 := fun o1 => ((New.refl w).alloc o1).still hcell
        have hw2 : IntKind.u64.wrap ((xd : Int) * 4294967296) = (xd : Int) * 4294967296 := IntWalk.u64_in _ (by omega)
        have hst0 : Go.bits .or .u64 (s : Int) ((xd : Int) * 4294967296) = (s2 : Int) := by rw [← hst, ← hw2]; rfl
        clear hst hcell
        go_wp2
        go_roundw
        case rel => exact ⟨2, s2, by omega, by go_num, by go_num, HS2.out, by first | rfl | trivial⟩
        case measure => simp [intOf]; omega
    · obtain rfl : n = k := by omega
      have hs := HS.out.1
      rw [List.take_of_length_le (by rw [HN.out]; omega), HV.out] at hs
      have HX := Lib.hid hs
      clear hs
      go_wp2
      go_ret
      exact ⟨by rw [HX.out]; rfl, (New.refl w).alloc _⟩
end Go.Proofs.YtkjlmibleoecgaaGreatDoor
/- The program's num: contracts, part 1. -/
namespace Go.Proofs.YtkjlmibleoecgaaGreatDoor
set_option linter.unusedSimpArgs false
set_option linter.unusedVariables false
open Go.RowKit
abbrev NNum : TypeId := 45
abbrev NNat : TypeId := 26
/-- v is the program's whole number z. -/
def NumV (w : World) (v : Value) (z : Int) : Prop := ∃ A l c, v = .agg #[.slice A l c, .bool (decide (z < 0))] ∧ NatV w (.agg #[.slice A l c]) z.natAbs
structure NumB (w : World) (v : Value) (z : Int) (k : Nat) : Prop where
  v : NumV w v z
  k : (dg B32 z.natAbs).length ≤ k
theorem NumB.new {w w' : World} {v : Value} {z : Int} {k : Nat} (h : NumB w v z k) (hn : New w w') : NumB w' v z k := by
  obtain ⟨⟨A, l, c, rfl, h1⟩, h2⟩ := h
  exact ⟨⟨A, l, c, rfl, h1.new hn⟩, h2⟩
theorem NumB.form {w : World} {v : Value} {z : Int} {k : Nat} (h : NumB w v z k) : ∃ A l c, v = .agg #[.slice A l c, .bool (decide (z < 0))] ∧ NatB w (.agg #[.slice A l c]) z.natAbs k := by
  obtain ⟨⟨A, l, c, rfl, h1⟩, h2⟩ := h
  exact ⟨A, l, c, rfl, h1, h2⟩
theorem NumB.set {w : World} {v : Value} {z : Int} {k : Nat} (h : NumB w v z k) {p i : Nat} {C : Array Value} {T : TypeId} (hp : Box w p C T) (ht : T ≠ 89) (u : Value) : NumB (w.setCell ⟨p, i, none⟩ u) v z k := by
  obtain ⟨⟨A, l, c, rfl, h1⟩, h2⟩ := h
  exact ⟨⟨A, l, c, rfl, h1.set hp ht u⟩, h2⟩
theorem NumB.mk' {w : World} {A : Option Addr} {l c x k : Nat} {b : Bool} (h : NatB w (.agg #[.slice A l c]) x k) : NumB w (.agg #[.slice A l c, .bool (b && decide (0 < x))]) (sgn b x) k :=
  ⟨⟨A, l, c, by rw [sgn_neg], by rw [sgn_abs]; exact h.v⟩, by rw [sgn_abs]; exact h.k⟩
theorem bits_dec (x : Nat) : decide (0 < bitsN x) = decide (0 < x) := by
  by_cases h : x = 0
  · subst h; rfl
  · have := (bitsN_spec (x := x) (by omega)).1
    rw [decide_eq_true this, decide_eq_true (by omega : 0 < x)]
theorem bits_b {w : World} {u : Value} {x k : Nat} (hu : NatB w u x k) (hk : k ≤ 100000) : Calls Tryz.prog 22 #[u] w fun e w' => e = .returned (.int .i64 (bitsN x)) ∧ New w w' :=
  bits_c hu.v (by have := hu.k; omega)
theorem bits_pos (x : Nat) : ((0 : Int) < (bitsN x : Int)) = (0 < x) := by
  by_cases h : x = 0
  · subst h; simp [bitsN_zero]
  · have := (bitsN_spec (x := x) (by omega)).1
    simp; omega
/-- A box of a whole number, whatever it holds. -/
def BoxAny (V : World) (p : Nat) : Prop := ∃ v0 v1, Box V p #[v0, v1] NNum
def cellAt (V : World) (p i : Nat) : Value := (V.cell? ⟨p, i, none⟩).getD (.bool false)
theorem BoxAny.last2 (w : World) (o : Obj) : BoxAny ((w.alloc o).alloc (.cells #[.slice none 0 0, .bool false] NNum)) (w.heap.size + 1) := ⟨_, _, Box.last2 w o _ _⟩
theorem BoxAny.new {w w' : World} (hn : New w w') {p : Nat} (h : BoxAny w p) : BoxAny w' p := by
  obtain ⟨v0, v1, h⟩ := h; exact ⟨v0, v1, h.new hn⟩
theorem BoxAny.cell0 {w : World} {p : Nat} (h : BoxAny w p) : w.cell? ⟨p, 0, none⟩ = some (cellAt w p 0) := by
  obtain ⟨v0, v1, h⟩ := h
  have := h.cell 0
  unfold cellAt; rw [this]; rfl
theorem BoxAny.cell1 {w : World} {p : Nat} (h : BoxAny w p) : w.cell? ⟨p, 1, none⟩ = some (cellAt w p 1) := by
  obtain ⟨v0, v1, h⟩ := h
  have := h.cell 1
  unfold cellAt; rw [this]; rfl
theorem BoxAny.frozen {w : World} {p : Nat} (h : BoxAny w p) (i : Nat) : w.frozen? ⟨p, i, none⟩ = false := by
  obtain ⟨v0, v1, h⟩ := h; exact h.frozen i
theorem BoxAny.store2 {w : World} {p : Nat} (h : BoxAny w p) (a b : Value) : Box ((w.setCell ⟨p, 0, none⟩ a).setCell ⟨p, 1, none⟩ b) p #[a, b] NNum := by
  obtain ⟨v0, v1, h⟩ := h; exact (h.set 0 a).set 1 b
theorem BoxAny.set2 {w : World} {p : Nat} (h : BoxAny w p) (a b : Value) : BoxAny ((w.setCell ⟨p, 0, none⟩ a).setCell ⟨p, 1, none⟩ b) p := ⟨_, _, h.store2 a b⟩
theorem BoxAny.far2 {w : World} {p q : Nat} (h : BoxAny w p) (hq : p ≠ q) (a b : Value) : BoxAny ((w.setCell ⟨q, 0, none⟩ a).setCell ⟨q, 1, none⟩ b) p := by
  obtain ⟨v0, v1, h⟩ := h; exact ⟨_, _, (h.far hq a).far hq b⟩
theorem NatB.set2 {w : World} {v : Value} {n k : Nat} (h : NatB w v n k) {p : Nat} (hp : BoxAny w p) (a b : Value) : NatB ((w.setCell ⟨p, 0, none⟩ a).setCell ⟨p, 1, none⟩ b) v n k := by
  obtain ⟨v0, v1, hp⟩ := hp; exact (h.set hp (by decide) a).set (hp.set 0 a) (by decide) b
theorem NumB.set2 {w : World} {v : Value} {z : Int} {k : Nat} (h : NumB w v z k) {p : Nat} (hp : BoxAny w p) (a b : Value) : NumB ((w.setCell ⟨p, 0, none⟩ a).setCell ⟨p, 1, none⟩ b) v z k := by
  obtain ⟨v0, v1, hp⟩ := hp; exact (h.set hp (by decide) a).set (hp.set 0 a) (by decide) b
theorem New.set2 {a b : World} (h : New a b) {p : Nat} (hp : a.heap.size ≤ p) (x y : Value) : New a ((b.setCell ⟨p, 0, none⟩ x).setCell ⟨p, 1, none⟩ y) := (h.setCell (p := ⟨p, 0, none⟩) hp x).setCell (p := ⟨p, 1, none⟩) hp y
theorem Box.cell0' {w : World} {p : Nat} {a b : Value} {T : TypeId} (h : Box w p #[a, b] T) : w.cell? ⟨p, 0, none⟩ = some a := h.cell 0
theorem Box.cell1' {w : World} {p : Nat} {a b : Value} {T : TypeId} (h : Box w p #[a, b] T) : w.cell? ⟨p, 1, none⟩ = some b := h.cell 1
theorem Box.two {w : World} {p : Nat} {a b : Value} {T : TypeId} (h : Box w p #[a, b] T) : w.cell? ⟨p, 0, none⟩ = some a ∧ w.cell? ⟨p, 1, none⟩ = some b ∧ w.frozen? ⟨p, 0, none⟩ = false ∧ w.frozen? ⟨p, 1, none⟩ = false := ⟨h.cell 0, h.cell 1, h.frozen 0, h.frozen 1⟩
/-- A whole number is laid into its result's box. -/
theorem Box.lay2 {w : World} {p : Nat} {a b : Value} {T : TypeId} (h : Box w p #[a, b] T) (x y : Value) : Box ((w.setCell ⟨p, 0, none⟩ x).setCell ⟨p, 1, none⟩ y) p #[x, y] T := (h.set 0 x).set 1 y
theorem NatB.lay2 {w : World} {v : Value} {n k : Nat} (h : NatB w v n k) {p : Nat} {a b : Value} (hp : Box w p #[a, b] NNum) (x y : Value) : NatB ((w.setCell ⟨p, 0, none⟩ x).setCell ⟨p, 1, none⟩ y) v n k := (h.set hp (by decide) x).set (hp.set 0 x) (by decide) y
theorem NumB.lay2 {w : World} {v : Value} {z : Int} {k : Nat} (h : NumB w v z k) {p : Nat} {a b : Value} (hp : Box w p #[a, b] NNum) (x y : Value) : NumB ((w.setCell ⟨p, 0, none⟩ x).setCell ⟨p, 1, none⟩ y) v z k := (h.set hp (by decide) x).set (hp.set 0 x) (by decide) y
set_option maxRecDepth 100000 in
set_option maxHeartbeats 1000000 in
theorem make_n {w : World} {u : Value} {x k : Nat} (b : Bool) (hu : NatB w u x k) (hk : k ≤ 100000) :
    Calls Tryz.prog 91 #[.bool b, u] w fun e w' => ∃ v, e = .returned v ∧ NumB w' v (sgn b x) k ∧ New w w' := by
  obtain ⟨A, l, c, rfl⟩ := hu.form
  have HB3 := Lib.hid ((Box.last w #[.slice A l c] NNat).alloc (.cells #[.slice none 0 0, .bool false] NNum))
  have HB4 := Lib.hid (Box.last2 w (.cells #[.slice A l c] NNat) #[.slice none 0 0, .bool false] NNum)
  have HN := Lib.hid (((New.refl w).alloc (.cells #[.slice A l c] NNat)).alloc (.cells #[.slice none 0 0, .bool false] NNum))
  have HU := Lib.hid hu
  have HBI := Lib.hid (fun W (h : New w W) => bits_b (hu.new h) hk)
  clear hu
  cases b
  · go_enter Tryz.func91, Tryz.ntmps91
    go_wp2
    generalize (w.alloc (.cells #[.slice A l c] NNat)).alloc (.cells #[.slice none 0 0, .bool false] NNum) = W at *
    have c3 : W.cell? ⟨w.heap.size, 0, none⟩ = some (.slice A l c) := HB3.out.cell 0
    obtain ⟨c4, c5, f4, f5⟩ := HB4.out.two
    have HV := Lib.hid ((HU.out.new HN.out).lay2 HB4.out (.slice A l c) (.bool false))
    have HST := Lib.hid (HB4.out.lay2 (.slice A l c) (.bool false))
    have HNW := Lib.hid (New.set2 HN.out (show w.heap.size ≤ w.heap.size + 1 by omega) (.slice A l c) (.bool false))
    go_region
    go_wp2
    have hdn := New.drew (New.refl ((W.setCell ⟨w.heap.size + 1, 0, none⟩ (.slice A l c)).setCell ⟨w.heap.size + 1, 1, none⟩ (.bool false)))
    have g0 := (HST.out.new hdn).cell0'
    have g1 := (HST.out.new hdn).cell1'
    refine bodyPost_ret (v := .agg #[.slice A l c, .bool false]) (by simp [results, Tryz.results91, go_sem, g0, g1]) rfl ⟨_, rfl, NumB.mk' (b := false) (HV.out.new hdn), HNW.out.trans hdn⟩
  · have hbb : ∃ bb : Bool, (true && decide (0 < x)) = bb ∧ decide (0 < bitsN x) = bb := ⟨_, rfl, by rw [bits_dec]; rfl⟩
    obtain ⟨bb, hb1, hb2⟩ := hbb
    have HMK : Hid (∀ W, NatB W (.agg #[.slice A l c]) x k → NumB W (.agg #[.slice A l c, .bool bb]) (sgn true x) k) := Lib.hid (fun W h => hb1 ▸ NumB.mk' h)
    generalize bitsN x = bz at *
    clear hb1
    go_enter Tryz.func91, Tryz.ntmps91
    go_wp2
    generalize (w.alloc (.cells #[.slice A l c] NNat)).alloc (.cells #[.slice none 0 0, .bool false] NNum) = W at *
    have c3 : W.cell? ⟨w.heap.size, 0, none⟩ = some (.slice A l c) := HB3.out.cell 0
    go_region_law ((rw [if_pos (by rfl)]; (first | go_big_op | go_simp); (with_reducible (refine (HBI.out _ HN.out.drew).mono ?_)); rintro e w5 ⟨rfl, hn5⟩; have hnd := ((New.refl W).drew).trans hn5; have d3 := hnd.still c3; have hb5 := HB4.out.new hnd; obtain ⟨c4, c5, f4, f5⟩ := hb5.two))
    all_goals
      have HV := Lib.hid (HMK.out _ (((HU.out.new HN.out).new hnd).lay2 hb5 (.slice A l c) (.bool bb)))
      have g0 := (hb5.lay2 (.slice A l c) (.bool bb)).cell0'
      have g1 := (hb5.lay2 (.slice A l c) (.bool bb)).cell1'
      have HNW := Lib.hid (New.set2 (HN.out.trans hnd) (show w.heap.size ≤ w.heap.size + 1 by omega) (.slice A l c) (.bool bb))
      clear hb5 hn5 hnd
      go_wp2
      refine bodyPost_ret (v := .agg #[.slice A l c, .bool bb]) (by simp [results, Tryz.results91, go_sem, g0, g1]) rfl ⟨_, rfl, HV.out, HNW.out⟩
end Go.Proofs.YtkjlmibleoecgaaGreatDoor
/- The program's num: contracts, part 2: zero, Sign, Abs, Neg, Text, Of, Cmp. -/
namespace Go.Proofs.YtkjlmibleoecgaaGreatDoor
set_option linter.unusedSimpArgs false
set_option linter.unusedVariables false
open Go.RowKit
section
variable {w : World} {u v : Value} {z y : Int} {k j : Nat}
theorem bits_val (x : Nat) : (x = 0 ∧ bitsN x = 0) ∨ (0 < x ∧ 0 < bitsN x) := by
  by_cases h : x = 0
  · exact .inl ⟨h, by rw [h, bitsN_zero]⟩
  · exact .inr ⟨by omega, (bitsN_spec (x := x) (by omega)).1⟩
set_option maxHeartbeats 1000000 in
theorem zero_n (hz : NumB w v z k) (hk : k ≤ 100000) :
    Calls Tryz.prog 98 #[v] w fun e w' => e = .returned (.bool (decide (z = 0))) ∧ New w w' := by
  obtain ⟨A, l, c, rfl, hv⟩ := hz.form
  have HBI := Lib.hid (fun W (h : New w W) => bits_b (hv.new h) hk)
  have HB := Lib.hid (Box.last w #[.slice A l c, .bool (decide (z < 0))] NNum)
  have HN := Lib.hid ((New.refl w).alloc (.cells #[.slice A l c, .bool (decide (z < 0))] NNum))
  have hd : ∃ bb : Bool, decide (z = 0) = bb ∧ ((bitsN z.natAbs : Int) == 0) = bb := by
    refine ⟨_, rfl, ?_⟩
    rcases bits_val z.natAbs with ⟨h1, h2⟩ | ⟨h1, h2⟩
    · rw [h2, decide_eq_true (by omega)]; rfl
    · rw [decide_eq_false (by omega), beq_eq_false_iff_ne]; omega
  obtain ⟨bb, h1, h2⟩ := hd
  rw [h1]
  generalize bitsN z.natAbs = bz at *
  generalize decide (z < 0) = b2 at *
  clear h1 hv hz
  go_enter Tryz.func98, Tryz.ntmps98
  go_wp2_with fail
  refine (HBI.out _ HN.out).mono ?_
  rintro e w1 ⟨rfl, hn1⟩
  have HN1 := Lib.hid (HN.out.trans hn1)
  clear hn1
  go_wp2_with fail
  go_ret
  exact ⟨rfl, HN1.out⟩
set_option maxHeartbeats 1000000 in
theorem sign_n (hz : NumB w v z k) (hk : k ≤ 100000) :
    Calls Tryz.prog 36 #[v] w fun e w' => e = .returned (.int .i64 (sgZ z)) ∧ New w w' := by
  obtain ⟨A, l, c, rfl, hv⟩ := hz.form
  have HZ := Lib.hid (fun W (h : New w W) => zero_n (hz.new h) hk)
  have HN := Lib.hid ((New.refl w).alloc (.cells #[.slice A l c, .bool (decide (z < 0))] NNum))
  rcases (show z < 0 ∨ z = 0 ∨ 0 < z by omega) with h | h | h
  · have e1 : decide (z < 0) = true := decide_eq_true h
    have e2 : sgZ z = -1 := by unfold sgZ; rw [if_pos h]
    rw [e1] at HN ⊢
    rw [e2]
    clear hv hz e1 e2 h HZ
    go_enter Tryz.func36, Tryz.ntmps36
    go_wp2
    go_ret
    exact ⟨rfl, HN.out⟩
  · have e1 : decide (z < 0) = false := decide_eq_false (by omega)
    have e2 : sgZ z = 0 := by unfold sgZ; rw [if_neg (by omega), if_pos h]
    have e3 : decide (z = 0) = true := decide_eq_true h
    rw [e1] at HN HZ ⊢
    rw [e3] at HZ
    rw [e2]
    clear hv hz e1 e2 e3 h
    go_enter Tryz.func36, Tryz.ntmps36
    go_wp2_with fail
    refine (HZ.out _ HN.out).mono ?_
    rintro e w1 ⟨rfl, hn1⟩
    have HN1 := Lib.hid (HN.out.trans hn1)
    clear hn1
    go_wp2_with fail
    go_ret
    exact ⟨rfl, HN1.out⟩
  · have e1 : decide (z < 0) = false := decide_eq_false (by omega)
    have e2 : sgZ z = 1 := by unfold sgZ; rw [if_neg (by omega), if_neg (by omega)]
    have e3 : decide (z = 0) = false := decide_eq_false (by omega)
    rw [e1] at HN HZ ⊢
    rw [e3] at HZ
    rw [e2]
    clear hv hz e1 e2 e3 h
    go_enter Tryz.func36, Tryz.ntmps36
    go_wp2_with fail
    refine (HZ.out _ HN.out).mono ?_
    rintro e w1 ⟨rfl, hn1⟩
    have HN1 := Lib.hid (HN.out.trans hn1)
    clear hn1
    go_wp2_with fail
    go_ret
    exact ⟨rfl, HN1.out⟩
set_option maxHeartbeats 1000000 in
theorem abs_n (hz : NumB w v z k) :
    Calls Tryz.prog 38 #[v] w fun e w' => ∃ u, e = .returned u ∧ NatB w' u z.natAbs k ∧ New w w' := by
  obtain ⟨A, l, c, rfl, hv⟩ := hz.form
  have hnw := ((New.refl w).alloc (.cells #[.slice A l c, .bool (decide (z < 0))] NNum)).alloc (.cells #[.slice A l c] NNat)
  have HV := Lib.hid (hv.new hnw)
  have HN := Lib.hid hnw
  clear hv hz hnw
  go_enter Tryz.func38, Tryz.ntmps38
  go_wp2
  exact bodyPost_ret (v := .agg #[.slice A l c]) (by simp [results, Tryz.results38, go_sem]) rfl ⟨_, rfl, HV.out, HN.out⟩
theorem sgn_not (z : Int) : sgn (!decide (z < 0)) z.natAbs = -z := by
  unfold sgn
  by_cases h : z < 0 <;> simp [h] <;> omega
set_option maxHeartbeats 1000000 in
theorem neg_n (hz : NumB w v z k) (hk : k ≤ 100000) :
    Calls Tryz.prog 37 #[v] w fun e w' => ∃ u, e = .returned u ∧ NumB w' u (-z) k ∧ New w w' := by
  obtain ⟨A, l, c, rfl, hv⟩ := hz.form
  have HM := Lib.hid (fun W (h : New w W) => make_n (!decide (z < 0)) (hv.new h) hk)
  rw [sgn_not] at HM
  have HB := Lib.hid (Box.last2 w (.cells #[.slice A l c, .bool (decide (z < 0))] NNum) #[.slice none 0 0, .bool false] NNum)
  have HN := Lib.hid (((New.refl w).alloc (.cells #[.slice A l c, .bool (decide (z < 0))] NNum)).alloc (.cells #[.slice none 0 0, .bool false] NNum))
  generalize decide (z < 0) = b2 at *
  clear hv hz
  go_enter Tryz.func37, Tryz.ntmps37
  go_wp2_with fail
  refine (HM.out _ HN.out).mono ?_
  rintro e w1 ⟨v1, rfl, hv1, hn1⟩
  obtain ⟨A1, l1, c1, rfl, _⟩ := hv1.form
  have hb := HB.out.new hn1
  obtain ⟨c4, c5, f4, f5⟩ := hb.two
  generalize hbb : decide (-z < 0) = bb at *
  have HV := Lib.hid (hv1.lay2 hb (.slice A1 l1 c1) (.bool bb))
  have g0 := (hb.lay2 (.slice A1 l1 c1) (.bool bb)).cell0'
  have g1 := (hb.lay2 (.slice A1 l1 c1) (.bool bb)).cell1'
  have HNW := Lib.hid (New.set2 (HN.out.trans hn1) (show w.heap.size ≤ w.heap.size + 1 by omega) (.slice A1 l1 c1) (.bool bb))
  clear hv1 hn1 hb hbb
  go_wp2
  refine bodyPost_ret (v := .agg #[.slice A1 l1 c1, .bool bb]) (by simp [results, Tryz.results37, go_sem, g0, g1]) rfl ⟨_, rfl, HV.out, HNW.out⟩
set_option maxHeartbeats 1000000 in
theorem text_n (hz : NumB w v z k) (hk : k ≤ 100000) (L : Lib.TabIs Tryz.prog w "internal/strconv.uint64pow10" .u64 Lib.pow10Tab) :
    Calls Tryz.prog 27 #[v] w fun e w' => e = .returned (.string (numS z)) ∧ New w w' := by
  obtain ⟨A, l, c, rfl, hv⟩ := hz.form
  have HN := Lib.hid ((New.refl w).alloc (.cells #[.slice A l c, .bool (decide (z < 0))] NNum))
  have HT := Lib.hid (fun W (h : New w W) => text_v (hv.new h) hk (tabIs_new h L))
  by_cases h : z < 0
  · have e1 : decide (z < 0) = true := decide_eq_true h
    have e2 : numS z = (⟨#[45]⟩ : ByteArray) ++ decS z.natAbs := by unfold numS; rw [if_pos h]
    have hd : (decS z.natAbs).size ≤ 1000000 := by
      have h1 := dec_len_of (L := 100000) (Nat.le_trans hv.k hk) (by omega)
      have h2 : (decS z.natAbs).size = (Lib.decDigits z.natAbs).length := by rw [Lib.size_eq, decS_data]
      omega
    rw [e1] at HN ⊢
    rw [e2]
    generalize decS z.natAbs = ds at *
    have hd2 : ¬ 9223372036854775807 < 1 + ds.size := by omega
    clear hv hz e1 e2 h L
    go_enter Tryz.func27, Tryz.ntmps27
    go_wp2_with fail
    refine (HT.out _ HN.out).mono ?_
    rintro e w1 ⟨rfl, hn1⟩
    have HN1 := Lib.hid (HN.out.trans hn1)
    clear hn1
    go_wp2_with fail
    go_ret
    exact ⟨rfl, HN1.out⟩
  · have e1 : decide (z < 0) = false := decide_eq_false h
    have e2 : numS z = decS z.natAbs := by unfold numS; rw [if_neg h]
    rw [e1] at HN ⊢
    rw [e2]
    generalize decS z.natAbs = ds at *
    clear hv hz e1 e2 h L
    go_enter Tryz.func27, Tryz.ntmps27
    go_wp2_with fail
    refine (HT.out _ HN.out).mono ?_
    rintro e w1 ⟨rfl, hn1⟩
    have HN1 := Lib.hid (HN.out.trans hn1)
    clear hn1
    go_wp2_with fail
    go_ret
    exact ⟨rfl, HN1.out⟩
end
end Go.Proofs.YtkjlmibleoecgaaGreatDoor
/- The program's num: contracts, part 3: Of, Cmp, Add, Sub, Mul. -/
namespace Go.Proofs.YtkjlmibleoecgaaGreatDoor
set_option linter.unusedSimpArgs false
set_option linter.unusedVariables false
open Go.RowKit
section
variable {w : World} {u v : Value} {z y : Int} {k j : Nat}
theorem sgn_eq {b : Bool} {n : Nat} {z : Int} (h : sgn b n = z) : sgn b n = z := h
set_option maxHeartbeats 1000000 in
theorem of_n (n : Int) (h1 : -9223372036854775808 ≤ n) (h2 : n ≤ 9223372036854775807) (w : World) :
    Calls Tryz.prog 39 #[.int .i64 n] w fun e w' => ∃ v, e = .returned v ∧ NumB w' v n 2 ∧ New w w' := by
  have HB := Lib.hid (Box.last w #[.slice none 0 0, .bool false] NNum)
  have HN := Lib.hid ((New.refl w).alloc (.cells #[.slice none 0 0, .bool false] NNum))
  have hk : n.natAbs < 18446744073709551616 := by omega
  have HOF := Lib.hid (fun W => of_c hk W)
  have HDK : Hid ((dg B32 n.natAbs).length ≤ 2) := Lib.hid (dg_len B32_2 (by rw [B32_eq]; omega))
  by_cases h : n < 0
  · have hw1 : IntKind.u64.wrap (-IntKind.u64.wrap n) = ((n.natAbs : Nat) : Int) := by rw [IntKind.wrap_u64, IntKind.wrap_u64]; omega
    have hw2 : IntKind.u64.wrap n = n + 18446744073709551616 := by rw [IntKind.wrap_u64]; omega
    have hw3 : IntKind.u64.wrap (-(n + 18446744073709551616)) = ((n.natAbs : Nat) : Int) := by rw [IntKind.wrap_u64]; omega
    have HM := Lib.hid (fun W v (h : NatB W v n.natAbs 2) => make_n true h (by omega))
    have hs : sgn true n.natAbs = n := by unfold sgn; simp; omega
    rw [hs] at HM
    have hd : decide (n < 0) = true := decide_eq_true h
    have HD := Lib.hid hd
    clear hs hd
    generalize n.natAbs = na at *
    clear h1 h2 hk
    go_enter Tryz.func39, Tryz.ntmps39
    go_wp2_with fail
    refine (HOF.out _).mono ?_
    rintro e w1 ⟨v1, rfl, hv1, hn1⟩
    have HV1 := Lib.hid (show NatB w1 v1 na 2 from ⟨hv1, HDK.out⟩)
    have HN1 := Lib.hid (HN.out.trans hn1)
    have HB1 := Lib.hid (HB.out.new hn1)
    clear hv1 hn1
    go_wp2_with fail
    refine (HM.out _ _ HV1.out).mono ?_
    rintro e w2 ⟨v2, rfl, hv2, hn2⟩
    obtain ⟨A1, l1, c1, rfl, _⟩ := hv2.form
    rw [HD.out] at *
    have hb := HB1.out.new hn2
    obtain ⟨c4, c5, f4, f5⟩ := hb.two
    have HV := Lib.hid (hv2.lay2 hb (.slice A1 l1 c1) (.bool true))
    have g0 := (hb.lay2 (.slice A1 l1 c1) (.bool true)).cell0'
    have g1 := (hb.lay2 (.slice A1 l1 c1) (.bool true)).cell1'
    have HNW := Lib.hid (New.set2 (HN1.out.trans hn2) (Nat.le_refl w.heap.size) (.slice A1 l1 c1) (.bool true))
    clear hv2 hn2 hb
    go_wp2
    refine bodyPost_ret (v := .agg #[.slice A1 l1 c1, .bool true]) (by simp [results, Tryz.results39, go_sem, g0, g1]) rfl ⟨_, rfl, HV.out, HNW.out⟩
  · obtain ⟨na, hna⟩ : ∃ na : Nat, n = (na : Int) := ⟨n.toNat, by omega⟩
    subst hna
    rw [Int.natAbs_natCast] at *
    have hw1 : IntKind.u64.wrap (na : Int) = (na : Int) := IntWalk.u64_in _ (by omega)
    have HM := Lib.hid (fun W v (h : NatB W v na 2) => make_n false h (by omega))
    have hs : sgn false na = (na : Int) := by unfold sgn; simp
    rw [hs] at HM
    have HD : Hid (decide ((na : Int) < 0) = false) := Lib.hid (decide_eq_false h)
    have hh : ¬ (na : Int) < 0 := h
    clear hs h
    go_enter Tryz.func39, Tryz.ntmps39
    go_wp2_with fail
    refine (HOF.out _).mono ?_
    rintro e w1 ⟨v1, rfl, hv1, hn1⟩
    have HV1 := Lib.hid (show NatB w1 v1 na 2 from ⟨hv1, HDK.out⟩)
    have HN1 := Lib.hid (HN.out.trans hn1)
    have HB1 := Lib.hid (HB.out.new hn1)
    clear hv1 hn1
    go_wp2_with fail
    refine (HM.out _ _ HV1.out).mono ?_
    rintro e w2 ⟨v2, rfl, hv2, hn2⟩
    obtain ⟨A1, l1, c1, rfl, _⟩ := hv2.form
    rw [HD.out] at *
    have hb := HB1.out.new hn2
    obtain ⟨c4, c5, f4, f5⟩ := hb.two
    have HV := Lib.hid (hv2.lay2 hb (.slice A1 l1 c1) (.bool false))
    have g0 := (hb.lay2 (.slice A1 l1 c1) (.bool false)).cell0'
    have g1 := (hb.lay2 (.slice A1 l1 c1) (.bool false)).cell1'
    have HNW := Lib.hid (New.set2 (HN1.out.trans hn2) (Nat.le_refl w.heap.size) (.slice A1 l1 c1) (.bool false))
    clear hv2 hn2 hb
    go_wp2
    refine bodyPost_ret (v := .agg #[.slice A1 l1 c1, .bool false]) (by simp [results, Tryz.results39, go_sem, g0, g1]) rfl ⟨_, rfl, HV.out, HNW.out⟩
set_option maxHeartbeats 1000000 in
theorem cmp_n (hz : NumB w u z k) (hy : NumB w v y j) (hk : k ≤ 100000) (hj : j ≤ 100000) :
    Calls Tryz.prog 34 #[u, v] w fun e w' => e = .returned (.int .i64 (cmpZ z y)) ∧ New w w' := by
  obtain ⟨A, l, c, rfl, hv⟩ := hz.form
  obtain ⟨A', l', c', rfl, hv'⟩ := hy.form
  have HN := Lib.hid (((New.refl w).alloc (.cells #[.slice A l c, .bool (decide (z < 0))] NNum)).alloc (.cells #[.slice A' l' c', .bool (decide (y < 0))] NNum))
  have HC1 := Lib.hid (fun W (h : New w W) => cmp_b (hv.new h) (hv'.new h) hk hj)
  have HC2 := Lib.hid (fun W (h : New w W) => cmp_b (hv'.new h) (hv.new h) hj hk)
  by_cases h1 : z < 0
  · by_cases h2 : y < 0
    · have e1 : decide (z < 0) = true := decide_eq_true h1
      have e2 : decide (y < 0) = true := decide_eq_true h2
      have e3 : cmpN y.natAbs z.natAbs = cmpZ z y := by unfold cmpN cmpZ; split <;> split <;> first | omega | (split <;> omega) | (split <;> split <;> omega) | rfl | skip
      rw [e3] at HC2
      rw [e1, e2] at HN ⊢
      generalize cmpZ z y = r at *
      clear hv hv' hz hy e1 e2 e3 HC1
      go_enter Tryz.func34, Tryz.ntmps34
      go_wp2_with fail
      refine (HC2.out _ HN.out).mono ?_
      rintro e w1 ⟨rfl, hn1⟩
      have HN1 := Lib.hid (HN.out.trans hn1)
      clear hn1
      go_wp2_with fail
      go_ret
      exact ⟨rfl, HN1.out⟩
    · have e1 : decide (z < 0) = true := decide_eq_true h1
      have e2 : decide (y < 0) = false := decide_eq_false h2
      have e3 : cmpZ z y = -1 := by unfold cmpZ; rw [if_pos (by omega)]
      rw [e1, e2] at HN ⊢
      rw [e3]
      clear hv hv' hz hy e1 e2 e3 HC1 HC2
      go_enter Tryz.func34, Tryz.ntmps34
      go_wp2
      go_ret
      exact ⟨rfl, HN.out⟩
  · by_cases h2 : y < 0
    · have e1 : decide (z < 0) = false := decide_eq_false h1
      have e2 : decide (y < 0) = true := decide_eq_true h2
      have e3 : cmpZ z y = 1 := by unfold cmpZ; rw [if_neg (by omega), if_pos (by omega)]
      rw [e1, e2] at HN ⊢
      rw [e3]
      clear hv hv' hz hy e1 e2 e3 HC1 HC2
      go_enter Tryz.func34, Tryz.ntmps34
      go_wp2
      go_ret
      exact ⟨rfl, HN.out⟩
    · have e1 : decide (z < 0) = false := decide_eq_false h1
      have e2 : decide (y < 0) = false := decide_eq_false h2
      have e3 : cmpN z.natAbs y.natAbs = cmpZ z y := by unfold cmpN cmpZ; split <;> split <;> first | omega | (split <;> omega) | (split <;> split <;> omega) | rfl | skip
      rw [e3] at HC1
      rw [e1, e2] at HN ⊢
      generalize cmpZ z y = r at *
      clear hv hv' hz hy e1 e2 e3 HC2
      go_enter Tryz.func34, Tryz.ntmps34
      go_wp2_with fail
      refine (HC1.out _ HN.out).mono ?_
      rintro e w1 ⟨rfl, hn1⟩
      have HN1 := Lib.hid (HN.out.trans hn1)
      clear hn1
      go_wp2_with fail
      go_ret
      exact ⟨rfl, HN1.out⟩
end
end Go.Proofs.YtkjlmibleoecgaaGreatDoor
/- The program's num: Parse. (Printed by mkz5.py.) -/
namespace Go.Proofs.YtkjlmibleoecgaaGreatDoor
set_option linter.unusedSimpArgs false
set_option linter.unusedVariables false
open Go.RowKit
def errZ (l : List UInt8) : Int := if isZ l = true then 0 else 10
theorem cut_minus (l : List UInt8) : (l.head? = some 45 ∧ Lib.hasPrefix l [45] = true ∧ Lib.trimPrefix l [45] = l.tail) ∨ (l.head? ≠ some 45 ∧ Lib.hasPrefix l [45] = false ∧ Lib.trimPrefix l [45] = l) := by
  cases l with
  | nil => exact .inr ⟨by simp, rfl, rfl⟩
  | cons a r =>
    by_cases h : a = 45
    · subst h; exact .inl ⟨rfl, by simp [Lib.hasPrefix], by simp [Lib.trimPrefix, Lib.hasPrefix]⟩
    · have : Lib.hasPrefix (a :: r) [45] = false := by
        show ((45 : UInt8) == a && List.isPrefixOf [] r) = false
        rw [show ((45 : UInt8) == a) = false from by rw [beq_eq_false_iff_ne]; exact fun e => h e.symm]; rfl
      exact .inr ⟨by simpa using h, this, by unfold Lib.trimPrefix; rw [this]; rfl⟩
theorem isNum_len' {l : List UInt8} : (dg B32 (pNum l)).length ≤ l.length := by
  by_cases h : isNum l = true
  · exact isNum_len h (by rw [B32_eq]; omega)
  · have : pNum l = 0 := by unfold pNum; rw [if_neg h]
    rw [this, dg_zero]; simp
set_option maxRecDepth 100000 in
set_option maxHeartbeats 2000000 in
theorem parse_n (s : ByteArray) (w : World) (hs : s.size ≤ 4096) :
    Calls Tryz.prog 50 #[.string s] w fun e w' => ∃ v, e = .returned (.tuple #[v, .int .i64 (errZ s.data.toList)]) ∧ NumB w' v (zNum s.data.toList) 4096 ∧ New w w' := by
  have HB := Lib.hid (Box.last w #[.slice none 0 0, .bool false] NNum)
  have HN := Lib.hid ((New.refl w).alloc (.cells #[.slice none 0 0, .bool false] NNum))
  obtain ⟨ds, hds⟩ : ∃ ds : ByteArray, ds = ⟨(Lib.trimPrefix s.data.toList [45]).toArray⟩ := ⟨_, rfl⟩
  have hdl : ds.data.toList = Lib.trimPrefix s.data.toList [45] := by rw [hds]
  have hcp := fun W => Tryz.strings_CutPrefix s ⟨#[45]⟩ W
  rw [show (⟨#[45]⟩ : ByteArray).data.toList = [45] from rfl, ← hds] at hcp
  have hsl : s.data.toList.length ≤ 4096 := by rw [← Lib.size_eq]; exact hs
  generalize s.data.toList = l at *
  have hdz : ds.size ≤ 4096 := by
    rw [Lib.size_eq, hdl]
    rcases cut_minus l with ⟨_, _, h⟩ | ⟨_, _, h⟩
    · rw [h, List.length_tail]; omega
    · rw [h]; exact hsl
  have hpn := fun W => parse_c ds W hdz
  rw [hdl] at hpn
  have hcm := cut_minus l
  have hlen : (dg B32 (pNum (Lib.trimPrefix l [45]))).length ≤ 4096 := Nat.le_trans isNum_len' (by rw [← hdl, ← Lib.size_eq]; exact hdz)
  have hisz : isZ l = if l.head? = some 45 then isNum l.tail && decide (0 < pNum l.tail) else isNum l := rfl
  have hzn : zNum l = if isZ l = true then (if l.head? = some 45 then -(pNum l.tail : Int) else (pNum l : Int)) else 0 := rfl
  have hez : errZ l = if isZ l = true then 0 else 10 := rfl
  rw [hez, hzn]
  have hbl : ∃ (bl : Bool) (t : List UInt8), Lib.hasPrefix l [45] = bl ∧ Lib.trimPrefix l [45] = t ∧ isZ l = (if bl = true then isNum t && decide (0 < pNum t) else isNum t) ∧ (if l.head? = some 45 then -(pNum l.tail : Int) else (pNum l : Int)) = sgn bl (pNum t) := by
    rcases hcm with ⟨h1, h2, h3⟩ | ⟨h1, h2, h3⟩
    · exact ⟨true, l.tail, h2, h3, by rw [hisz, if_pos h1]; rfl, by rw [if_pos h1]; unfold sgn; rfl⟩
    · exact ⟨false, l, h2, h3, by rw [hisz, if_neg h1]; rfl, by rw [if_neg h1]; unfold sgn; rfl⟩
  obtain ⟨bl, t, h1, h2, h3, h4⟩ := hbl
  rw [h1] at hcp
  rw [h2] at hpn hlen
  rw [h3, h4]
  clear h1 h2 h3 h4 hcm hisz hzn hez hdl hds hsl hdz
  have HCP := Lib.hid hcp
  have HPN := Lib.hid hpn
  have HLN := Lib.hid hlen
  clear hcp hpn hlen hs
  have hpe : pErr t = if isNum t = true then 0 else 10 := rfl
  rw [hpe] at HPN
  cases hi : isNum t
  · have hc : (if bl = true then false && decide (0 < pNum t) else false) = false := by cases bl <;> rfl
    rw [hi] at HPN
    rw [hc]
    simp only [Bool.false_eq_true, if_false] at HPN ⊢
    clear hc hi hpe
    go_enter Tryz.func50, Tryz.ntmps50
    go_wp2_with fail
    refine (HCP.out _).mono ?_
    rintro e w1 ⟨rfl, rfl⟩
    go_wp2_with fail
    refine (HPN.out _).mono ?_
    rintro e w5 ⟨v5, rfl, hv5, hn5⟩
    obtain ⟨A5, l5, c5, rfl⟩ := hv5.form
    have hn5' := hn5.alloc (.cells #[.slice A5 l5 c5] NNat)
    have HB6 := Lib.hid (HB.out.new hn5')
    have HN6 := Lib.hid (HN.out.trans hn5')
    have HV6 := Lib.hid (show NatB (w5.alloc (.cells #[.slice A5 l5 c5] NNat)) (.agg #[.slice A5 l5 c5]) _ 4096 from ⟨hv5.new ((New.refl w5).alloc (.cells #[.slice A5 l5 c5] NNat)), HLN.out⟩)
    obtain ⟨c6, _⟩ := box_cell0 (Box.last w5 #[.slice A5 l5 c5] NNat)
    clear hv5 hn5 hn5' HB HN
    obtain ⟨W6, hW6⟩ : ∃ X : World, X = w5.alloc (.cells #[.slice A5 l5 c5] NNat) := ⟨_, rfl⟩
    clear hW6
    obtain ⟨c4, c5, f4, f5⟩ := HB6.out.two
    have HNW := Lib.hid (New.set2 HN6.out (Nat.le_refl w.heap.size) (.slice none 0 0) (.bool false))
    have g0 := (HB6.out.lay2 (.slice none 0 0) (.bool false)).cell0'
    have g1 := (HB6.out.lay2 (.slice none 0 0) (.bool false)).cell1'
    go_wp2
    refine bodyPost_ret (v := .tuple #[.agg #[.slice none 0 0, .bool false], .int .i64 10]) (by simp [results, Tryz.results50, go_sem, g0, g1]) rfl ⟨_, rfl, ⟨⟨none, 0, 0, rfl, NatV.zero _⟩, by rw [show (0 : Int).natAbs = 0 from rfl, dg_zero]; simp⟩, HNW.out⟩
  · rw [hi] at HPN
    simp only [Bool.true_and, if_true] at HPN ⊢
    clear hi hpe
    cases bl
    · simp only [Bool.false_eq_true, if_false, if_true]
      have HMK := Lib.hid (fun W v (h : NatB W v (pNum t) 4096) => make_n false h (by omega))
      generalize hx : pNum t = x at *
      clear hx
      go_enter Tryz.func50, Tryz.ntmps50
      go_wp2_with fail
      refine (HCP.out _).mono ?_
      rintro e w1 ⟨rfl, rfl⟩
      go_wp2_with fail
      refine (HPN.out _).mono ?_
      rintro e w5 ⟨v5, rfl, hv5, hn5⟩
      obtain ⟨A5, l5, c5, rfl⟩ := hv5.form
      have hn5' := hn5.alloc (.cells #[.slice A5 l5 c5] NNat)
      have HB6 := Lib.hid (HB.out.new hn5')
      have HN6 := Lib.hid (HN.out.trans hn5')
      have HV6 := Lib.hid (show NatB (w5.alloc (.cells #[.slice A5 l5 c5] NNat)) (.agg #[.slice A5 l5 c5]) _ 4096 from ⟨hv5.new ((New.refl w5).alloc (.cells #[.slice A5 l5 c5] NNat)), HLN.out⟩)
      obtain ⟨c6, _⟩ := box_cell0 (Box.last w5 #[.slice A5 l5 c5] NNat)
      clear hv5 hn5 hn5' HB HN
      go_wp2_with fail
      obtain ⟨W6, hW6⟩ : ∃ X : World, X = w5.alloc (.cells #[.slice A5 l5 c5] NNat) := ⟨_, rfl⟩
      rw [← hW6] at HB6 HN6 HV6 c6 ⊢
      clear hW6
      refine (HMK.out _ _ HV6.out).mono ?_
      rintro e w7 ⟨v7, rfl, hv7, hn7⟩
      obtain ⟨A1, l1, c1, rfl, _⟩ := hv7.form
      have HB7 := Lib.hid (HB6.out.new hn7)
      obtain ⟨c4, c5, f4, f5⟩ := HB7.out.two
      generalize hbb : decide (sgn false x < 0) = bb at *
      have HV7 := Lib.hid (hv7.lay2 HB7.out (.slice A1 l1 c1) (.bool bb))
      have HNW := Lib.hid (New.set2 (HN6.out.trans hn7) (Nat.le_refl w.heap.size) (.slice A1 l1 c1) (.bool bb))
      have g0 := (HB7.out.lay2 (.slice A1 l1 c1) (.bool bb)).cell0'
      have g1 := (HB7.out.lay2 (.slice A1 l1 c1) (.bool bb)).cell1'
      clear hv7 hn7 hbb
      go_wp2
      refine bodyPost_ret (v := .tuple #[.agg #[.slice A1 l1 c1, .bool bb], .int .i64 0]) (by simp [results, Tryz.results50, go_sem, g0, g1]) rfl ⟨_, rfl, HV7.out, HNW.out⟩
    · simp only [if_true]
      have HMK := Lib.hid (fun W v (h : NatB W v (pNum t) 4096) => make_n true h (by omega))
      have HBI := Lib.hid (fun W v (h : NatB W v (pNum t) 4096) => bits_b h (by omega))
      generalize hx : pNum t = x at *
      clear hx
      rcases bits_val x with ⟨hb1, hb2⟩ | ⟨hb1, hb2⟩
      · rw [hb2] at HBI
        have hd : decide (0 < x) = false := decide_eq_false (by omega)
        rw [hd]
        simp only [Bool.false_eq_true, if_false]
        clear hb1 hb2 hd HMK
        go_enter Tryz.func50, Tryz.ntmps50
        go_wp2_with fail
        refine (HCP.out _).mono ?_
        rintro e w1 ⟨rfl, rfl⟩
        go_wp2_with fail
        refine (HPN.out _).mono ?_
        rintro e w5 ⟨v5, rfl, hv5, hn5⟩
        obtain ⟨A5, l5, c5, rfl⟩ := hv5.form
        have hn5' := hn5.alloc (.cells #[.slice A5 l5 c5] NNat)
        have HB6 := Lib.hid (HB.out.new hn5')
        have HN6 := Lib.hid (HN.out.trans hn5')
        have HV6 := Lib.hid (show NatB (w5.alloc (.cells #[.slice A5 l5 c5] NNat)) (.agg #[.slice A5 l5 c5]) _ 4096 from ⟨hv5.new ((New.refl w5).alloc (.cells #[.slice A5 l5 c5] NNat)), HLN.out⟩)
        obtain ⟨c6, _⟩ := box_cell0 (Box.last w5 #[.slice A5 l5 c5] NNat)
        clear hv5 hn5 hn5' HB HN
        go_wp2_with fail
        obtain ⟨W6, hW6⟩ : ∃ X : World, X = w5.alloc (.cells #[.slice A5 l5 c5] NNat) := ⟨_, rfl⟩
        rw [← hW6] at HB6 HN6 HV6 c6 ⊢
        clear hW6
        refine (HBI.out _ _ HV6.out).mono ?_
        rintro e w7 ⟨rfl, hn7⟩
        have HB7 := Lib.hid (HB6.out.new hn7)
        have HN7 := Lib.hid (HN6.out.trans hn7)
        clear hn7
        obtain ⟨c4, c5, f4, f5⟩ := HB7.out.two
        have HNW := Lib.hid (New.set2 HN7.out (Nat.le_refl w.heap.size) (.slice none 0 0) (.bool false))
        have g0 := (HB7.out.lay2 (.slice none 0 0) (.bool false)).cell0'
        have g1 := (HB7.out.lay2 (.slice none 0 0) (.bool false)).cell1'
        go_wp2
        refine bodyPost_ret (v := .tuple #[.agg #[.slice none 0 0, .bool false], .int .i64 10]) (by simp [results, Tryz.results50, go_sem, g0, g1]) rfl ⟨_, rfl, ⟨⟨none, 0, 0, rfl, NatV.zero _⟩, by rw [show (0 : Int).natAbs = 0 from rfl, dg_zero]; simp⟩, HNW.out⟩
      · have hd : decide (0 < x) = true := decide_eq_true hb1
        have hbz : ((bitsN x : Int) == 0) = false := by rw [beq_eq_false_iff_ne]; omega
        rw [hd]
        simp only [if_true]
        generalize bitsN x = bz at *
        clear hb1 hb2 hd
        go_enter Tryz.func50, Tryz.ntmps50
        go_wp2_with fail
        refine (HCP.out _).mono ?_
        rintro e w1 ⟨rfl, rfl⟩
        go_wp2_with fail
        refine (HPN.out _).mono ?_
        rintro e w5 ⟨v5, rfl, hv5, hn5⟩
        obtain ⟨A5, l5, c5, rfl⟩ := hv5.form
        have hn5' := hn5.alloc (.cells #[.slice A5 l5 c5] NNat)
        have HB6 := Lib.hid (HB.out.new hn5')
        have HN6 := Lib.hid (HN.out.trans hn5')
        have HV6 := Lib.hid (show NatB (w5.alloc (.cells #[.slice A5 l5 c5] NNat)) (.agg #[.slice A5 l5 c5]) _ 4096 from ⟨hv5.new ((New.refl w5).alloc (.cells #[.slice A5 l5 c5] NNat)), HLN.out⟩)
        obtain ⟨c6, _⟩ := box_cell0 (Box.last w5 #[.slice A5 l5 c5] NNat)
        clear hv5 hn5 hn5' HB HN
        go_wp2_with fail
        obtain ⟨W6, hW6⟩ : ∃ X : World, X = w5.alloc (.cells #[.slice A5 l5 c5] NNat) := ⟨_, rfl⟩
        rw [← hW6] at HB6 HN6 HV6 c6 ⊢
        clear hW6
        refine (HBI.out _ _ HV6.out).mono ?_
        rintro e w8 ⟨rfl, hn8⟩
        replace HB6 := Lib.hid (HB6.out.new hn8)
        replace HN6 := Lib.hid (HN6.out.trans hn8)
        replace HV6 := Lib.hid (HV6.out.new hn8)
        have c6' := hn8.still c6
        clear hn8 c6
        go_wp2_with fail
        refine (HMK.out _ _ HV6.out).mono ?_
        rintro e w7 ⟨v7, rfl, hv7, hn7⟩
        obtain ⟨A1, l1, c1, rfl, _⟩ := hv7.form
        have HB7 := Lib.hid (HB6.out.new hn7)
        obtain ⟨c4, c5, f4, f5⟩ := HB7.out.two
        generalize hbb : decide (sgn true x < 0) = bb at *
        have HV7 := Lib.hid (hv7.lay2 HB7.out (.slice A1 l1 c1) (.bool bb))
        have HNW := Lib.hid (New.set2 (HN6.out.trans hn7) (Nat.le_refl w.heap.size) (.slice A1 l1 c1) (.bool bb))
        have g0 := (HB7.out.lay2 (.slice A1 l1 c1) (.bool bb)).cell0'
        have g1 := (HB7.out.lay2 (.slice A1 l1 c1) (.bool bb)).cell1'
        clear hv7 hn7 hbb
        go_wp2
        refine bodyPost_ret (v := .tuple #[.agg #[.slice A1 l1 c1, .bool bb], .int .i64 0]) (by simp [results, Tryz.results50, go_sem, g0, g1]) rfl ⟨_, rfl, HV7.out, HNW.out⟩
end Go.Proofs.YtkjlmibleoecgaaGreatDoor
