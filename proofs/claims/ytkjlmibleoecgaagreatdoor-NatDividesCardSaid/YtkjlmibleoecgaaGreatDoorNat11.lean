/- The program's nat, part 11: Text. -/
import Derived.Test.YtkjlmibleoecgaaGreatDoorNat9
import Derived.Test.YtkjlmibleoecgaaGreatDoorK5
import Derived.Test.YtkjlmibleoecgaaGreatDoorK6
import Derived.Lib.LazyBuf
namespace Go.Proofs.YtkjlmibleoecgaaGreatDoor
open Go.RowKit
open Go.Lib (decDigits)
set_option linter.unusedSimpArgs false
set_option linter.unusedVariables false
set_option exponentiation.threshold 100

abbrev encS : ByteArray → Value := fun b : ByteArray => Value.string b
theorem info_string : (Tryz.prog.info? 9).map (fun i => (i.zero, i.size, i.bytes)) = some (some (.string ⟨#[]⟩), 1, 16) := by kernel_rfl
/-- The pieces' bytes, the last piece ahead. -/
def cat (ps : List ByteArray) : List UInt8 := (ps.reverse.map (·.data.toList)).flatten
theorem cat_snoc (ps : List ByteArray) (p : ByteArray) : cat (ps ++ [p]) = p.data.toList ++ cat ps := by simp [cat]
/-- What is left to be said, and the pieces. -/
def rest (m : Nat) : List UInt8 := if m = 0 then [] else decDigits m
theorem repeat_zero (c : Nat) : Lib.repeatL [48] c = List.replicate c 48 := by
  induction c with
  | zero => rfl
  | succ c ih => rw [Lib.repeatL, ih]; rfl
theorem rest_step {m : Nat} (h : 0 < m) : rest m = rest (m / 1000000000) ++ (if m / 1000000000 = 0 then decDigits (m % 1000000000) else pad9 (decDigits (m % 1000000000))) := by
  unfold rest
  rw [if_neg (by omega)]
  by_cases h1 : m / 1000000000 = 0
  · rw [if_pos h1, if_pos h1, Nat.mod_eq_of_lt (by omega)]; rfl
  · rw [if_neg h1, if_neg h1]; exact dec_nine (by omega)
theorem many_le {m n L k : Nat} (h0 : 0 < m) (h : m * 2 ^ k ≤ n) (hl : (dg B32 n).length ≤ L) : k < 32 * L := by
  have h1 := dg_lt_pow B32_2 n
  have h2 : B32 ^ (dg B32 n).length ≤ B32 ^ L := Nat.pow_le_pow_right (by rw [B32_eq]; omega) hl
  have h3 : 2 ^ k ≤ m * 2 ^ k := Nat.le_mul_of_pos_left _ h0
  have h4 : B32 ^ L = 2 ^ (32 * L) := by rw [B32_eq, Nat.pow_mul]
  exact (Nat.pow_lt_pow_iff_right (a := 2) (by omega)).1 (by omega)

theorem dec_len_of {n L : Nat} (hl : (dg B32 n).length ≤ L) (h0 : 0 < L) : (decDigits n).length ≤ 10 * L := by
  have h1 := dg_lt_pow B32_2 n
  have h2 : B32 ^ (dg B32 n).length ≤ B32 ^ L := Nat.pow_le_pow_right (by rw [B32_eq]; omega) hl
  have h3 : B32 ^ L ≤ (10 ^ 10) ^ L := Nat.pow_le_pow_left (by rw [B32_eq]; omega) _
  rw [← Nat.pow_mul] at h3
  have h4 : n < 10 ^ (10 * L) := Nat.lt_of_lt_of_le h1 (Nat.le_trans h2 h3)
  exact dec_len_le h4 (by omega)
set_option maxRecDepth 100000 in
set_option maxHeartbeats 4000000 in
theorem text_c {n : Nat} {u : Value} {w : World} (hx : NatV w u n) (hl : (dg B32 n).length ≤ 1000000) (htab : Lib.TabIs Tryz.prog w "internal/strconv.uint64pow10" .u64 Lib.pow10Tab) :
    Calls Tryz.prog 16 #[u] w fun e w' => e = .returned (.string ⟨(decDigits n).toArray⟩) ∧ New w w' := by
  obtain ⟨A, l, c, rfl⟩ := hx.form
  have HT := Lib.hid htab
  have hbx := Box.last w #[.slice A l c] 26
  have hxv := hx.new ((New.refl w).alloc (.cells #[.slice A l c] 26))
  have hlen : l = (dg B32 n).length := by obtain ⟨_, e, A', c', rfl, _⟩ := hx; simp at e; omega
  by_cases h0 : n = 0
  · subst h0
    rw [dg_zero] at hlen
    have hl0 : l = 0 := hlen
    subst hl0
    clear hbx hxv htab hlen hl hx
    go_enter Tryz.func16, Tryz.ntmps16
    go_wp2
    go_ret
    exact ⟨by rw [show decDigits 0 = [48] from dec_small (by omega)]; rfl, (New.refl w).alloc _⟩
  · have hl0 : 0 < l := by
      rw [hlen]; refine List.length_pos_iff.2 fun h => h0 ((dg_nil B32_2).1 h)
    have hl0b : ((l : Int) == 0) = false := by rw [beq_eq_false_iff_ne]; omega
    have HX := Lib.hid hxv
    have HB := Lib.hid hbx
    have HLEN := Lib.hid hlen
    have HN := Lib.hid ((New.refl w).alloc (.cells #[.slice A l c] 26))
    have HREST := Lib.hid (show decDigits n = rest n ++ cat [] by unfold rest; rw [if_neg h0]; simp [cat])
    clear hbx hxv hlen htab hx
    go_enter Tryz.func16, Tryz.ntmps16
    go_wp2
    generalize w.alloc (.cells #[.slice A l c] 26) = W0 at *
    go_loopw [3, 4, 5] (fun v3 _ _ w' => ∃ (ps : List ByteArray) (B : Option Addr) (k : Nat) (m : Nat) (A : Option Addr) (l c : Nat), v3 = .slice B ps.length k ∧ Hid (OwnE encS 9 w.heap.size w' (.slice B ps.length k) ps) ∧ Hid (Box w' w.heap.size #[.slice A l c] 26) ∧ Hid (NatV w' (.agg #[.slice A l c]) m) ∧ Hid (l = (dg B32 m).length) ∧ Hid (m * 2 ^ ps.length ≤ n) ∧ Hid (decDigits n = rest m ++ cat ps) ∧ Hid (ps ≠ [] ∨ 0 < m) ∧ ps.length ≤ 32000000 ∧ Hid (New w w')) (fun v3 _ _ _ => match v3 with | .slice _ l _ => 40000000 - l | _ => 0)
    case atStart => exact ⟨[], none, 0, n, A, l, c, rfl, OwnE.nil _ _ _ _, HB.out, HX.out, HLEN.out, (show n * 2 ^ 0 ≤ n by simp), HREST.out, Or.inr (by omega), by simp, HN.out⟩
    case round =>
      obtain ⟨ps, B, k, m, A1, l1, c1, rfl, HO, HB1, HV1, HL1, HM, HR, HNE, hpsl, HNW⟩ := hrel
      by_cases hm : 0 < m
      · have hml : 0 < l1 := by
          rw [HL1.out]; exact List.length_pos_iff.2 fun h => by rw [dg_nil B32_2] at h; omega
        have hmn : m ≤ n := Nat.le_trans (Nat.le_mul_of_pos_right m (Nat.pow_pos (by omega))) HM.out
        have hdl : (dg B32 m).length ≤ 1000000 := Nat.le_trans (dg_len_mono B32_2 hmn) hl
        have hpl := many_le hm HM.out hl
        have hc1 : wr.cell? ⟨w.heap.size, 0, none⟩ = some (.slice A1 l1 c1) := HB1.out.cell 0
        have HP := Lib.hid (parted_c HV1.out (by_ := 1000000000) (by omega) (by rw [B32_eq]; omega) (by omega))
        clear hdl
        have hrs := rest_step hm
        have hq2 : m / 1000000000 * 2 ^ (ps.length + 1) ≤ n := by
          have h1 : m / 1000000000 * 2 ≤ m := by omega
          have h2 : m / 1000000000 * 2 * 2 ^ ps.length ≤ m * 2 ^ ps.length := Nat.mul_le_mul_right _ h1
          have h3 := HM.out
          rw [Nat.pow_succ, Nat.mul_comm (2 ^ ps.length) 2, ← Nat.mul_assoc]; omega
        have hr9 : m % 1000000000 < 1000000000 := Nat.mod_lt _ (by omega)
        generalize m % 1000000000 = r at *
        generalize m / 1000000000 = q at *
        have HRS := Lib.hid hrs
        have HQ2 := Lib.hid hq2
        clear hrs hq2
        go_wp2_with fail
        refine HP.out.mono ?_
        rintro e w1 ⟨v1, rfl, hv1, hn1⟩
        obtain ⟨A2, l2, c2, rfl⟩ := hv1.form
        have hl2 : l2 = (dg B32 q).length := by obtain ⟨_, e, A', c', rfl, _⟩ := hv1; simp at e; omega
        have hb1 := HB1.out.new hn1
        have hc2 : w1.cell? ⟨w.heap.size, 0, none⟩ = some (.slice A1 l1 c1) := hb1.cell 0
        have hf2 := hb1.frozen 0
        have HB2 := Lib.hid (hb1.set 0 (.slice A2 l2 c2))
        have HV2 := Lib.hid (hv1.set hb1 (by decide) (i := 0) (.slice A2 l2 c2))
        have HN2 := Lib.hid ((HNW.out.trans hn1).setCell (p := ⟨w.heap.size, 0, none⟩) (Nat.le_refl _) (.slice A2 l2 c2))
        have HO2 := Lib.hid ((HO.out.new hn1).set hb1 (by decide) (i := 0) (.slice A2 l2 c2))
        have HL2 := Lib.hid hl2
        clear hb1 hv1 hn1 hl2 HP hc1
        go_wp2_with fail
        generalize w1.setCell ⟨w.heap.size, 0, none⟩ (.slice A2 l2 c2) = W2 at *
        refine (fmt_c r (by omega) _ (tabIs_new HN2.out HT.out)).mono ?_
        rintro e w2 ⟨rfl, hn2⟩
        have hc3 : w2.cell? ⟨w.heap.size, 0, none⟩ = some (.slice A2 l2 c2) := (HB2.out.new hn2).cell 0
        have hp9 := dec_len_le (u := r) (k := 9) hr9 (by omega)
        generalize hpd : (⟨(decDigits r).toArray⟩ : ByteArray) = p at *
        have hpl2 : p.data.toList = decDigits r := by rw [← hpd]
        have hps : p.size ≤ 9 := by rw [Lib.size_eq, hpl2]; exact hp9
        have HPL := Lib.hid hpl2
        have HB3 := Lib.hid (HB2.out.new hn2)
        have HV3 := Lib.hid (HV2.out.new hn2)
        have HO3 := Lib.hid (HO2.out.new hn2)
        have HN3 := Lib.hid (HN2.out.trans hn2)
        clear hpd hpl2 hp9 hn2
        by_cases hq0 : q = 0
        · subst hq0
          obtain rfl : l2 = 0 := by rw [HL2.out, dg_zero]; rfl
          have hcx := (Box.last w2 #[encS p] 9).cell 0
          have hown := HO3.out.new ((New.refl w2).alloc (.cells #[encS p] 9))
          have hnn := HN3.out.alloc (.cells #[encS p] 9)
          have HCX := Lib.hid hcx
          have HOWN := Lib.hid hown
          have HNN := Lib.hid hnn
          clear hcx hown hnn
          go_wp2_with (at_builtin; refine app_own2 encS w _ rfl _ _ 22 9 rfl (.string ⟨#[]⟩) 16 (by kernel_rfl) info_string rfl (by decide) _ ps rfl HNN.out HOWN.out _ _ _ p rfl HCX.out rfl (by omega) ?_)
          intro A4 c4 w3 hown3 hn3 hkept hsz3
          have HB4 := Lib.hid (hkept _ _ _ _ _ (HB3.out.alloc (.cells #[encS p] 9)) (by decide))
          have HV4 := Lib.hid ((HV3.out.new ((New.refl w2).alloc (.cells #[encS p] 9))).kept (by decide) (fun a b c fr => hkept a b c fr.1 fr.2))
          have HO4 := Lib.hid hown3
          have HN4 := Lib.hid hn3
          have HC4 := Lib.hid (show decDigits n = rest 0 ++ cat (ps ++ [p]) by rw [cat_snoc, HR.out, HRS.out, HPL.out]; simp)
          clear hown3 hn3 hkept hsz3 HCX HOWN HNN
          go_wp2
          go_roundw
          case rel => exact ⟨ps ++ [p], A4, c4, 0, A2, 0, c2, by simp, by rw [List.length_append]; exact HO4.out, HB4.out, HV4.out, HL2.out, by rw [List.length_append]; exact HQ2.out, HC4.out, Or.inl (by simp), by simp; omega, HN4.out⟩
          case measure => simp; omega
        · have hl2p : 0 < l2 := by
            rw [HL2.out]; exact List.length_pos_iff.2 fun h => hq0 ((dg_nil B32_2).1 h)
          obtain ⟨cN, hcN⟩ : ∃ cN, cN + p.size = 9 := ⟨9 - p.size, by omega⟩
          have hc9 : (9 : Int) - (p.size : Int) = (cN : Int) := by omega
          have HRP := Lib.hid (fun W => Tryz.strings_Repeat ⟨#[48]⟩ cN W (by omega) (by show 1 * cN ≤ _; omega))
          have HCN := Lib.hid hcN
          clear hcN
          go_wp2_with fail
          refine (HRP.out _).mono ?_
          rintro e w4 ⟨rfl, hn4⟩
          have hPP : ((⟨(Lib.repeatL [48] cN).toArray⟩ : ByteArray) ++ p).data.toList = if q = 0 then decDigits r else pad9 (decDigits r) := by
            rw [if_neg hq0]
            unfold pad9
            rw [← HPL.out, ← Lib.size_eq, show 9 - p.size = cN by have := HCN.out; omega, repeat_zero]
            simp
          have HB5 := Lib.hid (HB3.out.new hn4)
          have HV5 := Lib.hid (HV3.out.new hn4)
          have HO5 := Lib.hid (HO3.out.new hn4)
          have HN5 := Lib.hid (HN3.out.trans hn4)
          have hzs : (⟨(Lib.repeatL [48] cN).toArray⟩ : ByteArray).size = cN := by rw [Lib.size_eq, repeat_zero]; simp
          generalize (⟨(Lib.repeatL [48] cN).toArray⟩ : ByteArray) = Z at *
          have hzs2 : Z.size ≤ 9 := by have := HCN.out; omega
          clear hzs
          have HPP := Lib.hid hPP
          clear hPP hn4
          have hcx := (Box.last w4 #[encS (Z ++ p)] 9).cell 0
          have hown := HO5.out.new ((New.refl w4).alloc (.cells #[encS (Z ++ p)] 9))
          have hnn := HN5.out.alloc (.cells #[encS (Z ++ p)] 9)
          have HCX := Lib.hid hcx
          have HOWN := Lib.hid hown
          have HNN := Lib.hid hnn
          clear hcx hown hnn
          go_wp2_with (at_builtin; refine app_own2 encS w _ rfl _ _ 22 9 rfl (.string ⟨#[]⟩) 16 (by kernel_rfl) info_string rfl (by decide) _ ps rfl HNN.out HOWN.out _ _ _ (Z ++ p) rfl HCX.out rfl (by omega) ?_)
          intro A4 c4 w3 hown3 hn3 hkept hsz3
          have HB4 := Lib.hid (hkept _ _ _ _ _ (HB5.out.alloc (.cells #[encS (Z ++ p)] 9)) (by decide))
          have HV4 := Lib.hid ((HV5.out.new ((New.refl w4).alloc (.cells #[encS (Z ++ p)] 9))).kept (by decide) (fun a b c fr => hkept a b c fr.1 fr.2))
          have HO4 := Lib.hid hown3
          have HN4 := Lib.hid hn3
          have HC4 := Lib.hid (show decDigits n = rest q ++ cat (ps ++ [Z ++ p]) by rw [cat_snoc, HR.out, HRS.out, HPP.out]; simp)
          clear hown3 hn3 hkept hsz3 HCX HOWN HNN
          go_wp2
          go_roundw
          case rel => exact ⟨ps ++ [Z ++ p], A4, c4, q, A2, l2, c2, by simp, by rw [List.length_append]; exact HO4.out, HB4.out, HV4.out, HL2.out, by rw [List.length_append]; exact HQ2.out, HC4.out, Or.inl (by simp), by simp; omega, HN4.out⟩
          case measure => simp; omega
      · obtain rfl : m = 0 := by omega
        obtain rfl : l1 = 0 := by rw [HL1.out, dg_zero]; rfl
        have hne : ps ≠ [] := HNE.out.elim id (fun h => absurd h (by omega))
        obtain ⟨g, k', e, h1, h2, hBg, ⟨cur, hcur⟩, hcells⟩ := HO.out.at hne
        obtain ⟨rfl, rfl⟩ : B = some ⟨g, 0, none⟩ ∧ k = k' := by simpa using e
        have hc1 : wr.cell? ⟨w.heap.size, 0, none⟩ = some (.slice A1 0 c1) := HB1.out.cell 0
        clear e
        have hcS : ∀ i, i < ps.length → wr.cell? ⟨g, 0 + i, none⟩ = some (.string (ps.getD i ⟨#[]⟩)) := fun i hi => by
          rw [Nat.zero_add, hcells i hi, getD_lt hi]
        have hrev := Tryz.slices_Reverse_string_cells g 0 ps.length k (fun i => ps.getD i ⟨#[]⟩) wr (by unfold maxLen at h2; omega) hcS (fun j hj => Box.frozen (C := cur) (t := 9) hcur _)
        have hso : Lib.strsOf (fun i => ps.getD i ⟨#[]⟩) ps.length = ps.map (·.data.toList) := by
          apply List.ext_getElem
          · simp [Lib.strsOf]
          · intro i a b
            simp only [Lib.strsOf, List.getElem_map, List.getElem_range]
            rw [getD_lt (by simpa using b)]
        rw [hso] at hrev
        have HREV := Lib.hid hrev
        have hlt := lt_of_block hcur
        have HCS := Lib.hid hcS
        clear hrev hso hcS hcells hcur
        go_wp2_with fail
        refine HREV.out.mono ?_
        rintro e w1 ⟨rfl, q, rfl⟩
        go_wp2_with fail
        have hcd : decDigits n = cat ps := by rw [HR.out]; rfl
        have hvs : ∀ j x, ps.reverse[j]? = some x → ((wr.drewN q).setCells g 0 (List.map (encStr ∘ fun x => x.data.toList) ps).reverse).cell? ⟨g, 0 + j, none⟩ = some (.string x) := by
          intro j x hj
          obtain ⟨hj1, hj2⟩ := List.getElem?_eq_some_iff.1 hj
          have hj3 : j < (List.map (encStr ∘ fun x : ByteArray => x.data.toList) ps).reverse.length := by simpa using hj1
          rw [World.cell?_setCells_in g _ 0 (wr.drewN q) (fun i hi => by
            have hi' : i < ps.length := by simpa using hi
            rw [World.cell?_drewN, HCS.out i hi']; rfl) j hj3]
          rw [← hj2]
          simp only [List.getElem_reverse, List.getElem_map, List.length_map]
          rfl
        have hjn : Lib.join (ps.reverse.map (·.data.toList)) (⟨#[]⟩ : ByteArray).data.toList = decDigits n := by
          rw [hcd]
          unfold cat
          generalize ps.reverse.map (·.data.toList) = L
          show Lib.join L [] = L.flatten
          cases L with
          | nil => rfl
          | cons x r => rw [Lib.join_cons]; simp [Lib.joinTail]
        have hd10 : (decDigits n).length ≤ 140737488355328 := by
          have := dec_len_of hl (by omega)
          omega
        have hj := Tryz.strings_Join g 0 k ps.reverse ⟨#[]⟩ ((wr.drewN q).setCells g 0 (List.map (encStr ∘ fun x => x.data.toList) ps).reverse) hvs (Nat.lt_of_lt_of_le hlt (Below.size (Go.below_setCells hBg _ 0 _ (Below.mono ((New.refl wr).drewN q) HNW.out.le)))) (by simp; omega) (by simp; exact h1) (by rw [hjn]; exact hd10)
        rw [hjn, List.length_reverse] at hj
        have hnS : New w ((wr.drewN q).setCells g 0 (List.map (encStr ∘ fun x => x.data.toList) ps).reverse) := Go.below_setCells hBg _ 0 _ (HNW.out.drewN q)
        refine hj.mono ?_
        rintro e w5 ⟨rfl, hn5⟩
        have HF := Lib.hid (hnS.trans hn5)
        clear hvs hj hjn hnS hn5 HREV
        go_wp2
        go_ret
        exact ⟨by rw [hcd]; rfl, HF.out⟩
end Go.Proofs.YtkjlmibleoecgaaGreatDoor
