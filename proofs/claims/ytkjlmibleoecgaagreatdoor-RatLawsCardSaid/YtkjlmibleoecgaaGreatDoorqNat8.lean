/- The program's nat, part 8: Parse. (Printed by mkparse.py.) -/
import Derived.Test.YtkjlmibleoecgaaGreatDoorM0
import Derived.Test.YtkjlmibleoecgaaGreatDoorShelf
import Derived.Deep.RegionWith
import Derived.Deep.RegionHeld3
import Derived.Lib.AtoiErrMem
namespace Go.Proofs.YtkjlmibleoecgaaGreatDoor
set_option linter.unusedSimpArgs false
set_option linter.unusedVariables false
open Go.RowKit

theorem head_at {s : ByteArray} (h : 0 < s.size) : s.data.toList.head? = some (s[0]'h) := by
  obtain ⟨⟨l⟩⟩ := s
  cases l with
  | nil => cases h
  | cons a r => rfl
theorem tens_ascii : ∀ (j : Nat) b, (⟨#[48, 49, 50, 51, 52, 53, 54, 55, 56, 57]⟩ : ByteArray).data.toList[j]? = some b → b.toNat < 128 := by
  intro j b h
  have hm : b ∈ tens := List.mem_of_getElem? h
  have := tens_dig b
  rw [List.contains_iff_mem.2 hm] at this
  simp [dig] at this; omega
/-- How many digits are taken next. -/
def cnt9 (n : Nat) : Nat := (n - 1) % 9 + 1
theorem cnt9_le {n : Nat} (h : 0 < n) : 0 < cnt9 n ∧ cnt9 n ≤ n ∧ cnt9 n ≤ 9 := by unfold cnt9; omega
theorem ten_le {j : Nat} (h : j ≤ 9) : 10 ^ j ≤ 1000000000 := by
  have : 10 ^ j ≤ 10 ^ 9 := Nat.pow_le_pow_right (by omega) h
  omega
theorem num_len {l : List UInt8} (h : l.all dig = true) (hl : l.length ≤ 4096) : (dg B32 (numL l)).length ≤ 1099511627776 := by
  have h1 := numL_lt h
  have h2 : numL l < B32 ^ l.length := Nat.lt_of_lt_of_le h1 (Nat.pow_le_pow_left (by rw [B32_eq]; omega) _)
  have := dg_len B32_2 h2
  omega

set_option maxHeartbeats 3000000 in
theorem parse_c (s : ByteArray) (w : World) (hs : s.size ≤ 4096) :
    Calls Tryz.prog 66 #[.string s] w fun e w' => ∃ v, e = .returned (.tuple #[v, .int .i64 (pErr s.data.toList)]) ∧ NatV w' v (pNum s.data.toList) ∧ New w w' := by
  by_cases h1 : s.data.toList = []
  · have hE : pErr s.data.toList = 10 := by rw [h1]; rfl
    have hz : pNum s.data.toList = 0 := by rw [h1]; rfl
    have h1' : s.toList = [] := by rw [Lib.toList_data]; exact h1
    have HE := Lib.hid hE
    have HZ := Lib.hid hz
    clear hE hz h1
    go_enter Tryz.func66, Tryz.ntmps66
    go_wp2
    refine bodyPost_ret (v := .tuple #[.agg #[.slice none 0 0], .int .i64 10]) (by simp [results, Tryz.results66, go_sem]) rfl ⟨.agg #[.slice none 0 0], by rw [HE.out], ?_, ?_⟩
    · rw [HZ.out]; exact NatV.zero _
    · exact (New.refl w).alloc _
  · have h1' : s.toList.isEmpty = false := by rw [Lib.toList_data]; simpa using h1
    have hsz : 0 < s.size := by rw [Lib.size_eq]; exact List.length_pos_iff.2 h1
    have htr := fun W => Tryz.strings_Trim_laid s ⟨#[48, 49, 50, 51, 52, 53, 54, 55, 56, 57]⟩ W (by omega) (by decide) tens_ascii
    have HTR := Lib.hid htr
    clear htr
    have HH := Lib.hid (head_at hsz)
    have HN := Lib.hid h1
    clear h1
    by_cases hc : (s[0]'hsz).toNat = 48
    · by_cases hd : s.toList = [48]
      · have hok : s.data.toList.head? ≠ some 48 ∨ s.data.toList.length = 1 := .inr (by rw [← Lib.toList_data, hd]; rfl)
        have HOK := Lib.hid hok
        clear hok
        go_enter Tryz.func66, Tryz.ntmps66
        go_wp2_with fail
        refine (HTR.out _).mono ?_
        rintro e w1 ⟨rfl, hb⟩
        have hn1 : New w w1 := ((New.refl w).alloc _).trans hb
        have hb0 : Box w1 w.heap.size #[.slice none 0 0] 26 := (Box.last w #[.slice none 0 0] 26).new hb
        by_cases ha : s.data.toList.all dig = true
        · have ht : Lib.trimS s.data.toList (⟨#[48, 49, 50, 51, 52, 53, 54, 55, 56, 57]⟩ : ByteArray).data.toList = [] := (trim_digits s.data.toList).2 ha
          rw [ht]
          have hI : isNum s.data.toList = true := by
            unfold isNum
            rw [ha]
            rcases HOK.out with h | h
            · have h3 : (s.data.toList.head? != some 48) = true := by simpa using h
              rw [h3]; simpa using HN.out
            · rw [h]; simpa using HN.out
          have hE : pErr s.data.toList = 0 := by unfold pErr; rw [if_pos hI]
          have hz : pNum s.data.toList = numL s.data.toList := by unfold pNum; rw [if_pos hI]
          have hl : s.data.toList.length ≤ 4096 := by rw [← Lib.size_eq]; exact hs
          have HE := Lib.hid hE
          have HZ := Lib.hid hz
          have HA := Lib.hid ha
          have HB0 := Lib.hid hb0
          have HL := Lib.hid hl
          have HS0 := Lib.hid h1'
          clear hE hz ha ht hI hb0 hb hl
          have hc0 : w1.cell? ⟨w.heap.size, 0, none⟩ = some (.slice none 0 0) := HB0.out.cell 0
          have hf0 := HB0.out.frozen 0
          have hsc : s.data.toList = s.data.toList.drop 0 := rfl
          have HSC := Lib.hid hsc
          clear hsc
          generalize hsl : s.data.toList = l at *
          have HSL := Lib.hid hsl
          clear hsl
          go_wp2
          go_loopw [0, 5, 6, 7, 8] (fun v0 _ _ _ _ w' => ∃ (t : ByteArray) (k : Nat) (v : Value), v0 = .string t ∧ k ≤ l.length ∧ Hid (t.data.toList = l.drop k) ∧ Hid (Box w' w1.heap.size #[v] 26) ∧ Hid (NatV w' (.agg #[v]) (numL (l.take k))) ∧ Hid (Box w' w.heap.size #[.slice none 0 0] 26) ∧ Hid (New w w')) (fun v0 _ _ _ _ _ => match v0 with | .string t => t.size | _ => 0)
          case atStart => exact ⟨s, 0, .slice none 0 0, rfl, Nat.zero_le _, HSL.out, Box.last _ _ _, NatV.zero _, HB0.out.alloc _, hn1.alloc _⟩
          case round =>
            obtain ⟨t, k, v, rfl, hk, HT, HBX, HV, HB, HNW⟩ := hrel
            have htl : t.size = l.length - k := by rw [Lib.size_eq, HT.out, List.length_drop]
            by_cases hlt : k < l.length
            · have hte : t.toList.isEmpty = false := by
                rw [Lib.toList_data, HT.out]
                cases hdr : l.drop k with
                | nil => have := congrArg List.length hdr; rw [List.length_drop] at this; simp at this; omega
                | cons a r => rfl
              obtain ⟨hc1, hc2, hc3⟩ := cnt9_le (n := t.size) (by omega)
              have hcn : Int.tmod ((t.size : Int) - 1) 9 + 1 = (cnt9 t.size : Int) := by unfold cnt9; rw [Int.tmod_eq_emod_of_nonneg (by omega)]; omega
              have hcn2 : ((t.size : Int) - 1) % 9 + 1 = (cnt9 t.size : Int) := by unfold cnt9; omega
              have hts : t.size ≤ 4096 := by have := HL.out; omega
              generalize hcc : cnt9 t.size = n at *
              have HCC := Lib.hid hcc
              have HTL := Lib.hid htl
              clear hcc htl
              have hpi : ∀ (W : World) (u : Nat), Lib.parseUintB 32 (t.extract 0 n).data.toList = .ok u → Calls Tryz.prog 106 #[.string (t.extract 0 n), .int .i64 10, .int .i64 32] W fun e w' => e = .returned (.tuple #[.int .u64 u, .nilIface]) ∧ New W w' := fun W u hu =>
                (Tryz.strconv_ParseUint_10_at32_ok _ (by rw [ByteArray.size_extract]; omega) u hu W).mono fun e w' ⟨he, hw⟩ => ⟨he, by
                  rcases hw with rfl | rfl
                  · exact New.refl _
                  · exact Lib.bytesWorld_below _ _ _⟩
              have hpiece : (t.extract 0 n).data.toList = (l.drop k).take n := by rw [Lib.extract_data, HT.out]; simp
              have hpl : ((l.drop k).take n).length = n := by rw [List.length_take, List.length_drop]; have := HTL.out; omega
              have hpd : ((l.drop k).take n).all dig = true := List.all_eq_true.2 fun x hx => List.all_eq_true.1 HA.out x (List.mem_of_mem_drop (List.mem_of_mem_take hx))
              have hpu : Lib.parseUintB 32 (t.extract 0 n).data.toList = .ok (numL ((l.drop k).take n)) := by rw [hpiece]; exact parse32_ok (fun h => by rw [h] at hpl; simp at hpl; omega) hpd (by omega)
              have hnl := numL_lt hpd
              rw [hpl] at hnl
              have hnum : numL (l.take (k + n)) = numL (l.take k) * 10 ^ n + numL ((l.drop k).take n) := by
                rw [List.take_add, numL_append, hpl]
              have HPI := Lib.hid hpi
              have HPU := Lib.hid hpu
              have HNU := Lib.hid hnum
              have HNL := Lib.hid hnl
              clear hpi hpiece hpl hpd hpu hnum hnl
              go_wp2
              go_loopw [6, 34] (fun b6 j34 w' => ∃ j : Nat, j ≤ n ∧ j34 = .int .i64 (j : Int) ∧ b6 = .int .u32 ((10 ^ j : Nat) : Int) ∧ w' = wr) (fun _ j _ => n - (intOf j).toNat)
              case atStart => exact ⟨0, Nat.zero_le _, rfl, rfl, rfl⟩
              case round =>
                obtain ⟨j, hj, rfl, rfl, rfl⟩ := hrel
                by_cases hjn : j < n
                · have hp := ten_le (j := j + 1) (by omega)
                  have hp2 : 10 ^ (j + 1) = 10 ^ j * 10 := Nat.pow_succ ..
                  rw [hp2] at hp
                  generalize hpj : 10 ^ j = p at *
                  have hw1 : (p : Int) * 10 % 4294967296 = (p : Int) * 10 := by omega
                  have HP2 := Lib.hid hp2
                  clear hp2 hpj
                  go_wp2
                  go_roundw
                  case rel => exact ⟨j + 1, by omega, by go_num, by rw [HP2.out]; simp, trivial⟩
                  case measure => simp [intOf]; omega
                · obtain rfl : j = n := by omega
                  go_wp2_with fail
                  refine (HPI.out _ _ HPU.out).mono ?_
                  rintro e w2 ⟨rfl, hn2⟩
                  have HBX2 := Lib.hid (HBX.out.new hn2)
                  have HV2 := Lib.hid (HV.out.new hn2)
                  have HB2 := Lib.hid (HB.out.new hn2)
                  have HNW2 := Lib.hid (HNW.out.trans hn2)
                  obtain ⟨A1, l1, c1, e1⟩ := HV2.out.form
                  obtain rfl : v = .slice A1 l1 c1 := by simpa using e1
                  have hct : w2.cell? ⟨w1.heap.size, 0, none⟩ = some (.slice A1 l1 c1) := HBX2.out.cell 0
                  have hft := HBX2.out.frozen 0
                  have hp10 := ten_le hc3
                  have hscl := fun W hN => scaled_c (w := W) (NatV.new HV2.out hN) (by_ := 10 ^ j) (more := numL ((l.drop k).take j)) (by rw [B32_eq]; omega) (by have := HNL.out; rw [B32_eq]; omega) (num_len (List.all_eq_true.2 fun x hx => List.all_eq_true.1 HA.out x (List.mem_of_mem_take hx)) (by rw [List.length_take]; have := HL.out; omega))
                  have hmd : IntKind.u32.wrap ((numL ((l.drop k).take j) : Nat) : Int) = ((numL ((l.drop k).take j) : Nat) : Int) := IntWalk.u32_in _ (by have := HNL.out; omega)
                  have HSCL := Lib.hid hscl
                  clear hscl e1 hn2
                  generalize hpj : 10 ^ j = p at *
                  generalize hnj : numL ((l.drop k).take j) = nj at *
                  have HPJ := Lib.hid hpj
                  have HNJ := Lib.hid hnj
                  clear hpj hnj
                  go_wp2
                  go_region_with (go_at_call 107; refine (HSCL.out _ ?_).mono ?_; exact (New.refl _).drew; rintro e w3 ⟨v3, rfl, hv3, hn3⟩; obtain ⟨A3, l3, c3, rfl⟩ := hv3.form; have hct3 := hn3.still hct; have hft3 := (HBX2.out.new hn3).frozen 0)
                  have hv4 := hv3.set (HBX2.out.new hn3) (by decide) (i := 0) (.slice A3 l3 c3)
                  have hb4 := (HBX2.out.new hn3).set 0 (.slice A3 l3 c3)
                  have hb5 := (HB2.out.new hn3).far (p := w1.heap.size) (i := 0) (by have := HB0.out.lt; omega) (.slice A3 l3 c3)
                  have hn5 := (HNW2.out.drew.trans hn3).setCell (p := ⟨w1.heap.size, 0, none⟩) hn1.le (.slice A3 l3 c3)
                  have hkj : k + j ≤ l.length := by have := HTL.out; omega
                  have htx : (t.extract j t.size).data.toList = l.drop (k + j) := by rw [Lib.extract_data, HT.out, List.drop_drop, List.take_of_length_le (by rw [List.length_drop]; have := HTL.out; omega)]
                  have hvn : numL (l.take k) * p + nj = numL (l.take (k + j)) := HNU.out.symm
                  rw [hvn] at hv4
                  have HV4 := Lib.hid hv4
                  have HB4 := Lib.hid hb4
                  have HB5 := Lib.hid hb5
                  have HN5 := Lib.hid hn5
                  have HTX := Lib.hid htx
                  clear hv4 hb4 hb5 hn5 htx hvn hv3 hct3 hft3 hct hft
                  simp only [List.getElem_toArray, List.getElem_cons_succ, List.getElem_cons_zero, Act.put, List.setIfInBounds_toArray, List.set_cons_zero, List.set_cons_succ]
                  go_wp2
                  go_roundw
                  case rel => exact ⟨_, k + j, .slice A3 l3 c3, rfl, hkj, HTX.out, HB4.out, HV4.out, HB5.out, HN5.out⟩
                  case measure => simp [ByteArray.size_extract]; have := HTL.out; omega
            · obtain rfl : k = l.length := by omega
              have hte : t.toList.isEmpty = true := by rw [Lib.toList_data, HT.out]; simp
              obtain ⟨A1, l1, c1, e1⟩ := HV.out.form
              obtain rfl : v = .slice A1 l1 c1 := by simpa using e1
              have hct : wr.cell? ⟨w1.heap.size, 0, none⟩ = some (.slice A1 l1 c1) := HBX.out.cell 0
              have hcr : wr.cell? ⟨w.heap.size, 0, none⟩ = some (.slice none 0 0) := HB.out.cell 0
              have hfr := HB.out.frozen 0
              clear e1 hk htl
              go_wp2
              refine bodyPost_ret (v := .tuple #[.agg #[.slice A1 l1 c1], .int .i64 0]) (by simp [results, Tryz.results66, go_sem, hcr]) rfl ⟨.agg #[.slice A1 l1 c1], by rw [HSL.out, HE.out], ?_, HNW.out.setCell (Nat.le_refl _) _⟩
              have hv2 := HV.out.set HB.out (by decide) (i := 0) (.slice A1 l1 c1)
              rw [HSL.out, HZ.out]
              rw [List.take_length] at hv2
              exact hv2
        · have ht : Lib.trimS s.data.toList (⟨#[48, 49, 50, 51, 52, 53, 54, 55, 56, 57]⟩ : ByteArray).data.toList ≠ [] := fun h => ha ((trim_digits s.data.toList).1 h)
          generalize Lib.trimS s.data.toList (⟨#[48, 49, 50, 51, 52, 53, 54, 55, 56, 57]⟩ : ByteArray).data.toList = t at *
          have ht' : (⟨t.toArray⟩ : ByteArray).toList.isEmpty = false := by rw [Lib.toList_data]; simpa using ht
          have hI : isNum s.data.toList = false := by
            unfold isNum
            rw [show s.data.toList.all dig = false from by simpa using ha]; simp
          have hE : pErr s.data.toList = 10 := by unfold pErr; rw [hI]; rfl
          have hz : pNum s.data.toList = 0 := by unfold pNum; rw [hI]; rfl
          have HE := Lib.hid hE
          have HZ := Lib.hid hz
          have hc0 : w1.cell? ⟨w.heap.size, 0, none⟩ = some (.slice none 0 0) := hb0.cell 0
          have hf0 := hb0.frozen 0
          generalize (⟨t.toArray⟩ : ByteArray) = tb at *
          clear hI hE hz ht hb0 hb ha
          go_wp2
          refine bodyPost_ret (v := .tuple #[.agg #[.slice none 0 0], .int .i64 10]) (by simp [results, Tryz.results66, go_sem, hc0]) rfl ⟨.agg #[.slice none 0 0], by rw [HE.out], ?_, hn1.setCell (Nat.le_refl _) _⟩
          rw [HZ.out]; exact NatV.zero _
      · have hI : isNum s.data.toList = false := by
          have e1 : s.data.toList.head? = some 48 := by rw [HH.out]; congr 1; exact UInt8.toNat_inj.1 hc
          rw [Lib.toList_data] at hd
          generalize s.data.toList = l at *
          cases l with
          | nil => exact absurd rfl HN.out
          | cons a r =>
            have ha : a = 48 := by simpa using e1
            subst ha
            have hr : r ≠ [] := by rintro rfl; exact hd rfl
            simp [isNum, hr]
        have hE : pErr s.data.toList = 10 := by unfold pErr; rw [hI]; rfl
        have hz : pNum s.data.toList = 0 := by unfold pNum; rw [hI]; rfl
        have HE := Lib.hid hE
        have HZ := Lib.hid hz
        clear hI hE hz
        go_enter Tryz.func66, Tryz.ntmps66
        go_wp2
        refine bodyPost_ret (v := .tuple #[.agg #[.slice none 0 0], .int .i64 10]) (by simp [results, Tryz.results66, go_sem]) rfl ⟨.agg #[.slice none 0 0], by rw [HE.out], ?_, ?_⟩
        · rw [HZ.out]; exact NatV.zero _
        · exact (New.refl w).alloc _
    · have hok : s.data.toList.head? ≠ some 48 ∨ s.data.toList.length = 1 := .inl (by rw [HH.out]; intro e; exact hc (by rw [Option.some.inj e]; rfl))
      have HOK := Lib.hid hok
      clear hok
      go_enter Tryz.func66, Tryz.ntmps66
      go_wp2_with fail
      refine (HTR.out _).mono ?_
      rintro e w1 ⟨rfl, hb⟩
      have hn1 : New w w1 := ((New.refl w).alloc _).trans hb
      have hb0 : Box w1 w.heap.size #[.slice none 0 0] 26 := (Box.last w #[.slice none 0 0] 26).new hb
      by_cases ha : s.data.toList.all dig = true
      · have ht : Lib.trimS s.data.toList (⟨#[48, 49, 50, 51, 52, 53, 54, 55, 56, 57]⟩ : ByteArray).data.toList = [] := (trim_digits s.data.toList).2 ha
        rw [ht]
        have hI : isNum s.data.toList = true := by
          unfold isNum
          rw [ha]
          rcases HOK.out with h | h
          · have h3 : (s.data.toList.head? != some 48) = true := by simpa using h
            rw [h3]; simpa using HN.out
          · rw [h]; simpa using HN.out
        have hE : pErr s.data.toList = 0 := by unfold pErr; rw [if_pos hI]
        have hz : pNum s.data.toList = numL s.data.toList := by unfold pNum; rw [if_pos hI]
        have hl : s.data.toList.length ≤ 4096 := by rw [← Lib.size_eq]; exact hs
        have HE := Lib.hid hE
        have HZ := Lib.hid hz
        have HA := Lib.hid ha
        have HB0 := Lib.hid hb0
        have HL := Lib.hid hl
        have HS0 := Lib.hid h1'
        clear hE hz ha ht hI hb0 hb hl
        have hc0 : w1.cell? ⟨w.heap.size, 0, none⟩ = some (.slice none 0 0) := HB0.out.cell 0
        have hf0 := HB0.out.frozen 0
        have hsc : s.data.toList = s.data.toList.drop 0 := rfl
        have HSC := Lib.hid hsc
        clear hsc
        generalize hsl : s.data.toList = l at *
        have HSL := Lib.hid hsl
        clear hsl
        go_wp2
        go_loopw [0, 5, 6, 7, 8] (fun v0 _ _ _ _ w' => ∃ (t : ByteArray) (k : Nat) (v : Value), v0 = .string t ∧ k ≤ l.length ∧ Hid (t.data.toList = l.drop k) ∧ Hid (Box w' w1.heap.size #[v] 26) ∧ Hid (NatV w' (.agg #[v]) (numL (l.take k))) ∧ Hid (Box w' w.heap.size #[.slice none 0 0] 26) ∧ Hid (New w w')) (fun v0 _ _ _ _ _ => match v0 with | .string t => t.size | _ => 0)
        case atStart => exact ⟨s, 0, .slice none 0 0, rfl, Nat.zero_le _, HSL.out, Box.last _ _ _, NatV.zero _, HB0.out.alloc _, hn1.alloc _⟩
        case round =>
          obtain ⟨t, k, v, rfl, hk, HT, HBX, HV, HB, HNW⟩ := hrel
          have htl : t.size = l.length - k := by rw [Lib.size_eq, HT.out, List.length_drop]
          by_cases hlt : k < l.length
          · have hte : t.toList.isEmpty = false := by
              rw [Lib.toList_data, HT.out]
              cases hdr : l.drop k with
              | nil => have := congrArg List.length hdr; rw [List.length_drop] at this; simp at this; omega
              | cons a r => rfl
            obtain ⟨hc1, hc2, hc3⟩ := cnt9_le (n := t.size) (by omega)
            have hcn : Int.tmod ((t.size : Int) - 1) 9 + 1 = (cnt9 t.size : Int) := by unfold cnt9; rw [Int.tmod_eq_emod_of_nonneg (by omega)]; omega
            have hcn2 : ((t.size : Int) - 1) % 9 + 1 = (cnt9 t.size : Int) := by unfold cnt9; omega
            have hts : t.size ≤ 4096 := by have := HL.out; omega
            generalize hcc : cnt9 t.size = n at *
            have HCC := Lib.hid hcc
            have HTL := Lib.hid htl
            clear hcc htl
            have hpi : ∀ (W : World) (u : Nat), Lib.parseUintB 32 (t.extract 0 n).data.toList = .ok u → Calls Tryz.prog 106 #[.string (t.extract 0 n), .int .i64 10, .int .i64 32] W fun e w' => e = .returned (.tuple #[.int .u64 u, .nilIface]) ∧ New W w' := fun W u hu =>
              (Tryz.strconv_ParseUint_10_at32_ok _ (by rw [ByteArray.size_extract]; omega) u hu W).mono fun e w' ⟨he, hw⟩ => ⟨he, by
                rcases hw with rfl | rfl
                · exact New.refl _
                · exact Lib.bytesWorld_below _ _ _⟩
            have hpiece : (t.extract 0 n).data.toList = (l.drop k).take n := by rw [Lib.extract_data, HT.out]; simp
            have hpl : ((l.drop k).take n).length = n := by rw [List.length_take, List.length_drop]; have := HTL.out; omega
            have hpd : ((l.drop k).take n).all dig = true := List.all_eq_true.2 fun x hx => List.all_eq_true.1 HA.out x (List.mem_of_mem_drop (List.mem_of_mem_take hx))
            have hpu : Lib.parseUintB 32 (t.extract 0 n).data.toList = .ok (numL ((l.drop k).take n)) := by rw [hpiece]; exact parse32_ok (fun h => by rw [h] at hpl; simp at hpl; omega) hpd (by omega)
            have hnl := numL_lt hpd
            rw [hpl] at hnl
            have hnum : numL (l.take (k + n)) = numL (l.take k) * 10 ^ n + numL ((l.drop k).take n) := by
              rw [List.take_add, numL_append, hpl]
            have HPI := Lib.hid hpi
            have HPU := Lib.hid hpu
            have HNU := Lib.hid hnum
            have HNL := Lib.hid hnl
            clear hpi hpiece hpl hpd hpu hnum hnl
            go_wp2
            go_loopw [6, 34] (fun b6 j34 w' => ∃ j : Nat, j ≤ n ∧ j34 = .int .i64 (j : Int) ∧ b6 = .int .u32 ((10 ^ j : Nat) : Int) ∧ w' = wr) (fun _ j _ => n - (intOf j).toNat)
            case atStart => exact ⟨0, Nat.zero_le _, rfl, rfl, rfl⟩
            case round =>
              obtain ⟨j, hj, rfl, rfl, rfl⟩ := hrel
              by_cases hjn : j < n
              · have hp := ten_le (j := j + 1) (by omega)
                have hp2 : 10 ^ (j + 1) = 10 ^ j * 10 := Nat.pow_succ ..
                rw [hp2] at hp
                generalize hpj : 10 ^ j = p at *
                have hw1 : (p : Int) * 10 % 4294967296 = (p : Int) * 10 := by omega
                have HP2 := Lib.hid hp2
                clear hp2 hpj
                go_wp2
                go_roundw
                case rel => exact ⟨j + 1, by omega, by go_num, by rw [HP2.out]; simp, trivial⟩
                case measure => simp [intOf]; omega
              · obtain rfl : j = n := by omega
                go_wp2_with fail
                refine (HPI.out _ _ HPU.out).mono ?_
                rintro e w2 ⟨rfl, hn2⟩
                have HBX2 := Lib.hid (HBX.out.new hn2)
                have HV2 := Lib.hid (HV.out.new hn2)
                have HB2 := Lib.hid (HB.out.new hn2)
                have HNW2 := Lib.hid (HNW.out.trans hn2)
                obtain ⟨A1, l1, c1, e1⟩ := HV2.out.form
                obtain rfl : v = .slice A1 l1 c1 := by simpa using e1
                have hct : w2.cell? ⟨w1.heap.size, 0, none⟩ = some (.slice A1 l1 c1) := HBX2.out.cell 0
                have hft := HBX2.out.frozen 0
                have hp10 := ten_le hc3
                have hscl := fun W hN => scaled_c (w := W) (NatV.new HV2.out hN) (by_ := 10 ^ j) (more := numL ((l.drop k).take j)) (by rw [B32_eq]; omega) (by have := HNL.out; rw [B32_eq]; omega) (num_len (List.all_eq_true.2 fun x hx => List.all_eq_true.1 HA.out x (List.mem_of_mem_take hx)) (by rw [List.length_take]; have := HL.out; omega))
                have hmd : IntKind.u32.wrap ((numL ((l.drop k).take j) : Nat) : Int) = ((numL ((l.drop k).take j) : Nat) : Int) := IntWalk.u32_in _ (by have := HNL.out; omega)
                have HSCL := Lib.hid hscl
                clear hscl e1 hn2
                generalize hpj : 10 ^ j = p at *
                generalize hnj : numL ((l.drop k).take j) = nj at *
                have HPJ := Lib.hid hpj
                have HNJ := Lib.hid hnj
                clear hpj hnj
                go_wp2
                go_region_with (go_at_call 107; refine (HSCL.out _ ?_).mono ?_; exact (New.refl _).drew; rintro e w3 ⟨v3, rfl, hv3, hn3⟩; obtain ⟨A3, l3, c3, rfl⟩ := hv3.form; have hct3 := hn3.still hct; have hft3 := (HBX2.out.new hn3).frozen 0)
                have hv4 := hv3.set (HBX2.out.new hn3) (by decide) (i := 0) (.slice A3 l3 c3)
                have hb4 := (HBX2.out.new hn3).set 0 (.slice A3 l3 c3)
                have hb5 := (HB2.out.new hn3).far (p := w1.heap.size) (i := 0) (by have := HB0.out.lt; omega) (.slice A3 l3 c3)
                have hn5 := (HNW2.out.drew.trans hn3).setCell (p := ⟨w1.heap.size, 0, none⟩) hn1.le (.slice A3 l3 c3)
                have hkj : k + j ≤ l.length := by have := HTL.out; omega
                have htx : (t.extract j t.size).data.toList = l.drop (k + j) := by rw [Lib.extract_data, HT.out, List.drop_drop, List.take_of_length_le (by rw [List.length_drop]; have := HTL.out; omega)]
                have hvn : numL (l.take k) * p + nj = numL (l.take (k + j)) := HNU.out.symm
                rw [hvn] at hv4
                have HV4 := Lib.hid hv4
                have HB4 := Lib.hid hb4
                have HB5 := Lib.hid hb5
                have HN5 := Lib.hid hn5
                have HTX := Lib.hid htx
                clear hv4 hb4 hb5 hn5 htx hvn hv3 hct3 hft3 hct hft
                simp only [List.getElem_toArray, List.getElem_cons_succ, List.getElem_cons_zero, Act.put, List.setIfInBounds_toArray, List.set_cons_zero, List.set_cons_succ]
                go_wp2
                go_roundw
                case rel => exact ⟨_, k + j, .slice A3 l3 c3, rfl, hkj, HTX.out, HB4.out, HV4.out, HB5.out, HN5.out⟩
                case measure => simp [ByteArray.size_extract]; have := HTL.out; omega
          · obtain rfl : k = l.length := by omega
            have hte : t.toList.isEmpty = true := by rw [Lib.toList_data, HT.out]; simp
            obtain ⟨A1, l1, c1, e1⟩ := HV.out.form
            obtain rfl : v = .slice A1 l1 c1 := by simpa using e1
            have hct : wr.cell? ⟨w1.heap.size, 0, none⟩ = some (.slice A1 l1 c1) := HBX.out.cell 0
            have hcr : wr.cell? ⟨w.heap.size, 0, none⟩ = some (.slice none 0 0) := HB.out.cell 0
            have hfr := HB.out.frozen 0
            clear e1 hk htl
            go_wp2
            refine bodyPost_ret (v := .tuple #[.agg #[.slice A1 l1 c1], .int .i64 0]) (by simp [results, Tryz.results66, go_sem, hcr]) rfl ⟨.agg #[.slice A1 l1 c1], by rw [HSL.out, HE.out], ?_, HNW.out.setCell (Nat.le_refl _) _⟩
            have hv2 := HV.out.set HB.out (by decide) (i := 0) (.slice A1 l1 c1)
            rw [HSL.out, HZ.out]
            rw [List.take_length] at hv2
            exact hv2
      · have ht : Lib.trimS s.data.toList (⟨#[48, 49, 50, 51, 52, 53, 54, 55, 56, 57]⟩ : ByteArray).data.toList ≠ [] := fun h => ha ((trim_digits s.data.toList).1 h)
        generalize Lib.trimS s.data.toList (⟨#[48, 49, 50, 51, 52, 53, 54, 55, 56, 57]⟩ : ByteArray).data.toList = t at *
        have ht' : (⟨t.toArray⟩ : ByteArray).toList.isEmpty = false := by rw [Lib.toList_data]; simpa using ht
        have hI : isNum s.data.toList = false := by
          unfold isNum
          rw [show s.data.toList.all dig = false from by simpa using ha]; simp
        have hE : pErr s.data.toList = 10 := by unfold pErr; rw [hI]; rfl
        have hz : pNum s.data.toList = 0 := by unfold pNum; rw [hI]; rfl
        have HE := Lib.hid hE
        have HZ := Lib.hid hz
        have hc0 : w1.cell? ⟨w.heap.size, 0, none⟩ = some (.slice none 0 0) := hb0.cell 0
        have hf0 := hb0.frozen 0
        generalize (⟨t.toArray⟩ : ByteArray) = tb at *
        clear hI hE hz ht hb0 hb ha
        go_wp2
        refine bodyPost_ret (v := .tuple #[.agg #[.slice none 0 0], .int .i64 10]) (by simp [results, Tryz.results66, go_sem, hc0]) rfl ⟨.agg #[.slice none 0 0], by rw [HE.out], ?_, hn1.setCell (Nat.le_refl _) _⟩
        rw [HZ.out]; exact NatV.zero _
end Go.Proofs.YtkjlmibleoecgaaGreatDoor
