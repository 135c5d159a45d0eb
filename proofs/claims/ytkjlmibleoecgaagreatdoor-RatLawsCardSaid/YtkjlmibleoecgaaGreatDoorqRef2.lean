/- The reference of nat, part 2: Parse. (Printed by mkrparse.py.) -/
import Derived.Test.YtkjlmibleoecgaaGreatDoorM0
namespace Go.Proofs.YtkjlmibleoecgaaGreatDoor
set_option linter.unusedSimpArgs false
set_option linter.unusedVariables false
open Go.RowKit

theorem at_get {s : ByteArray} {i : Nat} (h : i < s.size) : s.data.toList[i]? = some (s[i]'h) := by
  obtain ⟨⟨l⟩⟩ := s
  have h' : i < l.length := h
  simp only [List.getElem?_eq_getElem h']; rfl
theorem info_int : (Tryz.prog.info? 3).map (fun i => (i.zero, i.size, i.bytes)) = some (some (.int .i64 0), 1, 8) := by kernel_rfl
theorem dig_at {s : ByteArray} (ha : s.data.toList.all dig = true) {i : Nat} (h : i < s.size) : 48 ≤ (s[i]'h).toNat ∧ (s[i]'h).toNat ≤ 57 := by
  have := List.all_eq_true.1 ha _ (List.mem_of_getElem? (at_get h))
  simpa [dig] using this
theorem head_get {s : ByteArray} (h : 0 < s.size) : s.data.toList.head? = some (s[0]'h) := by rw [← at_get h, List.head?_eq_getElem?]
/-- The digits are taken nine by nine from the end. -/
theorem chunk_val {l : List UInt8} {j : Nat} {xs : List Nat} (hj : xs.length = j) (h9 : 9 * j < l.length) (hv : val B9 xs = numL (l.drop (l.length - 9 * j))) :
    val B9 (xs ++ [numL ((l.drop (l.length - 9 * (j + 1))).take (l.length - 9 * j - (l.length - 9 * (j + 1))))]) = numL (l.drop (l.length - 9 * (j + 1))) := by
  rw [val_snoc, hv, hj]
  have e : l.drop (l.length - 9 * (j + 1)) = (l.drop (l.length - 9 * (j + 1))).take (l.length - 9 * j - (l.length - 9 * (j + 1))) ++ l.drop (l.length - 9 * j) := by
    have := (List.take_append_drop (l.length - 9 * j - (l.length - 9 * (j + 1))) (l.drop (l.length - 9 * (j + 1)))).symm
    rw [List.drop_drop, show l.length - 9 * (j + 1) + (l.length - 9 * j - (l.length - 9 * (j + 1))) = l.length - 9 * j by omega] at this
    exact this
  conv => rhs; rw [e, numL_append]
  rw [List.length_drop, show l.length - (l.length - 9 * j) = 9 * j by omega, Nat.add_comm, Nat.mul_comm]
  congr 2
  rw [B9_eq, show (1000000000 : Nat) = 10 ^ 9 from rfl, ← Nat.pow_mul]
theorem chunk_lt {l : List UInt8} (h : l.all dig = true) (a n : Nat) (hn : n ≤ 9) : numL ((l.drop a).take n) < B9 := by
  have h1 := numL_lt (l := (l.drop a).take n) (List.all_eq_true.2 fun x hx => List.all_eq_true.1 h x (List.mem_of_mem_drop (List.mem_of_mem_take hx)))
  have h2 : 10 ^ ((l.drop a).take n).length ≤ 10 ^ 9 := Nat.pow_le_pow_right (by omega) (by rw [List.length_take]; omega)
  rw [B9_eq]; omega

set_option maxHeartbeats 3000000 in
theorem rparse_c (s : ByteArray) (w : World) (hs : s.size ≤ 4096) :
    Calls Tryz.prog 67 #[.string s] w fun e w' => ∃ v, e = .returned (.tuple #[v, .int .i64 (pErr s.data.toList)]) ∧ RefV w' v (pNum s.data.toList) ∧ New w w' := by
  by_cases h1 : s.data.toList = []
  · have hE : pErr s.data.toList = 10 := by rw [h1]; rfl
    have hz : pNum s.data.toList = 0 := by rw [h1]; rfl
    have h1' : s.size = 0 := by rw [Lib.size_eq, h1]; rfl
    have HE := Lib.hid hE
    have HZ := Lib.hid hz
    clear hE hz h1
    go_enter Tryz.func67, Tryz.ntmps67
    go_wp2
    refine bodyPost_ret (v := .tuple #[.agg #[.slice none 0 0], .int .i64 10]) (by simp [results, Tryz.results67, go_sem]) rfl ⟨.agg #[.slice none 0 0], by rw [HE.out], ?_, ?_⟩
    · rw [HZ.out]; exact RefV.zero _
    · first | exact (New.refl w).alloc _ | exact ((New.refl w).alloc _).setCell (p := ⟨w.heap.size, 0, none⟩) (Nat.le_refl _) _
  · have hsz : 0 < s.size := by rw [Lib.size_eq]; exact List.length_pos_iff.2 h1
    have hH := head_get hsz
    have hne : ¬ s = ByteArray.empty := by rintro rfl; cases hsz
    by_cases hb : 1 < s.size ∧ (s[0]'hsz).toNat = 48
    · have hI : isNum s.data.toList = false := by
        have e1 : s.data.toList.head? = some 48 := by rw [hH]; congr 1; exact UInt8.toNat_inj.1 hb.2
        have h2 := hb.1
        rw [Lib.size_eq] at h2
        unfold isNum
        rw [e1]
        have : (s.data.toList.length == 1) = false := by rw [beq_eq_false_iff_ne]; omega
        rw [this]; simp
      have hE : pErr s.data.toList = 10 := by unfold pErr; rw [hI]; rfl
      have hz : pNum s.data.toList = 0 := by unfold pNum; rw [hI]; rfl
      obtain ⟨hb1, hb2⟩ := hb
      have HE := Lib.hid hE
      have HZ := Lib.hid hz
      clear hE hz h1 hI hH
      go_enter Tryz.func67, Tryz.ntmps67
      go_wp2
      refine bodyPost_ret (v := .tuple #[.agg #[.slice none 0 0], .int .i64 10]) (by simp [results, Tryz.results67, go_sem]) rfl ⟨.agg #[.slice none 0 0], by rw [HE.out], ?_, ?_⟩
      · rw [HZ.out]; exact RefV.zero _
      · first | exact (New.refl w).alloc _ | exact ((New.refl w).alloc _).setCell (p := ⟨w.heap.size, 0, none⟩) (Nat.le_refl _) _
    · have hok : s.data.toList.head? ≠ some 48 ∨ s.data.toList.length = 1 := by
        by_cases h2 : 1 < s.size
        · refine .inl fun e => hb ⟨h2, ?_⟩
          rw [hH] at e
          rw [Option.some.inj e]; rfl
        · refine .inr ?_
          rw [← Lib.size_eq]; omega
      have HOK := Lib.hid hok
      have HNE := Lib.hid h1
      clear hok h1 hH
      have hnb : 1 < s.size → (s[0]'hsz).toNat ≠ 48 := fun h2 h3 => hb ⟨h2, h3⟩
      have hl : s.data.toList.length ≤ 4096 := by rw [← Lib.size_eq]; exact hs
      have hat : ∀ i (h : i < s.size), s.data.toList[i]? = some (s[i]'h) := fun i h => at_get h
      have hlen : s.data.toList.length = s.size := (Lib.size_eq s).symm
      have HAT := Lib.hid hat
      have HLEN := Lib.hid hlen
      have HL := Lib.hid hl
      have HNB := Lib.hid hnb
      clear hb hat hlen hl hnb
      go_enter Tryz.func67, Tryz.ntmps67
      have hz1 : ((s.size : Int) == 0) = false := by rw [beq_eq_false_iff_ne]; omega
      by_cases hb1 : 1 < s.size
      · have hb2 := HNB.out hb1
        have hb3 : (((s[0]'hsz).toNat : Int) == 48) = false := by rw [beq_eq_false_iff_ne]; omega
        clear hb2
        go_wp2
        go_loopw [4] (fun i w' => ∃ k : Nat, k ≤ s.size ∧ i = .int .i64 (k : Int) ∧ Hid ((s.data.toList.take k).all dig = true) ∧ ∃ q, w' = (w.alloc (.cells #[.slice none 0 0] 29)).drewN q) (fun i _ => s.size - (intOf i).toNat)
        case atStart => exact ⟨0, Nat.zero_le _, rfl, by rw [List.take_zero]; exact rfl, 0, rfl⟩
        case round =>
          obtain ⟨k, hk, rfl, HD, q, rfl⟩ := hrel
          by_cases hlt : k < s.size
          · have hg := HAT.out k hlt
            have hsn : (s.data.toList.take (k + 1)) = s.data.toList.take k ++ [s[k]'hlt] := by rw [List.take_add_one, hg]; rfl
            have HSN := Lib.hid hsn
            have HG := Lib.hid hg
            clear hsn hg
            by_cases hd : 48 ≤ (s[k]'hlt).toNat ∧ (s[k]'hlt).toNat ≤ 57
            · obtain ⟨hd1, hd2⟩ := hd
              go_wp2
              go_roundw
              case rel => exact ⟨k + 1, by omega, by go_num, by rw [HSN.out, List.all_append, HD.out]; simp [dig]; exact ⟨hd1, hd2⟩, _, rfl⟩
              case measure => simp [intOf]; omega
            · have ha : s.data.toList.all dig = false := by
                rw [List.all_eq_false]
                exact ⟨s[k]'hlt, List.mem_of_getElem? HG.out, by simp only [dig]; simpa using fun h => by omega⟩
              have hI : isNum s.data.toList = false := by unfold isNum; rw [ha]; simp
              have hE : pErr s.data.toList = 10 := by unfold pErr; rw [hI]; rfl
              have hz : pNum s.data.toList = 0 := by unfold pNum; rw [hI]; rfl
              have HE := Lib.hid hE
              have HZ := Lib.hid hz
              have hor : (s[k]'hlt).toNat < 48 ∨ 57 < (s[k]'hlt).toNat := by omega
              clear hE hz hI ha hd
              rcases hor with hd | hd
              · go_wp2
                refine bodyPost_ret (v := .tuple #[.agg #[.slice none 0 0], .int .i64 10]) (by simp [results, Tryz.results67, go_sem]) rfl ⟨.agg #[.slice none 0 0], by rw [HE.out], ?_, ?_⟩
                · rw [HZ.out]; exact RefV.zero _
                · exact (((New.refl w).alloc _).drewN _).setCell (p := ⟨w.heap.size, 0, none⟩) (Nat.le_refl _) _
              · go_wp2
                refine bodyPost_ret (v := .tuple #[.agg #[.slice none 0 0], .int .i64 10]) (by simp [results, Tryz.results67, go_sem]) rfl ⟨.agg #[.slice none 0 0], by rw [HE.out], ?_, ?_⟩
                · rw [HZ.out]; exact RefV.zero _
                · exact (((New.refl w).alloc _).drewN _).setCell (p := ⟨w.heap.size, 0, none⟩) (Nat.le_refl _) _
          · obtain rfl : k = s.size := by omega
            have ha : s.data.toList.all dig = true := by
              have := HD.out
              rw [← HLEN.out, List.take_length] at this
              exact this
            have hI : isNum s.data.toList = true := by
              unfold isNum
              rw [ha]
              rcases HOK.out with h | h
              · have h3 : (s.data.toList.head? != some 48) = true := by simpa using h
                rw [h3]; simpa using HNE.out
              · rw [h]; simpa using HNE.out
            have hE : pErr s.data.toList = 0 := by unfold pErr; rw [if_pos hI]
            have hz : pNum s.data.toList = numL s.data.toList := by unfold pNum; rw [if_pos hI]
            have HE := Lib.hid hE
            have HZ := Lib.hid hz
            have HA := Lib.hid ha
            have hn0 : New w ((w.alloc (.cells #[.slice none 0 0] 29)).drewN q) := ((New.refl w).alloc _).drewN _
            have hb0 : Box ((w.alloc (.cells #[.slice none 0 0] 29)).drewN q) w.heap.size #[.slice none 0 0] 29 := (Box.last w _ _).new ((New.refl _).drewN q)
            generalize (w.alloc (.cells #[.slice none 0 0] 29)).drewN q = W0 at *
            have HN0 := Lib.hid hn0
            have HB0 := Lib.hid hb0
            clear hE hz hI ha hn0 hb0 HD HOK HNE
            go_wp2
            go_loopw [5, 6, 7, 8] (fun v5 v6 _ _ w' => ∃ (j : Nat) (xs : List Nat) (A : Option Addr) (c : Nat), v5 = .slice A j c ∧ v6 = .int .i64 ((s.size : Int) - 9 * j) ∧ 9 * j < s.size + 9 ∧ Hid (xs.length = j) ∧ Hid (∀ d ∈ xs, d < B9) ∧ Hid (val B9 xs = numL (s.data.toList.drop (s.data.toList.length - 9 * j))) ∧ Hid (OwnE encI 3 W0.heap.size w' (.slice A j c) xs) ∧ Hid (New W0 w')) (fun _ v6 _ _ _ => (intOf v6).toNat)
            case atStart =>
              refine ⟨0, [], _, _, rfl, by go_num, by omega, rfl, ?_, ?_, ?_, ?_⟩
              · have : ∀ d ∈ ([] : List Nat), d < B9 := by intro d hd; cases hd
                exact this
              · rw [Nat.mul_zero, Nat.sub_zero, List.drop_length]; exact rfl
              · exact OwnE.of_box (xs := ([] : List Nat)) (Box.last W0 _ _) (Nat.le_refl _) (by simp)
              · exact (New.refl W0).alloc _
            case round =>
              obtain ⟨j, xs, A, c, rfl, rfl, hj, HXL, HXD, HXV, HOW, HNW⟩ := hrel
              by_cases h9 : 9 * j < s.size
              · have hst : ∃ st e : Nat, st = s.size - 9 * (j + 1) ∧ e + 9 * j = s.size := ⟨s.size - 9 * (j + 1), s.size - 9 * j, rfl, by omega⟩
                obtain ⟨st, e, hst, he⟩ := hst
                have HST := Lib.hid hst
                have hs1 : s.size ≤ st + 9 * (j + 1) := by omega
                have hs2 : st < e := by omega
                have hs3 : e ≤ st + 9 := by omega
                have h9i : 9 * (j : Int) < (s.size : Int) := by omega
                clear hst
                rcases Nat.lt_or_ge (9 * (j + 1)) s.size with h10 | h10
                · go_wp2
                  go_loopw [7, 8] (fun v7 v8 w' => ∃ m : Nat, m ≤ e - st ∧ v8 = .int .i64 ((st : Int) + (m : Int)) ∧ v7 = .int .i64 ((numL ((s.data.toList.drop st).take m) : Nat) : Int) ∧ w' = wr) (fun _ v8 _ => e - (intOf v8).toNat)
                  case atStart => exact ⟨0, Nat.zero_le _, congrArg _ (by have := HST.out; omega), by rw [List.take_zero]; rfl, rfl⟩
                  case round =>
                    obtain ⟨m, hm, rfl, rfl, rfl⟩ := hrel
                    by_cases hme : st + m < e
                    · have hin : st + m < s.size := by omega
                      obtain ⟨hd1, hd2⟩ := dig_at HA.out hin
                      have hac := chunk_lt HA.out st m (by omega)
                      have hsn : (s.data.toList.drop st).take (m + 1) = (s.data.toList.drop st).take m ++ [s[st + m]'hin] := by
                        rw [List.take_add_one, List.getElem?_drop, HAT.out (st + m) hin]; rfl
                      have hnm : numL ((s.data.toList.drop st).take (m + 1)) = numL ((s.data.toList.drop st).take m) * 10 + ((s[st + m]'hin).toNat - 48) := by rw [hsn, numL_snoc]
                      have HNM := Lib.hid hnm
                      generalize numL ((s.data.toList.drop st).take m) = acc at *
                      rw [B9_eq] at hac
                      have hw8 : IntKind.u8.wrap (((s[st + m]'hin).toNat : Int) - 48) = ((s[st + m]'hin).toNat : Int) - 48 := by rw [IntKind.wrap_u8]; omega
                      clear hsn hnm
                      go_wp2
                      go_roundw
                      case rel => exact ⟨m + 1, by omega, by go_num, by rw [HNM.out]; go_num, trivial⟩
                      case measure => simp [intOf]; omega
                    · obtain ⟨n, hn⟩ : ∃ n, n = e - st := ⟨_, rfl⟩
                      obtain rfl : m = n := by omega
                      have hac := chunk_lt HA.out st m (by omega)
                      have hcv := chunk_val (l := s.data.toList) HXL.out (by rw [HLEN.out]; exact h9) HXV.out
                      rw [show s.data.toList.length - 9 * (j + 1) = st by rw [HLEN.out]; exact HST.out.symm, show s.data.toList.length - 9 * j - st = m by rw [HLEN.out]; omega] at hcv
                      have HCV := Lib.hid hcv
                      have hne1 : st + m = e := by omega
                      clear hcv hn hm
                      generalize numL ((s.data.toList.drop st).take m) = acc at *
                      have hcx : (wr.alloc (.cells #[.int .i64 (acc : Int)] 3)).cell? ⟨wr.heap.size, 0, none⟩ = some (encI acc) := (Box.last wr _ _).cell 0
                      have hown := HOW.out.new ((New.refl wr).alloc (.cells #[.int .i64 (acc : Int)] 3))
                      have hnn := HNW.out.alloc (.cells #[.int .i64 (acc : Int)] 3)
                      have hjl := HXL.out
                      have HOWN := Lib.hid hown
                      have HCX := Lib.hid hcx
                      have HNN := Lib.hid hnn
                      clear hown hcx hnn
                      go_wp2_with (at_builtin; refine app_own encI W0 _ rfl _ _ 27 3 rfl (.int .i64 0) 8 (by kernel_rfl) info_int rfl (by decide) _ xs rfl HNN.out HOWN.out _ _ _ acc rfl HCX.out rfl (by omega) ?_)
                      intro A2 c2 w2 hown2 hn2
                      clear HOWN HCX HNN
                      have hxl2 : (xs ++ [acc]).length = j + 1 := by rw [List.length_append, HXL.out]; rfl
                      have hxd2 : ∀ d ∈ xs ++ [acc], d < B9 := by
                        intro d hd
                        rcases List.mem_append.1 hd with hd | hd
                        · exact HXD.out d hd
                        · simp at hd; subst hd; exact hac
                      have HX2 := Lib.hid hxl2
                      have HD2 := Lib.hid hxd2
                      have HO2 := Lib.hid hown2
                      have HN2 := Lib.hid hn2
                      clear hxl2 hxd2 hown2 hn2 hac hjl
                      go_wp2
                      go_roundw
                      case rel =>
                        refine ⟨j + 1, xs ++ [acc], A2, c2, rfl, by go_num, by omega, HX2.out, HD2.out, ?_, HO2.out, HN2.out⟩
                        rw [HLEN.out, ← HST.out]
                        exact HCV.out
                      case measure => simp [intOf]; omega
                · go_wp2
                  go_loopw [7, 8] (fun v7 v8 w' => ∃ m : Nat, m ≤ e - st ∧ v8 = .int .i64 ((st : Int) + (m : Int)) ∧ v7 = .int .i64 ((numL ((s.data.toList.drop st).take m) : Nat) : Int) ∧ w' = wr) (fun _ v8 _ => e - (intOf v8).toNat)
                  case atStart => exact ⟨0, Nat.zero_le _, congrArg _ (by have := HST.out; omega), by rw [List.take_zero]; rfl, rfl⟩
                  case round =>
                    obtain ⟨m, hm, rfl, rfl, rfl⟩ := hrel
                    by_cases hme : st + m < e
                    · have hin : st + m < s.size := by omega
                      obtain ⟨hd1, hd2⟩ := dig_at HA.out hin
                      have hac := chunk_lt HA.out st m (by omega)
                      have hsn : (s.data.toList.drop st).take (m + 1) = (s.data.toList.drop st).take m ++ [s[st + m]'hin] := by
                        rw [List.take_add_one, List.getElem?_drop, HAT.out (st + m) hin]; rfl
                      have hnm : numL ((s.data.toList.drop st).take (m + 1)) = numL ((s.data.toList.drop st).take m) * 10 + ((s[st + m]'hin).toNat - 48) := by rw [hsn, numL_snoc]
                      have HNM := Lib.hid hnm
                      generalize numL ((s.data.toList.drop st).take m) = acc at *
                      rw [B9_eq] at hac
                      have hw8 : IntKind.u8.wrap (((s[st + m]'hin).toNat : Int) - 48) = ((s[st + m]'hin).toNat : Int) - 48 := by rw [IntKind.wrap_u8]; omega
                      clear hsn hnm
                      go_wp2
                      go_roundw
                      case rel => exact ⟨m + 1, by omega, by go_num, by rw [HNM.out]; go_num, trivial⟩
                      case measure => simp [intOf]; omega
                    · obtain ⟨n, hn⟩ : ∃ n, n = e - st := ⟨_, rfl⟩
                      obtain rfl : m = n := by omega
                      have hac := chunk_lt HA.out st m (by omega)
                      have hcv := chunk_val (l := s.data.toList) HXL.out (by rw [HLEN.out]; exact h9) HXV.out
                      rw [show s.data.toList.length - 9 * (j + 1) = st by rw [HLEN.out]; exact HST.out.symm, show s.data.toList.length - 9 * j - st = m by rw [HLEN.out]; omega] at hcv
                      have HCV := Lib.hid hcv
                      have hne1 : st + m = e := by omega
                      clear hcv hn hm
                      generalize numL ((s.data.toList.drop st).take m) = acc at *
                      have hcx : (wr.alloc (.cells #[.int .i64 (acc : Int)] 3)).cell? ⟨wr.heap.size, 0, none⟩ = some (encI acc) := (Box.last wr _ _).cell 0
                      have hown := HOW.out.new ((New.refl wr).alloc (.cells #[.int .i64 (acc : Int)] 3))
                      have hnn := HNW.out.alloc (.cells #[.int .i64 (acc : Int)] 3)
                      have hjl := HXL.out
                      have HOWN := Lib.hid hown
                      have HCX := Lib.hid hcx
                      have HNN := Lib.hid hnn
                      clear hown hcx hnn
                      go_wp2_with (at_builtin; refine app_own encI W0 _ rfl _ _ 27 3 rfl (.int .i64 0) 8 (by kernel_rfl) info_int rfl (by decide) _ xs rfl HNN.out HOWN.out _ _ _ acc rfl HCX.out rfl (by omega) ?_)
                      intro A2 c2 w2 hown2 hn2
                      clear HOWN HCX HNN
                      have hxl2 : (xs ++ [acc]).length = j + 1 := by rw [List.length_append, HXL.out]; rfl
                      have hxd2 : ∀ d ∈ xs ++ [acc], d < B9 := by
                        intro d hd
                        rcases List.mem_append.1 hd with hd | hd
                        · exact HXD.out d hd
                        · simp at hd; subst hd; exact hac
                      have HX2 := Lib.hid hxl2
                      have HD2 := Lib.hid hxd2
                      have HO2 := Lib.hid hown2
                      have HN2 := Lib.hid hn2
                      clear hxl2 hxd2 hown2 hn2 hac hjl
                      go_wp2
                      go_roundw
                      case rel =>
                        refine ⟨j + 1, xs ++ [acc], A2, c2, rfl, by go_num, by omega, HX2.out, HD2.out, ?_, HO2.out, HN2.out⟩
                        rw [HLEN.out, ← HST.out]
                        exact HCV.out
                      case measure => simp [intOf]; omega
              · have hsl := HOW.out.sl
                have hz9 : s.data.toList.length - 9 * j = 0 := by rw [HLEN.out]; omega
                have hval : val B9 xs = numL s.data.toList := by rw [HXV.out, hz9]; rfl
                clear hz9
                go_wp2_with fail
                refine (rtrim_c hsl).mono ?_
                rintro e w1 ⟨v, rfl, hv1, hn1⟩
                have hrv := RefV.of_sl hv1 HXD.out
                rw [hval] at hrv
                obtain ⟨A1, l1, c1, e1⟩ := hrv.form
                obtain rfl : v = .slice A1 l1 c1 := by simpa using e1
                have hn2 := HNW.out.trans hn1
                have hb2 := HB0.out.new hn2
                have hc2 : w1.cell? ⟨w.heap.size, 0, none⟩ = some (.slice none 0 0) := hb2.cell 0
                have hf2 := hb2.frozen 0
                have HRV := Lib.hid (hrv.set hb2 (by decide) (i := 0) (.slice A1 l1 c1))
                have HN3 := Lib.hid ((HN0.out.trans hn2).setCell (p := ⟨w.heap.size, 0, none⟩) (Nat.le_refl _) (.slice A1 l1 c1))
                clear e1 hv1 hn1 hrv hval hsl hn2 hb2
                go_wp2
                refine bodyPost_ret (v := .tuple #[.agg #[.slice A1 l1 c1], .int .i64 0]) (by simp [results, Tryz.results67, go_sem, hc2]) rfl ⟨.agg #[.slice A1 l1 c1], by rw [HE.out], ?_, HN3.out⟩
                rw [HZ.out]; exact HRV.out
      · skip
        go_wp2
        go_loopw [4] (fun i w' => ∃ k : Nat, k ≤ s.size ∧ i = .int .i64 (k : Int) ∧ Hid ((s.data.toList.take k).all dig = true) ∧ ∃ q, w' = (w.alloc (.cells #[.slice none 0 0] 29)).drewN q) (fun i _ => s.size - (intOf i).toNat)
        case atStart => exact ⟨0, Nat.zero_le _, rfl, by rw [List.take_zero]; exact rfl, 0, rfl⟩
        case round =>
          obtain ⟨k, hk, rfl, HD, q, rfl⟩ := hrel
          by_cases hlt : k < s.size
          · have hg := HAT.out k hlt
            have hsn : (s.data.toList.take (k + 1)) = s.data.toList.take k ++ [s[k]'hlt] := by rw [List.take_add_one, hg]; rfl
            have HSN := Lib.hid hsn
            have HG := Lib.hid hg
            clear hsn hg
            by_cases hd : 48 ≤ (s[k]'hlt).toNat ∧ (s[k]'hlt).toNat ≤ 57
            · obtain ⟨hd1, hd2⟩ := hd
              go_wp2
              go_roundw
              case rel => exact ⟨k + 1, by omega, by go_num, by rw [HSN.out, List.all_append, HD.out]; simp [dig]; exact ⟨hd1, hd2⟩, _, rfl⟩
              case measure => simp [intOf]; omega
            · have ha : s.data.toList.all dig = false := by
                rw [List.all_eq_false]
                exact ⟨s[k]'hlt, List.mem_of_getElem? HG.out, by simp only [dig]; simpa using fun h => by omega⟩
              have hI : isNum s.data.toList = false := by unfold isNum; rw [ha]; simp
              have hE : pErr s.data.toList = 10 := by unfold pErr; rw [hI]; rfl
              have hz : pNum s.data.toList = 0 := by unfold pNum; rw [hI]; rfl
              have HE := Lib.hid hE
              have HZ := Lib.hid hz
              have hor : (s[k]'hlt).toNat < 48 ∨ 57 < (s[k]'hlt).toNat := by omega
              clear hE hz hI ha hd
              rcases hor with hd | hd
              · go_wp2
                refine bodyPost_ret (v := .tuple #[.agg #[.slice none 0 0], .int .i64 10]) (by simp [results, Tryz.results67, go_sem]) rfl ⟨.agg #[.slice none 0 0], by rw [HE.out], ?_, ?_⟩
                · rw [HZ.out]; exact RefV.zero _
                · exact (((New.refl w).alloc _).drewN _).setCell (p := ⟨w.heap.size, 0, none⟩) (Nat.le_refl _) _
              · go_wp2
                refine bodyPost_ret (v := .tuple #[.agg #[.slice none 0 0], .int .i64 10]) (by simp [results, Tryz.results67, go_sem]) rfl ⟨.agg #[.slice none 0 0], by rw [HE.out], ?_, ?_⟩
                · rw [HZ.out]; exact RefV.zero _
                · exact (((New.refl w).alloc _).drewN _).setCell (p := ⟨w.heap.size, 0, none⟩) (Nat.le_refl _) _
          · obtain rfl : k = s.size := by omega
            have ha : s.data.toList.all dig = true := by
              have := HD.out
              rw [← HLEN.out, List.take_length] at this
              exact this
            have hI : isNum s.data.toList = true := by
              unfold isNum
              rw [ha]
              rcases HOK.out with h | h
              · have h3 : (s.data.toList.head? != some 48) = true := by simpa using h
                rw [h3]; simpa using HNE.out
              · rw [h]; simpa using HNE.out
            have hE : pErr s.data.toList = 0 := by unfold pErr; rw [if_pos hI]
            have hz : pNum s.data.toList = numL s.data.toList := by unfold pNum; rw [if_pos hI]
            have HE := Lib.hid hE
            have HZ := Lib.hid hz
            have HA := Lib.hid ha
            have hn0 : New w ((w.alloc (.cells #[.slice none 0 0] 29)).drewN q) := ((New.refl w).alloc _).drewN _
            have hb0 : Box ((w.alloc (.cells #[.slice none 0 0] 29)).drewN q) w.heap.size #[.slice none 0 0] 29 := (Box.last w _ _).new ((New.refl _).drewN q)
            generalize (w.alloc (.cells #[.slice none 0 0] 29)).drewN q = W0 at *
            have HN0 := Lib.hid hn0
            have HB0 := Lib.hid hb0
            clear hE hz hI ha hn0 hb0 HD HOK HNE
            go_wp2
            go_loopw [5, 6, 7, 8] (fun v5 v6 _ _ w' => ∃ (j : Nat) (xs : List Nat) (A : Option Addr) (c : Nat), v5 = .slice A j c ∧ v6 = .int .i64 ((s.size : Int) - 9 * j) ∧ 9 * j < s.size + 9 ∧ Hid (xs.length = j) ∧ Hid (∀ d ∈ xs, d < B9) ∧ Hid (val B9 xs = numL (s.data.toList.drop (s.data.toList.length - 9 * j))) ∧ Hid (OwnE encI 3 W0.heap.size w' (.slice A j c) xs) ∧ Hid (New W0 w')) (fun _ v6 _ _ _ => (intOf v6).toNat)
            case atStart =>
              refine ⟨0, [], _, _, rfl, by go_num, by omega, rfl, ?_, ?_, ?_, ?_⟩
              · have : ∀ d ∈ ([] : List Nat), d < B9 := by intro d hd; cases hd
                exact this
              · rw [Nat.mul_zero, Nat.sub_zero, List.drop_length]; exact rfl
              · exact OwnE.of_box (xs := ([] : List Nat)) (Box.last W0 _ _) (Nat.le_refl _) (by simp)
              · exact (New.refl W0).alloc _
            case round =>
              obtain ⟨j, xs, A, c, rfl, rfl, hj, HXL, HXD, HXV, HOW, HNW⟩ := hrel
              by_cases h9 : 9 * j < s.size
              · have hst : ∃ st e : Nat, st = s.size - 9 * (j + 1) ∧ e + 9 * j = s.size := ⟨s.size - 9 * (j + 1), s.size - 9 * j, rfl, by omega⟩
                obtain ⟨st, e, hst, he⟩ := hst
                have HST := Lib.hid hst
                have hs1 : s.size ≤ st + 9 * (j + 1) := by omega
                have hs2 : st < e := by omega
                have hs3 : e ≤ st + 9 := by omega
                have h9i : 9 * (j : Int) < (s.size : Int) := by omega
                clear hst
                rcases Nat.lt_or_ge (9 * (j + 1)) s.size with h10 | h10
                · exfalso; omega
                · go_wp2
                  go_loopw [7, 8] (fun v7 v8 w' => ∃ m : Nat, m ≤ e - st ∧ v8 = .int .i64 ((st : Int) + (m : Int)) ∧ v7 = .int .i64 ((numL ((s.data.toList.drop st).take m) : Nat) : Int) ∧ w' = wr) (fun _ v8 _ => e - (intOf v8).toNat)
                  case atStart => exact ⟨0, Nat.zero_le _, congrArg _ (by have := HST.out; omega), by rw [List.take_zero]; rfl, rfl⟩
                  case round =>
                    obtain ⟨m, hm, rfl, rfl, rfl⟩ := hrel
                    by_cases hme : st + m < e
                    · have hin : st + m < s.size := by omega
                      obtain ⟨hd1, hd2⟩ := dig_at HA.out hin
                      have hac := chunk_lt HA.out st m (by omega)
                      have hsn : (s.data.toList.drop st).take (m + 1) = (s.data.toList.drop st).take m ++ [s[st + m]'hin] := by
                        rw [List.take_add_one, List.getElem?_drop, HAT.out (st + m) hin]; rfl
                      have hnm : numL ((s.data.toList.drop st).take (m + 1)) = numL ((s.data.toList.drop st).take m) * 10 + ((s[st + m]'hin).toNat - 48) := by rw [hsn, numL_snoc]
                      have HNM := Lib.hid hnm
                      generalize numL ((s.data.toList.drop st).take m) = acc at *
                      rw [B9_eq] at hac
                      have hw8 : IntKind.u8.wrap (((s[st + m]'hin).toNat : Int) - 48) = ((s[st + m]'hin).toNat : Int) - 48 := by rw [IntKind.wrap_u8]; omega
                      clear hsn hnm
                      go_wp2
                      go_roundw
                      case rel => exact ⟨m + 1, by omega, by go_num, by rw [HNM.out]; go_num, trivial⟩
                      case measure => simp [intOf]; omega
                    · obtain ⟨n, hn⟩ : ∃ n, n = e - st := ⟨_, rfl⟩
                      obtain rfl : m = n := by omega
                      have hac := chunk_lt HA.out st m (by omega)
                      have hcv := chunk_val (l := s.data.toList) HXL.out (by rw [HLEN.out]; exact h9) HXV.out
                      rw [show s.data.toList.length - 9 * (j + 1) = st by rw [HLEN.out]; exact HST.out.symm, show s.data.toList.length - 9 * j - st = m by rw [HLEN.out]; omega] at hcv
                      have HCV := Lib.hid hcv
                      have hne1 : st + m = e := by omega
                      clear hcv hn hm
                      generalize numL ((s.data.toList.drop st).take m) = acc at *
                      have hcx : (wr.alloc (.cells #[.int .i64 (acc : Int)] 3)).cell? ⟨wr.heap.size, 0, none⟩ = some (encI acc) := (Box.last wr _ _).cell 0
                      have hown := HOW.out.new ((New.refl wr).alloc (.cells #[.int .i64 (acc : Int)] 3))
                      have hnn := HNW.out.alloc (.cells #[.int .i64 (acc : Int)] 3)
                      have hjl := HXL.out
                      have HOWN := Lib.hid hown
                      have HCX := Lib.hid hcx
                      have HNN := Lib.hid hnn
                      clear hown hcx hnn
                      go_wp2_with (at_builtin; refine app_own encI W0 _ rfl _ _ 27 3 rfl (.int .i64 0) 8 (by kernel_rfl) info_int rfl (by decide) _ xs rfl HNN.out HOWN.out _ _ _ acc rfl HCX.out rfl (by omega) ?_)
                      intro A2 c2 w2 hown2 hn2
                      clear HOWN HCX HNN
                      have hxl2 : (xs ++ [acc]).length = j + 1 := by rw [List.length_append, HXL.out]; rfl
                      have hxd2 : ∀ d ∈ xs ++ [acc], d < B9 := by
                        intro d hd
                        rcases List.mem_append.1 hd with hd | hd
                        · exact HXD.out d hd
                        · simp at hd; subst hd; exact hac
                      have HX2 := Lib.hid hxl2
                      have HD2 := Lib.hid hxd2
                      have HO2 := Lib.hid hown2
                      have HN2 := Lib.hid hn2
                      clear hxl2 hxd2 hown2 hn2 hac hjl
                      go_wp2
                      go_roundw
                      case rel =>
                        refine ⟨j + 1, xs ++ [acc], A2, c2, rfl, by go_num, by omega, HX2.out, HD2.out, ?_, HO2.out, HN2.out⟩
                        rw [HLEN.out, ← HST.out]
                        exact HCV.out
                      case measure => simp [intOf]; omega
              · have hsl := HOW.out.sl
                have hz9 : s.data.toList.length - 9 * j = 0 := by rw [HLEN.out]; omega
                have hval : val B9 xs = numL s.data.toList := by rw [HXV.out, hz9]; rfl
                clear hz9
                go_wp2_with fail
                refine (rtrim_c hsl).mono ?_
                rintro e w1 ⟨v, rfl, hv1, hn1⟩
                have hrv := RefV.of_sl hv1 HXD.out
                rw [hval] at hrv
                obtain ⟨A1, l1, c1, e1⟩ := hrv.form
                obtain rfl : v = .slice A1 l1 c1 := by simpa using e1
                have hn2 := HNW.out.trans hn1
                have hb2 := HB0.out.new hn2
                have hc2 : w1.cell? ⟨w.heap.size, 0, none⟩ = some (.slice none 0 0) := hb2.cell 0
                have hf2 := hb2.frozen 0
                have HRV := Lib.hid (hrv.set hb2 (by decide) (i := 0) (.slice A1 l1 c1))
                have HN3 := Lib.hid ((HN0.out.trans hn2).setCell (p := ⟨w.heap.size, 0, none⟩) (Nat.le_refl _) (.slice A1 l1 c1))
                clear e1 hv1 hn1 hrv hval hsl hn2 hb2
                go_wp2
                refine bodyPost_ret (v := .tuple #[.agg #[.slice A1 l1 c1], .int .i64 0]) (by simp [results, Tryz.results67, go_sem, hc2]) rfl ⟨.agg #[.slice A1 l1 c1], by rw [HE.out], ?_, HN3.out⟩
                rw [HZ.out]; exact HRV.out
end Go.Proofs.YtkjlmibleoecgaaGreatDoor
