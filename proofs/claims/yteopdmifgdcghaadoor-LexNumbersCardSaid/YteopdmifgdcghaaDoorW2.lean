/- Words of a text: both roads walked. -/
import Derived.Test.YteopdmifgdcghaaDoorW1
import Derived.Test.YteopdmifgdcghaaDoorB1
import Derived.Test.YteopdmifgdcghaaDoorShelf
import Derived.RegionTactic
namespace Go.Proofs.YteopdmifgdcghaaDoor
set_option linter.unusedSimpArgs false
set_option linter.unusedVariables false
open Go.RowKit
/-- What a call of Words leaves. -/
def WPost (s : ByteArray) (w : World) (e : Ending) (w' : World) : Prop := ∃ v, e = .returned (.tuple #[v, .int .i64 (wordsE s)]) ∧ SlE Value.string w' v (wordsL s) ∧ New w w'
theorem WPost.none {s : ByteArray} {w w' : World} {x : Int} (h : wordsE s = x ∧ wordsL s = []) (hn : New w w') : WPost s w (.returned (.tuple #[.slice Option.none 0 0, .int .i64 x])) w' :=
  ⟨_, by rw [h.1], by rw [h.2]; exact SlE.nil 0 (Nat.zero_le _) Option.none, hn⟩
def isD (r : Int) : Bool := decide (48 ≤ r ∧ r ≤ 57)
set_option maxHeartbeats 1000000 in
theorem digit_c (r : Int) (w : World) : Calls Tryd.prog 22 #[.int .i32 r] w fun e w' => e = .returned (.bool (isD r)) ∧ w = w' := by
  have hc : r < 48 ∨ (48 ≤ r ∧ r ≤ 57) ∨ (48 ≤ r ∧ 57 < r) := by omega
  rcases hc with h1 | ⟨h1, h2⟩ | ⟨h1, h2⟩
  · have e : isD r = false := by unfold isD; exact decide_eq_false (by omega)
    rw [e]
    go_enter Tryd.func22, Tryd.ntmps22
    go_wp2
    go_ret
    exact ⟨ret_bool (by first | rfl | (simp; omega)), rfl⟩
  · have e : isD r = true := by unfold isD; exact decide_eq_true ⟨h1, h2⟩
    rw [e]
    go_enter Tryd.func22, Tryd.ntmps22
    go_wp2
    go_ret
    exact ⟨ret_bool (by first | rfl | (simp; omega)), rfl⟩
  · have e : isD r = false := by unfold isD; exact decide_eq_false (by omega)
    rw [e]
    go_enter Tryd.func22, Tryd.ntmps22
    go_wp2
    go_ret
    exact ⟨ret_bool (by first | rfl | (simp; omega)), rfl⟩
/-- A rune that may be there, in each of its ways. -/
theorem kind_cases (r : Int) : (kindN r ≠ 0 ∧ isL r = true) ∨ (kindN r ≠ 0 ∧ isL r = false ∧ isD r = true) ∨ (kindN r ≠ 0 ∧ isL r = false ∧ isD r = false ∧ r = 45) ∨ (kindN r ≠ 0 ∧ isL r = false ∧ isD r = false ∧ r = 44) ∨ (kindN r ≠ 0 ∧ isL r = false ∧ isD r = false ∧ r = 32) ∨ (kindN r = 0 ∧ isL r = false ∧ isD r = false ∧ ¬ r = 45 ∧ ¬ r = 44 ∧ ¬ r = 32) := by
  cases h1 : isL r with
  | true => exact .inl ⟨by unfold kindN; rw [h1]; simp, rfl⟩
  | false =>
    cases h2 : isD r with
    | true => exact .inr (.inl ⟨by unfold kindN; rw [h1, if_neg (by simp), if_pos (by unfold isD at h2; exact of_decide_eq_true h2)]; simp, rfl, rfl⟩)
    | false =>
      have h3 : ¬ (48 ≤ r ∧ r ≤ 57) := by unfold isD at h2; exact of_decide_eq_false h2
      by_cases h4 : r = 45
      · exact .inr (.inr (.inl ⟨by rw [h4]; decide, rfl, rfl, h4⟩))
      by_cases h5 : r = 44
      · exact .inr (.inr (.inr (.inl ⟨by rw [h5]; decide, rfl, rfl, h5⟩)))
      by_cases h6 : r = 32
      · exact .inr (.inr (.inr (.inr (.inl ⟨by rw [h6]; decide, rfl, rfl, h6⟩))))
      · exact .inr (.inr (.inr (.inr (.inr ⟨by unfold kindN; rw [h1, if_neg (by simp), if_neg h3, if_neg h4, if_neg h5, if_neg h6], rfl, rfl, h4, h5, h6⟩))))
theorem info9 : (Tryd.prog.info? 9).map (fun i => (i.zero, i.size, i.bytes)) = some (some (.string ⟨#[]⟩), 1, 16) := by kernel_rfl
def okK (r : Int) : Bool := decide (kindN r ≠ 0)
theorem okR_no {s : ByteArray} (h : (runes s).all (fun r => okK (r : Int)) = false) : okR s = false := h
theorem okR_yes {s : ByteArray} {n : Nat} (h : (runes s).all (fun r => okK (r : Int)) = true ∧ (runes s).length = n) : okR s = true := h.1
set_option maxRecDepth 100000 in
set_option maxHeartbeats 4000000 in
theorem words_c (s : ByteArray) (w : World) (m : Int) (hm : w.cell? ⟨2, 0, none⟩ = some (.int .i64 m)) : Calls Tryd.prog 11 #[.string s] w (WPost s w) := by
  by_cases hs : s.size ≤ 200
  · go_enter Tryd.func11, Tryd.ntmps11
    go_wp2
    go_loopw [] (fun w' => ∃ (pos b n : Nat), w' = w.iter s pos ∧ Hid (Seen okK s pos b n)) (fun w' => s.size - w'.iterPos w.heap.size)
    case atStart => exact ⟨0, s.size, 0, rfl, Seen.start _ _⟩
    case round =>
      obtain ⟨pos, b, n, rfl, HS⟩ := hrel
      by_cases hp : pos < s.size
      · have hnx : ∀ ty, (Instr.next (.pointer (some ⟨w.heap.size, 0, none⟩)) true ty).run Tryd.prog (w.iter s pos) = _ := fun ty => run_next_any w s pos ty hp
        have hwd := Lib.decode_width_pos s pos hp
        obtain ⟨b', rfl, k1, k2⟩ := HS.out.step hp
        have K1 := Lib.hid k1
        have K2 := Lib.hid k2
        have HL := Lib.hid (fun W => letter_c (((Utf8.decode s pos).1 : Nat) : Int) W)
        have HD := Lib.hid (fun W => digit_c (((Utf8.decode s pos).1 : Nat) : Int) W)
        clear k1 k2
        rcases kind_cases (((Utf8.decode s pos).1 : Nat) : Int) with ⟨c0, c1⟩ | ⟨c0, c1, c2⟩ | ⟨c0, c1, c2, c3⟩ | ⟨c0, c1, c2, c3⟩ | ⟨c0, c1, c2, c3⟩ | ⟨c0, c1, c2, c3, c4, c5⟩
        · have HS2 := Lib.hid (K1.out (decide_eq_true c0))
          rw [c1] at HL
          clear c0 c1 K1 K2
          go_wp2_with fail
          refine (HL.out _).mono ?_
          rintro e w2 ⟨rfl, rfl⟩
          go_wp2
          go_roundw
          case rel => exact ⟨_, _, n + 1, rfl, HS2.out⟩
          case measure => simp; omega
        · have HS2 := Lib.hid (K1.out (decide_eq_true c0))
          rw [c1] at HL
          rw [c2] at HD
          clear c0 c1 c2 K1 K2
          go_wp2_with fail
          refine (HL.out _).mono ?_
          rintro e w2 ⟨rfl, rfl⟩
          go_wp2_with fail
          refine (HD.out _).mono ?_
          rintro e w2 ⟨rfl, rfl⟩
          go_wp2
          go_roundw
          case rel => exact ⟨_, _, n + 1, rfl, HS2.out⟩
          case measure => simp; omega
        · have HS2 := Lib.hid (K1.out (decide_eq_true c0))
          rw [c1] at HL
          rw [c2] at HD
          rw [c3] at HL HD hnx
          clear c0 c1 c2 K1 K2
          go_wp2_with fail
          refine (HL.out _).mono ?_
          rintro e w2 ⟨rfl, rfl⟩
          go_wp2_with fail
          refine (HD.out _).mono ?_
          rintro e w2 ⟨rfl, rfl⟩
          go_wp2
          go_roundw
          case rel => exact ⟨_, _, n + 1, rfl, HS2.out⟩
          case measure => simp; omega
        · have HS2 := Lib.hid (K1.out (decide_eq_true c0))
          rw [c1] at HL
          rw [c2] at HD
          rw [c3] at HL HD hnx
          clear c0 c1 c2 K1 K2
          go_wp2_with fail
          refine (HL.out _).mono ?_
          rintro e w2 ⟨rfl, rfl⟩
          go_wp2_with fail
          refine (HD.out _).mono ?_
          rintro e w2 ⟨rfl, rfl⟩
          go_wp2
          go_roundw
          case rel => exact ⟨_, _, n + 1, rfl, HS2.out⟩
          case measure => simp; omega
        · have HS2 := Lib.hid (K1.out (decide_eq_true c0))
          rw [c1] at HL
          rw [c2] at HD
          rw [c3] at HL HD hnx
          clear c0 c1 c2 K1 K2
          go_wp2_with fail
          refine (HL.out _).mono ?_
          rintro e w2 ⟨rfl, rfl⟩
          go_wp2_with fail
          refine (HD.out _).mono ?_
          rintro e w2 ⟨rfl, rfl⟩
          go_wp2
          go_roundw
          case rel => exact ⟨_, _, n + 1, rfl, HS2.out⟩
          case measure => simp; omega
        · have HN := Lib.hid (wordsE_80 hs (okR_no (K2.out (by unfold okK; rw [c0]; rfl))))
          rw [c1] at HL
          rw [c2] at HD
          have d3 : (((Utf8.decode s pos).1 : Int) != 45) = true := by rw [bne_iff_ne]; exact c3
          have d4 : (((Utf8.decode s pos).1 : Int) != 44) = true := by rw [bne_iff_ne]; exact c4
          have d5 : (((Utf8.decode s pos).1 : Int) != 32) = true := by rw [bne_iff_ne]; exact c5
          clear c0 c1 c2 K1 K2 c3 c4 c5
          go_wp2_with fail
          refine (HL.out _).mono ?_
          rintro e w2 ⟨rfl, rfl⟩
          go_wp2_with fail
          refine (HD.out _).mono ?_
          rintro e w2 ⟨rfl, rfl⟩
          go_wp2
          go_ret2
          exact WPost.none HN.out ((New.refl w).alloc _)
      · have hnx : ∀ ty, (Instr.next (.pointer (some ⟨w.heap.size, 0, none⟩)) true ty).run Tryd.prog (w.iter s pos) = _ := fun ty => run_next_end w s pos ty hp
        have HOK := Lib.hid (okR_yes (HS.out.fin hp))
        have hm2 : (w.iter s pos).cell? ⟨2, 0, none⟩ = some (.int .i64 m) := ((New.refl w).alloc _).still hm
        have HSP := Lib.hid (Tryd.strings_Split s blank m (w.iter s pos) (by omega) hm2 (by decide))
        rw [← count_parts, splitB_parts] at HSP
        have hlen := count_parts s
        have hcb := Lib.countB_le blank (by decide) s.size s (Nat.le_refl _)
        have HNW : Hid (New w (w.iter s pos)) := Lib.hid ((New.refl w).alloc _)
        have hpl : (parts s).length ≤ 201 := by omega
        clear hlen hcb hm2 HS
        go_wp2_with fail
        refine HSP.out.mono ?_
        rintro e w2 ⟨rfl, rfl⟩
        generalize w.iter s pos = wi at *
        have HB := Lib.hid (Box.last wi ((parts s).map Value.string).toArray 9)
        have HC := Lib.hid (Tryd.slices_Contains_string wi.heap.size 0 (parts s).length (parts s).length (parts s) ⟨#[]⟩ (wi.alloc (.cells ((parts s).map Value.string).toArray 9)) (Nat.le_refl _) (by omega) (fun j hj => by rw [Nat.zero_add, HB.out.cell]; simp [List.getD, List.getElem?_eq_getElem hj]))
        rw [List.take_length] at HC
        have HSL := Lib.hid (SlE.of_box (xs := parts s) HB.out (by unfold maxLen; omega))
        have HN2 := Lib.hid (HNW.out.alloc (.cells ((parts s).map Value.string).toArray 9))
        generalize wi.alloc (.cells ((parts s).map Value.string).toArray 9) = wj at *
        clear HNW HB
        by_cases hmem : (⟨#[]⟩ : ByteArray) ∈ parts s
        · have HN := Lib.hid (wordsE_81 hs HOK.out hmem)
          rw [(Lib.containsS_iff _ _).2 hmem] at HC
          clear hmem
          go_wp2_with fail
          refine HC.out.mono ?_
          rintro e w3 ⟨rfl, rfl⟩
          go_wp2
          go_ret2
          exact WPost.none HN.out HN2.out
        · have hcn : Lib.containsS (parts s) ⟨#[]⟩ = false := by
            cases hc : Lib.containsS (parts s) ⟨#[]⟩ with
            | false => rfl
            | true => exact absurd ((Lib.containsS_iff _ _).1 hc) hmem
          rw [hcn] at HC
          by_cases h16 : 16 < (parts s).length
          · have HN := Lib.hid (wordsE_82 hs HOK.out hmem h16)
            have h16' : (16 : Int) < ((parts s).length : Int) := by omega
            generalize (parts s).length = pl at *
            clear hmem hcn
            go_wp2_with fail
            refine HC.out.mono ?_
            rintro e w3 ⟨rfl, rfl⟩
            go_wp2
            go_ret2
            exact WPost.none HN.out HN2.out
          · have HN := Lib.hid (wordsE_0 hs HOK.out hmem h16)
            have h16' : ((parts s).length : Int) ≤ 16 := by omega
            have HP : Hid (∀ v W, SlE Value.string W v (parts s) → New w W → WPost s w (.returned (.tuple #[v, .int .i64 0])) W) := Lib.hid fun v W hv hn => ⟨v, by rw [HN.out.1], by rw [HN.out.2]; exact hv, hn⟩
            generalize hpl2 : (parts s).length = pl at *
            clear hmem hcn
            go_wp2_with fail
            refine HC.out.mono ?_
            rintro e w3 ⟨rfl, rfl⟩
            go_wp2
            go_ret2
            exact HP.out _ _ HSL.out HN2.out
  · have HN := Lib.hid (wordsE_41 (s := s) (by omega))
    have hs2 : (200 : Int) < (s.size : Int) := by omega
    go_enter Tryd.func11, Tryd.ntmps11
    go_wp2
    go_ret2
    exact WPost.none HN.out (New.refl w)
set_option maxRecDepth 100000 in
set_option maxHeartbeats 4000000 in
theorem rwords_c (s : ByteArray) (w : World) : Calls Tryd.prog 10 #[.string s] w (WPost s w) := by
  by_cases hs : s.size ≤ 200
  · go_enter Tryd.func10, Tryd.ntmps10
    go_wp2
    go_loopw [] (fun w' => ∃ (pos b n : Nat), w' = w.iter s pos ∧ Hid (Seen okK s pos b n)) (fun w' => s.size - w'.iterPos w.heap.size)
    case atStart => exact ⟨0, s.size, 0, rfl, Seen.start _ _⟩
    case round =>
      obtain ⟨pos, b, n, rfl, HS⟩ := hrel
      by_cases hp : pos < s.size
      · have hnx : ∀ ty, (Instr.next (.pointer (some ⟨w.heap.size, 0, none⟩)) true ty).run Tryd.prog (w.iter s pos) = _ := fun ty => run_next_any w s pos ty hp
        have hwd := Lib.decode_width_pos s pos hp
        obtain ⟨b', rfl, k1, k2⟩ := HS.out.step hp
        have K1 := Lib.hid k1
        have K2 := Lib.hid k2
        have HL := Lib.hid (fun W => kind_c (((Utf8.decode s pos).1 : Nat) : Int) W)
        clear k1 k2
        by_cases c0 : kindN (((Utf8.decode s pos).1 : Nat) : Int) = 0
        · have HN := Lib.hid (wordsE_80 hs (okR_no (K2.out (by unfold okK; rw [c0]; rfl))))
          rw [c0] at HL
          clear c0 K1 K2
          go_wp2_with fail
          refine (HL.out _).mono ?_
          rintro e w2 ⟨rfl, rfl⟩
          go_wp2
          go_ret2
          exact WPost.none HN.out ((New.refl w).alloc _)
        · have HS2 := Lib.hid (K1.out (decide_eq_true c0))
          generalize kindN (((Utf8.decode s pos).1 : Nat) : Int) = kk at *
          clear K1 K2
          go_wp2_with fail
          refine (HL.out _).mono ?_
          rintro e w2 ⟨rfl, rfl⟩
          go_wp2
          go_roundw
          case rel => exact ⟨_, _, n + 1, rfl, HS2.out⟩
          case measure => simp; omega
      · have hnx : ∀ ty, (Instr.next (.pointer (some ⟨w.heap.size, 0, none⟩)) true ty).run Tryd.prog (w.iter s pos) = _ := fun ty => run_next_end w s pos ty hp
        have HOK := Lib.hid (okR_yes (HS.out.fin hp))
        have HNW : Hid (New w (w.iter s pos)) := Lib.hid ((New.refl w).alloc _)
        clear HS
        go_wp2_with fail
        generalize w.iter s pos = wi at *
        have HO0 : Hid (OwnE Value.string 9 w.heap.size (wi.alloc (.cells #[] 9)) (.slice (some ⟨wi.heap.size, 0, none⟩) 0 0) []) := Lib.hid (OwnE.of_box (xs := ([] : List ByteArray)) (Box.last wi #[] 9) HNW.out.le (Nat.zero_le _))
        have HN0 := Lib.hid (HNW.out.alloc (.cells #[] 9))
        clear HNW
        go_loopw [6, 7, 8] (fun v6 v7 v8 w' => ∃ (i fr : Nat) (out : List ByteArray) (A : Option Addr) (c : Nat), v8 = .int .i64 (i : Int) ∧ v7 = .int .i64 (fr : Int) ∧ v6 = .slice A out.length c ∧ Hid (OwnE Value.string 9 w.heap.size w' (.slice A out.length c) out) ∧ Hid (WInv s fr i out) ∧ Hid (New w w')) (fun _ _ v8 _ => s.size + 1 - (intOf v8).toNat)
        case atStart => exact ⟨0, 0, [], _, _, rfl, rfl, rfl, HO0.out, WInv.start s, HN0.out⟩
        case round =>
          clear HO0 HN0 hnx
          obtain ⟨i, fr, out, A, c, rfl, rfl, rfl, HO, HW, HN⟩ := hrel
          by_cases hi : i ≤ s.size
          · have hfr := HW.out.from hi
            have hol := HW.out.len
            rcases Nat.lt_or_ge i s.size with hlt | hge
            · have hd : s.data.toList[i]? = some (s[i]'hlt) := by
                rw [List.getElem?_eq_getElem (by rw [size_data]; exact hlt)]
                rfl
              have f1 : ((i : Int) == (s.size : Int)) = false := by rw [beq_eq_false_iff_ne]; omega
              by_cases hb : (s[i]'hlt).toNat = 32
              · have hb2 : s.data.toList[i]? = some 32 := by
                  rw [hd]
                  congr 1
                  exact UInt8.toNat_inj.1 hb
                have f2 : (((s[i]'hlt).toNat : Int) == 32) = true := by rw [beq_iff_eq]; omega
                clear hd
                by_cases hif : i = fr
                · have HE := Lib.hid (wordsE_81 hs HOK.out (HW.out.empty hi (.inr hb2) hif))
                  have f3 : ((i : Int) == (fr : Int)) = true := by rw [beq_iff_eq]; omega
                  clear hb hb2 hif
                  go_wp2
                  go_ret2
                  exact WPost.none HE.out HN.out
                · have HW2 := Lib.hid (HW.out.more hi (.inr hb2) hif)
                  have f3 : ((i : Int) == (fr : Int)) = false := by rw [beq_eq_false_iff_ne]; omega
                  clear hb hb2
                  have HB5 := Lib.hid ((Box.last wr #[.string (s.extract fr i)] 9).cell 0)
                  have HLO := Lib.hid hol
                  go_wp2_with (at_builtin; refine app_one Value.string w _ rfl _ _ 22 9 rfl (.string ⟨#[]⟩) 16 rfl info9 rfl (by omega) _ out rfl (HN.out.alloc _) (HO.out.new ((New.refl wr).alloc _)) _ 0 _ (s.extract fr i) rfl HB5.out (fun _ => rfl) (by have := HLO.out; omega) ?_)
                  intro A6 c6 w6 ho6 hn6 _
                  have HO6 := Lib.hid ho6
                  have HN6 := Lib.hid hn6
                  clear ho6 hn6 HB5 HN HO HW
                  go_wp2
                  go_roundw
                  case rel => exact ⟨i + 1, i + 1, out ++ [s.extract fr i], A6, c6, by go_num, by go_num, by rw [List.length_append, List.length_singleton], by rw [List.length_append, List.length_singleton]; exact HO6.out, HW2.out, HN6.out⟩
                  case measure => simp [intOf]; omega
              · have HW2 := Lib.hid (HW.out.other hlt (by
                  rw [hd]
                  intro e
                  injection e with e
                  rw [e] at hb
                  exact hb rfl))
                have f2 : (((s[i]'hlt).toNat : Int) == 32) = false := by rw [beq_eq_false_iff_ne]; omega
                clear hd
                go_wp2
                go_roundw
                case rel => exact ⟨i + 1, fr, out, A, c, by go_num, rfl, rfl, HO.out, HW2.out, HN.out⟩
                case measure => simp [intOf]; omega
            · have he : i = s.size := by omega
              have f1 : ((i : Int) == (s.size : Int)) = true := by rw [beq_iff_eq]; omega
              by_cases hif : i = fr
              · have HE := Lib.hid (wordsE_81 hs HOK.out (HW.out.empty hi (.inl he) hif))
                have f3 : ((i : Int) == (fr : Int)) = true := by rw [beq_iff_eq]; omega
                clear he hge hif
                go_wp2
                go_ret2
                exact WPost.none HE.out HN.out
              · have HW2 := Lib.hid (HW.out.more hi (.inl he) hif)
                have f3 : ((i : Int) == (fr : Int)) = false := by rw [beq_eq_false_iff_ne]; omega
                clear he hge
                have HB5 := Lib.hid ((Box.last wr #[.string (s.extract fr i)] 9).cell 0)
                have HLO := Lib.hid hol
                go_wp2_with (at_builtin; refine app_one Value.string w _ rfl _ _ 22 9 rfl (.string ⟨#[]⟩) 16 rfl info9 rfl (by omega) _ out rfl (HN.out.alloc _) (HO.out.new ((New.refl wr).alloc _)) _ 0 _ (s.extract fr i) rfl HB5.out (fun _ => rfl) (by have := HLO.out; omega) ?_)
                intro A6 c6 w6 ho6 hn6 _
                have HO6 := Lib.hid ho6
                have HN6 := Lib.hid hn6
                clear ho6 hn6 HB5 HN HO HW
                go_wp2
                go_roundw
                case rel => exact ⟨i + 1, i + 1, out ++ [s.extract fr i], A6, c6, by go_num, by go_num, by rw [List.length_append, List.length_singleton], by rw [List.length_append, List.length_singleton]; exact HO6.out, HW2.out, HN6.out⟩
                case measure => simp [intOf]; omega
          · obtain ⟨e1, e2⟩ := HW.out.fin hi
            have E1 := Lib.hid e1
            by_cases h16 : 16 < (parts s).length
            · have HE := Lib.hid (wordsE_82 hs HOK.out e2 h16)
              have h16' : (16 : Int) < (out.length : Int) := by rw [← e1]; omega
              clear e1 e2 h16
              go_wp2
              go_ret2
              exact WPost.none HE.out HN.out
            · have HE := Lib.hid (wordsE_0 hs HOK.out e2 h16)
              have h16' : (out.length : Int) ≤ 16 := by rw [← e1]; omega
              clear e1 e2 h16
              go_wp2
              go_ret2
              exact ⟨.slice A out.length c, by rw [HE.out.1]; rfl, by rw [HE.out.2, E1.out]; exact HO.out.sl, HN.out⟩
  · have HN := Lib.hid (wordsE_41 (s := s) (by omega))
    have hs2 : (200 : Int) < (s.size : Int) := by omega
    go_enter Tryd.func10, Tryd.ntmps10
    go_wp2
    go_ret2
    exact WPost.none HN.out (New.refl w)
end Go.Proofs.YteopdmifgdcghaaDoor
