/- Numbers between commas: both roads walked. -/
import Derived.Test.YteopdmifgdcghaaDoorY1
import Derived.Test.YteopdmifgdcghaaDoorW3
namespace Go.Proofs.YteopdmifgdcghaaDoor
set_option linter.unusedSimpArgs false
set_option linter.unusedVariables false
open Go.RowKit
def nE (n : Int) : Value := .int .i64 n
theorem nE_one (n : Int) : (nE n).oneCell' = true := rfl
theorem info3 : (Tryd.prog.info? 3).map (fun i => (i.zero, i.size, i.bytes)) = some (some (.int .i64 0), 1, 8) := by kernel_rfl
def NsPost (s : ByteArray) (w : World) (e : Ending) (w' : World) : Prop := ∃ v, e = .returned (.tuple #[v, .int .i64 (nsE s)]) ∧ SlE nE w' v (nsL s) ∧ New w w'
theorem NsPost.bad {s : ByteArray} {w w' : World} {x : Int} (h : nsE s = x ∧ nsL s = []) (hn : New w w') : NsPost s w (.returned (.tuple #[.slice Option.none 0 0, .int .i64 x])) w' :=
  ⟨_, by rw [h.1], by rw [h.2]; exact SlE.nil 0 (Nat.zero_le _) Option.none, hn⟩
theorem NsPost.good {s : ByteArray} {w w' : World} {l : List Int} {v : Value} (h : nsE s = 0 ∧ nsL s = l) (hv : SlE nE w' v l) (hn : New w w') : NsPost s w (.returned (.tuple #[v, .int .i64 0])) w' :=
  ⟨v, by rw [h.1], by rw [h.2]; exact hv, hn⟩
set_option maxRecDepth 100000 in
set_option maxHeartbeats 4000000 in
theorem numbers_c (s : ByteArray) (w : World) (m : Int) (hs : s.size ≤ 16384) (L : Laid w) (hm : w.cell? ⟨2, 0, none⟩ = some (.int .i64 m)) : Calls Tryd.prog 16 #[.string s] w (NsPost s w) := by
  have HSP := Lib.hid (Tryd.strings_Split s comma m w (by omega) hm (by decide))
  rw [← count_pieces, splitB_pieces] at HSP
  have hpl := pieces_len s
  have hpl2 : ((pieces s).length : Int) ≤ 16385 := by omega
  have HL := Lib.hid L
  have HPS := Lib.hid (fun p (hp : p ∈ pieces s) => pieces_size hp)
  have HSS := Lib.hid hs
  have HE1 := Lib.hid (fun h => nsE_81 (s := s) h)
  have HE2 := Lib.hid (fun h h2 => nsE_82 (s := s) h h2)
  have HE3 := Lib.hid (fun h h2 => nsE_0 (s := s) h h2)
  have HPO : Hid (∀ x W, nsE s = x ∧ nsL s = [] → New w W → NsPost s w (.returned (.tuple #[.slice Option.none 0 0, .int .i64 x])) W) := Lib.hid fun x W h hn => NsPost.bad h hn
  clear L hs hpl
  go_enter Tryd.func16, Tryd.ntmps16
  go_wp2_with fail
  refine HSP.out.mono ?_
  rintro e w1 ⟨rfl, rfl⟩
  have HB := Lib.hid (Box.last w ((pieces s).map Value.string).toArray 9)
  have HNW : Hid (New w (w.alloc (.cells ((pieces s).map Value.string).toArray 9))) := Lib.hid ((New.refl w).alloc _)
  generalize w.alloc (.cells ((pieces s).map Value.string).toArray 9) = w1 at *
  clear HSP
  go_wp2
  go_loopw [4, 12] (fun v4 v12 w' => ∃ (k : Nat) (A : Option Addr) (c : Nat), v12 = .int .i64 (k : Int) ∧ k ≤ (pieces s).length ∧ v4 = .slice A k c ∧ Hid (OwnE nE 3 w1.heap.size w' (.slice A k c) (((pieces s).take k).map numV)) ∧ Hid (PInv (pieces s) k) ∧ Hid (New w1 w')) (fun _ v12 _ => (pieces s).length - (intOf v12).toNat)
  case atStart => exact ⟨0, none, 0, rfl, Nat.zero_le _, rfl, OwnE.nil _ _ _ _, PInv.start _, New.refl _⟩
  case round =>
    obtain ⟨k, A, c, rfl, hk, rfl, HO, HI, HN⟩ := hrel
    by_cases hkl : k < (pieces s).length
    · have hcell : w1.cell? ⟨w.heap.size, k, none⟩ = some (.string ((pieces s)[k]'hkl)) := by
        rw [HB.out.cell]
        simp [List.getElem?_eq_getElem hkl]
      have hcw := HN.out.still hcell
      have HMM := Lib.hid (List.getElem_mem hkl)
      have HNX := Lib.hid (fun h => HI.out.next hkl h)
      have HTK : Hid (((pieces s).take (k + 1)).map numV = ((pieces s).take k).map numV ++ [numV ((pieces s)[k]'hkl)]) := Lib.hid (by rw [List.take_succ_eq_append_getElem hkl, List.map_append]; rfl)
      have HTL : Hid ((((pieces s).take k).map numV).length = k) := Lib.hid (by rw [List.length_map, List.length_take]; omega)
      obtain ⟨X, hX⟩ : ∃ X, X = ((pieces s).take k).map numV := ⟨_, rfl⟩
      obtain ⟨Y, hY⟩ : ∃ Y, Y = ((pieces s).take (k + 1)).map numV := ⟨_, rfl⟩
      rw [← hX] at HO HTK HTL
      rw [← hY] at HTK
      have HYE := Lib.hid hY
      clear hX hY
      obtain ⟨p, hp⟩ : ∃ p, p = (pieces s)[k]'hkl := ⟨_, rfl⟩
      rw [← hp] at hcw HMM HNX HTK
      have HC := Lib.hid (number_c p wr (by have := HPS.out p HMM.out; have := HSS.out; omega) (HL.out.new (HNW.out.trans HN.out)))
      have HEC := Lib.hid (numE_cases p)
      have HBAD := Lib.hid (fun h => HE1.out (allN_bad HMM.out h))
      unfold NPost at HC
      generalize numV p = V at *
      obtain ⟨E, hE⟩ : ∃ E, E = numE p := ⟨_, rfl⟩
      rw [← hE] at HC HEC HNX HBAD
      clear hE hp hcell
      rcases HEC.out with hE | hE
      · subst hE
        have HI2 := Lib.hid (HNX.out rfl)
        clear HNX HBAD HEC
        go_wp2_with fail
        refine HC.out.mono ?_
        rintro e w3 ⟨rfl, hn⟩
        have HN3 := Lib.hid (HN.out.trans hn)
        have HO3 := Lib.hid (HO.out.new hn)
        have HB5 := Lib.hid ((Box.last w3 #[.int .i64 V] 3).cell 0)
        clear hn HC hcw HN HO HI
        go_wp2_with (at_builtin; refine app_one nE w1 _ rfl _ _ 33 3 rfl (.int .i64 0) 8 rfl info3 rfl (by omega) _ X rfl (HN3.out.alloc _) (HO3.out.new ((New.refl w3).alloc _)) _ 0 _ V rfl HB5.out nE_one (by rw [HTL.out]; omega) ?_)
        intro A6 c6 w6 ho6 hn6 _
        have HO6 : Hid (OwnE nE 3 w1.heap.size w6 (.slice A6 (k + 1) c6) Y) := Lib.hid (by rw [HTK.out]; rw [HTL.out] at ho6; exact ho6)
        have HN6 := Lib.hid hn6
        rw [HTL.out]
        clear ho6 hn6 HO3 HN3 HB5
        go_wp2
        go_roundw
        case rel => exact ⟨k + 1, A6, c6, by go_num, by omega, rfl, by rw [← HYE.out]; exact HO6.out, HI2.out, HN6.out⟩
        case measure => simp [intOf]; omega
      · subst hE
        have HBB := Lib.hid (HBAD.out (by decide))
        clear HNX HBAD HEC
        go_wp2_with fail
        refine HC.out.mono ?_
        rintro e w3 ⟨rfl, hn⟩
        have HN3 := Lib.hid (HNW.out.trans (HN.out.trans hn))
        clear hn HC
        go_wp2
        go_ret2
        exact HPO.out _ _ HBB.out HN3.out
    · obtain rfl : k = (pieces s).length := by omega
      have hall := HI.out
      unfold PInv at hall
      rw [List.take_length] at hall HO
      have HN3 := Lib.hid (HNW.out.trans HN.out)
      by_cases h16 : 16 < (pieces s).length
      · have HBB := Lib.hid (HE2.out hall h16)
        have h16i : (16 : Int) < ((pieces s).length : Int) := by omega
        generalize (pieces s).length = pl at *
        clear hall
        go_wp2
        go_ret2
        exact HPO.out _ _ HBB.out HN3.out
      · have HBB := Lib.hid (HE3.out hall h16)
        have h16i : ((pieces s).length : Int) ≤ 16 := by omega
        have HFIN : Hid (∀ v, SlE nE wr v ((pieces s).map numV) → NsPost s w (.returned (.tuple #[v, .int .i64 0])) wr) := Lib.hid fun v hv => NsPost.good HBB.out hv HN3.out
        have HSL := Lib.hid (HFIN.out _ HO.out.sl)
        clear HFIN HO HE1 HE2 HE3
        generalize (pieces s).length = pl at *
        clear hall
        go_wp2
        go_ret2
        exact HSL.out
set_option maxRecDepth 100000 in
set_option maxHeartbeats 4000000 in
theorem rnumbers_c (s : ByteArray) (w : World) (hs : s.size ≤ 16384) : Calls Tryd.prog 17 #[.string s] w (NsPost s w) := by
  have HSS := Lib.hid hs
  have hsi : (s.size : Int) ≤ 16384 := by omega
  have HPS := Lib.hid (fun p (hp : p ∈ pieces s) => pieces_size hp)
  go_enter Tryd.func17, Tryd.ntmps17
  go_wp2_with fail
  have HO0 : Hid (OwnE nE 3 w.heap.size (w.alloc (.cells #[] 3)) (.slice (some ⟨w.heap.size, 0, none⟩) 0 0) []) := Lib.hid (OwnE.of_box (xs := ([] : List Int)) (Box.last w #[] 3) (Nat.le_refl _) (Nat.zero_le _))
  go_loopw [4, 5, 6] (fun v4 v5 v6 w' => ∃ (i fr : Nat) (out : List Int) (A : Option Addr) (c : Nat), v6 = .int .i64 (i : Int) ∧ v5 = .int .i64 (fr : Int) ∧ v4 = .slice A out.length c ∧ Hid (OwnE nE 3 w.heap.size w' (.slice A out.length c) out) ∧ Hid (CInv s fr i out) ∧ Hid (New w w') ∧ i ≤ s.size + 1) (fun _ _ v6 _ => s.size + 1 - (intOf v6).toNat)
  case atStart => exact ⟨0, 0, [], _, _, rfl, rfl, rfl, HO0.out, CInv.start s, (New.refl w).alloc _, by omega⟩
  case round =>
    clear HO0
    obtain ⟨i, fr, out, A, c, rfl, rfl, rfl, HO, HW, HN, hi1⟩ := hrel
    by_cases hi : i ≤ s.size
    · have hfr := HW.out.from hi
      have hol := HW.out.len
      rcases Nat.lt_or_ge i s.size with hlt | hge
      · have hd : s.data.toList[i]? = some (s[i]'hlt) := by
          rw [List.getElem?_eq_getElem (by rw [size_data]; exact hlt)]
          rfl
        have f1 : ((i : Int) == (s.size : Int)) = false := by rw [beq_eq_false_iff_ne]; omega
        by_cases hb : (s[i]'hlt).toNat = 44
        · have hb2 : s.data.toList[i]? = some 44 := by
            rw [hd]
            exact congrArg some (UInt8.toNat_inj.1 hb)
          have f2 : (((s[i]'hlt).toNat : Int) == 44) = true := by rw [beq_iff_eq]; omega
          obtain ⟨q1, q2, q3⟩ := HW.out.piece hi (.inr hb2)
          clear hd hb hb2
          have HC := Lib.hid (fun W => rnumber_c (s.extract fr i) W (by have := HPS.out _ q1; have := HSS.out; omega))
          have HEC := Lib.hid (numE_cases (s.extract fr i))
          have HBAD := Lib.hid (fun h => nsE_81 (allN_bad q1 h))
          have HGO := Lib.hid q3
          unfold NPost at HC
          generalize numV (s.extract fr i) = V at *
          obtain ⟨E, hE⟩ : ∃ E, E = numE (s.extract fr i) := ⟨_, rfl⟩
          rw [← hE] at HC HEC HBAD HGO
          clear hE q1 q2 q3
          rcases HEC.out with hE | hE
          · subst hE
            have HW2 := Lib.hid (HGO.out rfl)
            clear HGO HBAD HEC HW
            go_wp2_with fail
            refine (HC.out _).mono ?_
            rintro e w3 ⟨rfl, hn⟩
            have HN3 := Lib.hid (HN.out.trans hn)
            have HO3 := Lib.hid (HO.out.new hn)
            have HB5 := Lib.hid ((Box.last w3 #[.int .i64 V] 3).cell 0)
            have HLO := Lib.hid hol
            clear hn HC HN HO
            go_wp2_with (at_builtin; refine app_one nE w _ rfl _ _ 33 3 rfl (.int .i64 0) 8 rfl info3 rfl (by omega) _ out rfl (HN3.out.alloc _) (HO3.out.new ((New.refl w3).alloc _)) _ 0 _ V rfl HB5.out nE_one (by have := HLO.out; have := HSS.out; omega) ?_)
            intro A6 c6 w6 ho6 hn6 _
            have HO6 := Lib.hid ho6
            have HN6 := Lib.hid hn6
            clear ho6 hn6 HB5 HN3 HO3
            go_wp2
            go_roundw
            case rel => exact ⟨i + 1, i + 1, out ++ [V], A6, c6, by go_num, by go_num, by rw [List.length_append, List.length_singleton], by rw [List.length_append, List.length_singleton]; exact HO6.out, HW2.out, HN6.out, by omega⟩
            case measure => simp [intOf]; omega
          · subst hE
            have HBB := Lib.hid (HBAD.out (by decide))
            clear HGO HBAD HEC
            go_wp2_with fail
            refine (HC.out _).mono ?_
            rintro e w3 ⟨rfl, hn⟩
            have HN3 := Lib.hid (HN.out.trans hn)
            clear hn HC
            go_wp2
            go_ret2
            exact NsPost.bad HBB.out HN3.out
        · have HW2 := Lib.hid (HW.out.other hlt (by
            rw [hd]
            intro e
            injection e with e
            rw [e] at hb
            exact hb rfl))
          have f2 : (((s[i]'hlt).toNat : Int) == 44) = false := by rw [beq_eq_false_iff_ne]; omega
          clear hd hb
          go_wp2
          go_roundw
          case rel => exact ⟨i + 1, fr, out, A, c, by go_num, rfl, rfl, HO.out, HW2.out, HN.out, by omega⟩
          case measure => simp [intOf]; omega
      · have f1 : ((i : Int) == (s.size : Int)) = true := by rw [beq_iff_eq]; omega
        obtain ⟨q1, q2, q3⟩ := HW.out.piece hi (.inl (by omega))
        clear hge
        have HC := Lib.hid (fun W => rnumber_c (s.extract fr i) W (by have := HPS.out _ q1; have := HSS.out; omega))
        have HEC := Lib.hid (numE_cases (s.extract fr i))
        have HBAD := Lib.hid (fun h => nsE_81 (allN_bad q1 h))
        have HGO := Lib.hid q3
        unfold NPost at HC
        generalize numV (s.extract fr i) = V at *
        obtain ⟨E, hE⟩ : ∃ E, E = numE (s.extract fr i) := ⟨_, rfl⟩
        rw [← hE] at HC HEC HBAD HGO
        clear hE q1 q2 q3
        rcases HEC.out with hE | hE
        · subst hE
          have HW2 := Lib.hid (HGO.out rfl)
          clear HGO HBAD HEC HW
          go_wp2_with fail
          refine (HC.out _).mono ?_
          rintro e w3 ⟨rfl, hn⟩
          have HN3 := Lib.hid (HN.out.trans hn)
          have HO3 := Lib.hid (HO.out.new hn)
          have HB5 := Lib.hid ((Box.last w3 #[.int .i64 V] 3).cell 0)
          have HLO := Lib.hid hol
          clear hn HC HN HO
          go_wp2_with (at_builtin; refine app_one nE w _ rfl _ _ 33 3 rfl (.int .i64 0) 8 rfl info3 rfl (by omega) _ out rfl (HN3.out.alloc _) (HO3.out.new ((New.refl w3).alloc _)) _ 0 _ V rfl HB5.out nE_one (by have := HLO.out; have := HSS.out; omega) ?_)
          intro A6 c6 w6 ho6 hn6 _
          have HO6 := Lib.hid ho6
          have HN6 := Lib.hid hn6
          clear ho6 hn6 HB5 HN3 HO3
          go_wp2
          go_roundw
          case rel => exact ⟨i + 1, i + 1, out ++ [V], A6, c6, by go_num, by go_num, by rw [List.length_append, List.length_singleton], by rw [List.length_append, List.length_singleton]; exact HO6.out, HW2.out, HN6.out, by omega⟩
          case measure => simp [intOf]; omega
        · subst hE
          have HBB := Lib.hid (HBAD.out (by decide))
          clear HGO HBAD HEC
          go_wp2_with fail
          refine (HC.out _).mono ?_
          rintro e w3 ⟨rfl, hn⟩
          have HN3 := Lib.hid (HN.out.trans hn)
          clear hn HC
          go_wp2
          go_ret2
          exact NsPost.bad HBB.out HN3.out
    · obtain ⟨e1, e2, e3⟩ := HW.out.fin hi
      by_cases h16 : 16 < (pieces s).length
      · have HE := Lib.hid (nsE_82 e1 h16)
        have h16' : (16 : Int) < (out.length : Int) := by rw [← e3]; omega
        clear e1 e2 h16 e3
        go_wp2
        go_ret2
        exact NsPost.bad HE.out HN.out
      · have HE := Lib.hid (nsE_0 e1 h16)
        rw [e2] at HE
        have h16' : (out.length : Int) ≤ 16 := by rw [← e3]; omega
        have HG := Lib.hid (NsPost.good HE.out HO.out.sl HN.out)
        clear e1 e2 h16 e3
        go_wp2
        go_ret2
        exact HG.out
end Go.Proofs.YteopdmifgdcghaaDoor
