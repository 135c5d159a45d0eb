/- The reference of nat, part 8: Text. -/
import Derived.Test.YtkjlmibleoecgaaGreatDoorK9
import Derived.Test.YtkjlmibleoecgaaGreatDoorRef4
namespace Go.Proofs.YtkjlmibleoecgaaGreatDoor
set_option linter.unusedSimpArgs false
set_option linter.unusedVariables false
open Go.RowKit
open Go.Lib (decDigits)
abbrev encB : UInt8 → Value := fun x : UInt8 => Value.int .u8 (x.toNat : Int)
theorem info_u8 : (Tryz.prog.info? 5).map (fun i => (i.zero, i.size, i.bytes)) = some (some (.int .u8 0), 1, 1) := by kernel_rfl
theorem dgt_nat {d : Nat} (h : d < 10) : (dgt d).toNat = 48 + d := by unfold dgt; rw [UInt8.toNat_ofNat']; omega
theorem own_str0 {P : Program} {w : World} {src dst E B : Nat} {v : Value} {l : List UInt8} (hs : P.underlying src = some (.slice E)) (he : P.underlying E = some (.int .u8)) (hd : P.underlying dst = some .string)
    (h : OwnE encB E B w v l) : (convert src dst v).run P w = .ok (.string ⟨l.toArray⟩) w := by
  by_cases h0 : l = []
  · subst h0
    rcases h.2 with ⟨rfl, _⟩ | ⟨g, cap, cur, rfl, _⟩
    · rw [run_convert_bytes_string w src dst E _ _ _ hs he hd]
      simp [Conv.bytesToString]
      rfl
    · exact run_convert_bytes_back w src dst E ⟨g, 0, none⟩ cap [] hs he hd fun j hj => by cases hj
  · obtain ⟨g, c, rfl, h1, h2, hB, _, h4⟩ := h.at h0
    refine run_convert_bytes_back w src dst E _ c l hs he hd fun j hj => ?_
    rw [Addr.add_lit, Nat.zero_add]
    exact h4 j hj
set_option maxHeartbeats 2000000 in
set_option maxRecDepth 100000 in
theorem rtext_c {n : Nat} {u : Value} {w : World} (hx : RefV w u n) (hl : (dg B9 n).length ≤ 1000000) :
    Calls Tryz.prog 17 #[u] w fun e w' => e = .returned (.string ⟨(decDigits n).toArray⟩) ∧ New w w' := by
  obtain ⟨A, l, c, rfl⟩ := hx.form
  have hll : l = (dg B9 n).length := by obtain ⟨_, e, A1, c1, rfl, _⟩ := hx; simp at e; omega
  have HX := Lib.hid hx.sl
  by_cases h0 : n = 0
  · subst h0
    rw [dg_zero] at hll
    have hl0 : l = 0 := hll
    subst hl0
    clear hll hl hx HX
    go_enter Tryz.func17, Tryz.ntmps17
    go_wp2
    go_ret
    exact ⟨by rw [show decDigits 0 = [48] from dec_small (by omega)]; rfl, (New.refl w).alloc _⟩
  have hlp : 0 < l := by rw [hll]; exact List.length_pos_iff.2 fun h => h0 ((dg_nil B9_2).1 h)
  have hl0b : ((l : Int) == 0) = false := by rw [beq_eq_false_iff_ne]; omega
  have hl3 : l ≤ 1000000 := by omega
  have HL := Lib.hid hll
  have HD := Lib.hid (dec_dg (by omega : 0 < n))
  have HTL : Hid ((dg 10 n).length ≤ 9000000) := Lib.hid (by
    refine Nat.le_trans (dg_len (b := 10) (L := 9 * l) (by omega) ?_) (by omega)
    rw [Nat.pow_mul, show (10 : Nat) ^ 9 = B9 from rfl, hll]
    exact dg_lt_pow B9_2 n)
  have HAB : Hid (∀ k, k < l ↔ 0 < n / B9 ^ k) := Lib.hid (fun k => by rw [hll]; exact dg_above B9_2)
  have HLT := Lib.hid (dg_lt B9_2 n)
  clear hx hll hl h0
  go_enter Tryz.func17, Tryz.ntmps17
  go_wp2
  obtain ⟨W0, hW0⟩ : ∃ X, X = (w.alloc (.cells #[.slice A l c] 29)).alloc (.cells #[] 5) := ⟨_, rfl⟩
  have HN0 : Hid (New w W0) := Lib.hid (by rw [hW0]; exact ((New.refl w).alloc _).alloc _)
  have HB0 : Hid (Box W0 w.heap.size #[.slice A l c] 29) := Lib.hid (by rw [hW0]; exact (Box.last w _ _).alloc _)
  have HO0 : Hid (OwnE encB 5 w.heap.size W0 (.slice (some ⟨w.heap.size + 1, 0, none⟩) 0 0) []) := Lib.hid (by
    rw [hW0]
    exact OwnE.of_box (xs := []) (Box.last2 w _ #[] 5) (by omega) (by decide))
  rw [← hW0]
  clear hW0
  go_loopw [3, 4] (fun v3 v4 w' => ∃ (k : Nat) (ds : List Nat) (A3 : Option Addr) (m3 c3 : Nat), v3 = .slice A3 m3 c3 ∧ v4 = .int .i64 (k : Int) ∧ k ≤ l ∧ m3 ≤ 9000000 ∧ Hid (m3 = ds.length) ∧ Hid (dg 10 n = ds ++ dg 10 (n / B9 ^ k)) ∧ Hid (OwnE encB 5 w.heap.size w' (.slice A3 m3 c3) (ds.map dgt)) ∧ Hid (Box w' w.heap.size #[.slice A l c] 29) ∧ Hid (New w w')) (fun _ v4 _ => l - (intOf v4).toNat)
  case atStart => exact ⟨0, [], _, 0, _, rfl, rfl, by omega, by omega, rfl, (by simp : dg 10 n = [] ++ dg 10 (n / B9 ^ 0)), HO0.out, HB0.out, HN0.out⟩
  case round =>
    obtain ⟨k, ds, A3, m3, c3, rfl, rfl, hk, hm3, HM, HI, HO, HB, HN⟩ := hrel
    have c0 := HB.out.cell 0
    simp only [List.getElem?_toArray, List.getElem?_cons_zero] at c0
    by_cases hkl : k < l
    · obtain ⟨A', c', e, hc', hmx, hr⟩ := HX.out.new HN.out
      injection e with e1 e2 e3
      subst e1; subst e3
      clear e2
      have hkl2 : k < (dg B9 n).length := by have := HL.out; omega
      obtain ⟨b, o, C, fr, hA, hbl, hcell⟩ := hr k hkl2
      rw [hA] at c0
      clear hA
      have hd9 := HLT.out _ (getD_mem (d := 0) hkl2)
      have HR := Lib.hid (RT.start HI.out)
      have HHI : Hid (k + 1 < l ↔ 0 < n / B9 ^ (k + 1)) := Lib.hid (HAB.out (k + 1))
      have HHD := HR
      generalize (dg B9 n).getD k 0 = d at *
      generalize hM : n / B9 ^ (k + 1) = M at *
      rw [B9_eq] at hd9
      clear hr hc' hmx hbl HHD
      have hcc := hcell
      go_wp2
      go_loopw [3, 5, 6] (fun v3 v5 v6 w' => ∃ (q j e : Nat) (es : List Nat) (A3 : Option Addr) (m3 c3 : Nat), v3 = .slice A3 m3 c3 ∧ v5 = .int .i64 (q : Int) ∧ v6 = .int .i64 (j : Int) ∧ j + e = 9 ∧ q ≤ 1000000000 ∧ m3 ≤ 9000000 ∧ Hid (m3 = es.length) ∧ Hid (RT n q e M es) ∧ Hid (OwnE encB 5 w.heap.size w' (.slice A3 m3 c3) (es.map dgt)) ∧ Hid (Box w' w.heap.size #[.slice A l c] 29) ∧ Hid (New w w')) (fun _ _ v6 _ => 9 - (intOf v6).toNat)
      case atStart => exact ⟨d, 0, 9, ds, A3, m3, c3, rfl, rfl, rfl, by omega, by omega, hm3, HM.out, HR.out, HO.out, HB.out, HN.out⟩
      case round =>
        obtain ⟨q, j, e, es, A4, m4, c4, rfl, rfl, rfl, hje, hq, hm4, HM4, HR4, HO4, HB4, HN4⟩ := hrel
        have c1 := HB4.out.cell 0
        simp only [List.getElem?_toArray, List.getElem?_cons_zero] at c1
        by_cases hc : j < 9 ∧ (0 < q ∨ k + 1 < l)
        · obtain ⟨hj9, hor⟩ := hc
          obtain ⟨e', rfl⟩ : ∃ e', e = e' + 1 := ⟨e - 1, by omega⟩
          have hst := HR4.out.step (hor.imp id HHI.out.1)
          have hln := hst.len
          have HST := Lib.hid hst
          have hm4b : m4 + 1 ≤ 9000000 := by
            have h1 := HTL.out
            have h2 := HM4.out
            simp at hln; omega
          have e1 : (q : Int).tmod 10 = ((q % 10 : Nat) : Int) := by rw [Int.tmod_eq_emod_of_nonneg (by omega)]; omega
          have e2 : (q : Int).tdiv 10 = ((q / 10 : Nat) : Int) := by rw [Int.tdiv_eq_ediv_of_nonneg (by omega)]; omega
          have e3 : (q : Int) % 10 = ((q % 10 : Nat) : Int) := by omega
          have e4 : (q : Int) / 10 = ((q / 10 : Nat) : Int) := by omega
          have hq2 : q / 10 ≤ 1000000000 := by omega
          have hr10 : q % 10 < 10 := Nat.mod_lt _ (by omega)
          have hdg := dgt_nat hr10
          generalize q / 10 = qq at *
          generalize hrr : q % 10 = rr at *
          have hw8 : IntKind.u8.wrap (48 + (rr : Int)) = ((dgt rr).toNat : Int) := by rw [hdg, IntWalk.u8_in _ (by omega)]; omega
          have HCX := Lib.hid ((Box.last wr #[encB (dgt rr)] 5).cell 0)
          have HOWN := Lib.hid (HO4.out.new ((New.refl wr).alloc (.cells #[encB (dgt rr)] 5)))
          have HNN := Lib.hid (HN4.out.alloc (.cells #[encB (dgt rr)] 5))
          have HM5 : Hid (m4 = (es.map dgt).length) := Lib.hid (by rw [List.length_map]; exact HM4.out)
          clear hst hln hdg hrr
          have hcase : (0 < q ∨ (¬ 0 < q ∧ k + 1 < l)) := by omega
          rcases hcase with hq0 | ⟨hq0, hk1⟩
          all_goals
            go_wp2_with (at_builtin; refine app_own2 encB w _ rfl _ _ 111 5 rfl (.int .u8 0) 1 (by kernel_rfl) info_u8 rfl (by decide) _ (es.map dgt) rfl HNN.out HOWN.out _ _ _ (dgt rr) rfl HCX.out rfl (by rw [← HM5.out]; omega) ?_)
            intro A5 c5 w3 hown3 hn3 hkept hsz3
            rw [← HM4.out] at hown3 ⊢
            have HB5 := Lib.hid (hkept _ _ _ _ _ (HB4.out.alloc (.cells #[encB (dgt rr)] 5)) (by decide))
            have HO5 := Lib.hid hown3
            have HN5 := Lib.hid hn3
            clear hown3 hn3 hkept hsz3 HCX HOWN HNN
            go_wp2
            go_roundw
            case rel => exact ⟨qq, j + 1, e', es ++ [rr], A5, m4 + 1, c5, rfl, by go_num, by go_num, by omega, hq2, by omega, (by simp [HM4.out] : m4 + 1 = (es ++ [rr]).length), HST.out, (by rw [List.map_append]; exact HO5.out : OwnE encB 5 w.heap.size _ _ ((es ++ [rr]).map dgt)), HB5.out, HN5.out⟩
            case measure => simp [intOf]; omega
        · have hdn := HR4.out.done (by
            by_cases hj9 : j < 9
            · have h2 : ¬ (0 < q ∨ k + 1 < l) := fun h => hc ⟨hj9, h⟩
              have := HHI.out
              refine Or.inr ⟨by omega, ?_⟩
              rcases Nat.eq_zero_or_pos M with h | h
              · exact h
              · exact absurd (this.2 h) (by omega)
            · exact Or.inl (by omega))
          have HDN := Lib.hid hdn
          clear hdn
          by_cases hj9 : j < 9
          · have h2 : ¬ (0 < q ∨ k + 1 < l) := fun h => hc ⟨hj9, h⟩
            have hq0 : ¬ 0 < q := by omega
            have hk1 : ¬ k + 1 < l := by omega
            go_wp2
            go_roundw
            case rel => exact ⟨k + 1, es, A4, m4, c4, rfl, by go_num, by omega, hm4, HM4.out, (by rw [hM]; exact HDN.out : dg 10 n = es ++ dg 10 (n / B9 ^ (k + 1))), HO4.out, HB4.out, HN4.out⟩
            case measure => simp [intOf]; omega
          · go_wp2
            go_roundw
            case rel => exact ⟨k + 1, es, A4, m4, c4, rfl, by go_num, by omega, hm4, HM4.out, (by rw [hM]; exact HDN.out : dg 10 n = es ++ dg 10 (n / B9 ^ (k + 1))), HO4.out, HB4.out, HN4.out⟩
            case measure => simp [intOf]; omega
    · obtain rfl : k = l := by omega
      have hds : dg 10 n = ds := by
        have h1 := HI.out
        have h2 : ¬ 0 < n / B9 ^ k := fun h => absurd ((HAB.out k).2 h) (by omega)
        rw [h1, Nat.eq_zero_of_not_pos h2, dg_zero, List.append_nil]
      have HDS : Hid (decDigits n = (ds.reverse).map dgt) := Lib.hid (by rw [HD.out, hds])
      have HM5 : Hid (m3 = (ds.map dgt).length) := Lib.hid (by rw [List.length_map]; exact HM.out)
      have hb0 := Box.last wr #[] 5
      clear HX HD HTL HAB HLT HI
      go_wp2
      clear HB0 HO0 HN0 W0
      rename World => wo
      obtain ⟨W1, hW1⟩ : ∃ X, X = wo.alloc (.cells #[] 5) := ⟨_, rfl⟩
      have HN1 : Hid (New wo W1) := Lib.hid (by rw [hW1]; exact (New.refl wo).alloc _)
      have HO1 : Hid (OwnE encB 5 wo.heap.size W1 (.slice (some ⟨wo.heap.size, 0, none⟩) 0 0) []) := Lib.hid (by rw [hW1]; exact OwnE.of_box (xs := []) hb0 (by omega) (by decide))
      rw [← hW1]
      clear hW1 hb0
      go_loopw [7, 8] (fun v7 v8 w' => ∃ (i j : Nat) (z : Int) (A7 : Option Addr) (c7 : Nat), v7 = .slice A7 j c7 ∧ v8 = .int .i64 z ∧ z + 1 = (i : Int) ∧ i + j = m3 ∧ Hid (OwnE encB 5 wo.heap.size w' (.slice A7 j c7) ((ds.map dgt).reverse.take j)) ∧ Hid (New wo w')) (fun _ v8 _ => (intOf v8 + 1).toNat)
      case atStart => exact ⟨m3, 0, (m3 : Int) - 1, _, _, rfl, rfl, by omega, by omega, HO1.out, HN1.out⟩
      case round =>
        obtain ⟨i, j, z, A7, c7, rfl, rfl, hz, hij, HO7, HN7⟩ := hrel
        by_cases hi : 0 < i
        · obtain ⟨i', rfl⟩ : ∃ i', i = i' + 1 := ⟨i - 1, by omega⟩
          obtain rfl : z = (i' : Int) := by omega
          have hlm : i' < (ds.map dgt).length := by have := HM5.out; omega
          have hne : ds.map dgt ≠ [] := fun h => by rw [h] at hlm; cases hlm
          obtain ⟨g, k', e, h1, h2, hBg, ⟨cur, hcur⟩, hcells⟩ := (HO.out.new HN7.out).at hne
          have hA3 : A3 = some ⟨g, 0, none⟩ := by injection e
          have hck : m3 ≤ c3 := by injection e with _ _ e3; rw [e3, HM5.out]; exact h1
          have hcell := hcells i' hlm
          have HT : Hid ((ds.map dgt).reverse.take (j + 1) = (ds.map dgt).reverse.take j ++ [(ds.map dgt)[i']]) := Lib.hid (by
            rw [List.take_succ_eq_append_getElem (by simp; have := HM5.out; simp at this; omega)]
            congr 2
            rw [List.getElem_reverse]
            congr 1
            have := HM5.out
            omega)
          generalize (ds.map dgt)[i'] = y at *
          subst hA3
          clear hcells e h1 h2 hcur hne
          have HLJ : Hid (((ds.map dgt).reverse.take j).length = j) := Lib.hid (by have := HM5.out; simp at this; simp; omega)
          generalize (ds.map dgt).reverse.take j = rs at *
          have HCX := Lib.hid ((Box.last wr #[encB y] 5).cell 0)
          have HOWN := Lib.hid (HO7.out.new ((New.refl wr).alloc (.cells #[encB y] 5)))
          have HNN := Lib.hid (HN7.out.alloc (.cells #[encB y] 5))
          go_wp2_with (at_builtin; refine app_own2 encB wo _ rfl _ _ 111 5 rfl (.int .u8 0) 1 (by kernel_rfl) info_u8 rfl (by decide) _ rs rfl HNN.out HOWN.out _ _ _ y rfl HCX.out rfl (by rw [HLJ.out]; omega) ?_)
          intro A5 c5 w3 hown3 hn3 hkept hsz3
          rw [HLJ.out] at hown3 ⊢
          have HO5 := Lib.hid hown3
          have HN5 := Lib.hid hn3
          clear hown3 hn3 hkept hsz3 HCX HOWN HNN
          go_wp2
          go_roundw
          case rel => exact ⟨i', j + 1, (i' : Int) - 1, A5, c5, rfl, by go_num, by omega, by omega, (by rw [HT.out]; exact HO5.out), HN5.out⟩
          case measure => simp [intOf]
        · obtain rfl : i = 0 := by omega
          obtain rfl : j = m3 := by omega
          obtain rfl : z = -1 := by omega
          have hcv : (convert 111 9 (.slice A7 j c7)).run Tryz.prog wr = .ok (.string ⟨((ds.map dgt).reverse.take j).toArray⟩) wr := own_str0 rfl rfl rfl HO7.out
          rw [List.take_of_length_le (by rw [List.length_reverse]; have := HM5.out; omega), ← List.map_reverse, ← HDS.out] at hcv
          have HN8 := Lib.hid (HN.out.trans HN7.out)
          go_wp2
          go_ret
          exact ⟨rfl, HN8.out⟩
end Go.Proofs.YtkjlmibleoecgaaGreatDoor
