/- The reference of nat, part 12: small2. -/
import Derived.Test.YtkjlmibleoecgaaGreatDoorRef11
import Derived.Laws.AppendOwnNone
namespace Go.Proofs.YtkjlmibleoecgaaGreatDoor
set_option linter.unusedSimpArgs false
set_option linter.unusedVariables false
open Go.RowKit
theorem run_app_none {P : Program} {w : World} (base : Nat) (t ty e : TypeId) (i : TypeInfo) (size c : Nat) (ht : P.underlying t = some (.slice e)) (hi : P.info? e = some i)
    (v : Value) (n : Nat) (xs : List Value) (hown : w.ownsRow base e size v n xs) :
    (Builtin.append_ #[t, t] ty #[v, .slice none 0 c]).run P w = .ok v w := by
  rcases hown.2 with ⟨rfl, rfl⟩ | ⟨g, cap, cur, rfl, _, _, hnc, _⟩
  · simp [Builtin.append_, run_underlying ht, sizeOf, typeInfo, hi, Builtin.lenOf, Builtin.firstCells]
  · simp [Builtin.append_, run_underlying ht, sizeOf, typeInfo, hi, Builtin.lenOf, Builtin.firstCells, hnc, storeCells]
theorem app_none {P : Program} {w : World} {ops : Array Oper} {rest : List Oper} {o : Oper} {a : Act} {Q : Exit → Act → World → Prop} (hgd : o.guard = none) (s x : Operand) (t : TypeId)
    (ho : o.op = .call { callee := .builtin .append, args := #[s, x], argTypes := #[t, t] })
    (base : Nat) (e : TypeId) (i : TypeInfo) (size c : Nat) (ht : P.underlying t = some (.slice e)) (hi : P.info? e = some i)
    (v : Value) (n : Nat) (xs : List Value) (hs : a.eval s = v) (hown : w.ownsRow base e size v n xs) (hx : a.eval x = .slice none 0 c)
    (h : wpList P ops Q rest (a.put o.dst v) w) : wpList P ops Q (o :: rest) a w := by
  refine wpList_plain hgd fun K hK => ?_
  have hrun := run_app_none (P := P) (w := w) base t o.type e i size c ht hi v n xs hown
  unfold Oper.wp
  simp [execOp, ho, resolve, invoke, builtin, hs, hx, hrun, Result.andThen]
  exact hK _ _ h
theorem app_many {P : Program} {α : Type} (enc : α → Value) (w0 w : World) {ops : Array Oper} {rest : List Oper} {o : Oper} {a : Act} {Q : Exit → Act → World → Prop} (hgd : o.guard = none) (s x : Operand) (t E : TypeId)
    (ho : o.op = .call { callee := .builtin .append, args := #[s, x], argTypes := #[t, t] })
    (z : Value) (bytes : Nat) (ht : P.underlying t = some (.slice E)) (hi : (P.info? E).map (fun i => (i.zero, i.size, i.bytes)) = some (some z, 1, bytes)) (hzs : z.cells.size = 1) (hby : bytes ≤ 16)
    (v : Value) (xs : List α) (hs : a.eval s = v) (hn : New w0 w) (hown : OwnE enc E w0.heap.size w v xs)
    (ad : Addr) (m c : Nat) (ys : List α) (hm : ys.length = m) (hx : a.eval x = .slice (some ad) m c) (hy : ∀ j u, (ys.map enc)[j]? = some u → w.cell? (ad.add j) = some u) (h1 : ∀ y : α, (enc y).oneCell' = true) (hl : xs.length + m ≤ 1099511627776)
    (h : ∀ A c' w', OwnE enc E w0.heap.size w' (.slice A (xs.length + m) c') (xs ++ ys) → New w0 w' → (∀ (p : Nat) (C : Array Value) (T : TypeId) (fr : Nat × Nat), w.heap[p]? = some (Obj.cells C T fr) → T ≠ E → w'.heap[p]? = some (Obj.cells C T fr)) → wpList P ops Q rest (a.put o.dst (.slice A (xs.length + m) c')) w') : wpList P ops Q (o :: rest) a w := by
  subst hm
  obtain ⟨i0, hi, hz0, hz1, hz2⟩ := info_parts hi
  refine wpList_append_own w hgd s x t ho w0.heap.size E i0 z 1 bytes ht hi hz0 hz1 hz2 hzs (by decide) v xs.length (xs.map enc) hs hown ad ys.length c (ys.map enc) hx (by simp) hy ?_ (by unfold maxLen; omega) ?_ hn.le ?_
  · intro u hu
    obtain ⟨y, _, rfl⟩ := List.mem_map.1 hu
    exact h1 y
  · have : (xs.length + ys.length) * bytes ≤ (xs.length + ys.length) * 16 := Nat.mul_le_mul_left _ hby
    omega
  · intro v' w' ho hg _
    have hown' : OwnE enc E w0.heap.size w' v' (xs ++ ys) := by unfold OwnE; rw [List.map_append, List.length_append]; exact ho
    obtain ⟨A, c', rfl⟩ := hown'.form
    rw [List.length_append] at *
    refine h A c' w' hown' (Below.grown hn hg hn.le fun k hk => ?_) (fun p C T fr hp hT => ?_)
    · rcases hown.2 with ⟨rfl, _⟩ | ⟨g, cap, cur, rfl, h1, _⟩
      · simp [Value.ownBlock] at hk
      · simp [Value.ownBlock] at hk; omega
    · rw [hg.block p (lt_of_block hp) ?_]
      · exact hp
      · intro hk
        rcases hown.2 with ⟨rfl, _⟩ | ⟨g, cap, cur, rfl, h1, h2, _⟩
        · simp [Value.ownBlock] at hk
        · simp [Value.ownBlock] at hk
          subst hk
          rw [hp] at h2
          injection h2 with h2; injection h2 with _ h2 _
          exact hT h2
set_option maxHeartbeats 800000 in
theorem rtrim_a {xs : List Nat} {A : Option Addr} {l c : Nat} {w : World} (h : Sl 3 .i64 w (.slice A l c) xs) :
    Calls Tryz.prog 80 #[.slice A l c] w fun e w' => ∃ m, e = .returned (.agg #[.slice A m c]) ∧ Sl 3 .i64 w' (.slice A m c) (trim xs) ∧ New w w' := by
  obtain ⟨A1, c1, e1, hc, hm, hr⟩ := h
  obtain ⟨rfl, rfl, rfl⟩ : A1 = A ∧ l = xs.length ∧ c1 = c := by injection e1 with a b c; exact ⟨a.symm, b, c.symm⟩
  clear e1
  have hm0 := hm
  unfold maxLen at hm
  have hfin : ∀ w', New w w' → Sl 3 .i64 w' (.slice A1 (trim xs).length c1) (trim xs) := fun w' hb => by
    have hl := trim_le xs
    refine Sl.new ⟨A1, c1, rfl, by omega, hm0, fun i hi => ?_⟩ hb
    obtain ⟨b, o, C, fr, e, h1, h2⟩ := hr i (by omega)
    refine ⟨b, o, C, fr, e, h1, ?_⟩
    have e1 : (trim xs).getD i 0 = (xs.take (trim xs).length).getD i 0 := congrArg (fun l : List Nat => l.getD i 0) (trim_prefix xs)
    rw [e1, getD_take _ _ _ _ hi]; exact h2
  have HF := Lib.hid hfin
  clear hfin hm0
  go_enter Tryz.func80, Tryz.ntmps80
  go_wp2
  go_loopw [0] (fun v w' => ∃ m : Nat, v = .slice A1 m c1 ∧ m ≤ xs.length ∧ (trim (xs.take m) = trim xs) ∧ ∃ n, w' = (w.alloc (.cells #[.slice none 0 0] 29)).drewN n) (fun v _ => match v with | .slice _ m _ => m | _ => 0)
  case atStart => exact ⟨xs.length, rfl, Nat.le_refl _, by simp, 0, rfl⟩
  case round =>
    obtain ⟨m, rfl, hm1, ht, n, rfl⟩ := hrel
    have HT := Lib.hid ht
    clear ht
    by_cases h0 : 0 < m
    · obtain ⟨b, o, C, fr, rfl, hbl, hcell⟩ := hr (m - 1) (by omega)
      have hb := lt_of_block hbl
      clear hbl
      clear hr
      by_cases hz : xs.getD (m - 1) 0 = 0
      · have hcell' : w.cell? ⟨b, o + (m - 1), none⟩ = some (.int .i64 0) := by rw [hcell, hz]; rfl
        have HZ := Lib.hid hz
        clear hcell hz
        go_wp2
        go_roundw
        case rel => exact ⟨m - 1, rfl, by omega, by rw [trim_take_pred h0 hm1 HZ.out]; exact HT.out, _, rfl⟩
        case measure => simp; omega
      · have hz' : (((xs.getD (m - 1) 0 : Nat) : Int) == 0) = false := by rw [beq_eq_false_iff_ne]; omega
        have ht2 : trim xs = xs.take m := by rw [← HT.out, trim_take_id h0 hm1 hz]
        have hlen : (trim xs).length = m := by rw [ht2, List.length_take]; omega
        have hf : ∀ w', New w w' → Sl 3 .i64 w' (.slice (some ⟨b, o, none⟩) m c1) (trim xs) := by
          have := HF.out; rw [hlen] at this; exact this
        have HL := Lib.hid hf
        clear hlen ht2 hf
        generalize hd : xs.getD (m - 1) 0 = d at hz hz' hcell
        have HD := Lib.hid hd
        clear hd hz
        go_wp2
        refine bodyPost_ret (v := .agg #[.slice (some ⟨b, o, none⟩) m c1]) (by simp [results, Tryz.results80, go_sem]) rfl ⟨_, rfl, ?_, ?_⟩
        · exact HL.out _ ((((New.refl w).alloc _).drewN _).setCell (Nat.le_refl _) _)
        · exact (((New.refl w).alloc _).drewN _).setCell (Nat.le_refl _) _
    · obtain rfl : m = 0 := by omega
      have hlen : (trim xs).length = 0 := by rw [← HT.out]; rfl
      have hf : ∀ w', New w w' → Sl 3 .i64 w' (.slice A1 0 c1) (trim xs) := by
        have := HF.out; rw [hlen] at this; exact this
      have HL := Lib.hid hf
      clear hr hlen hf
      go_wp2
      refine bodyPost_ret (v := .agg #[.slice A1 0 c1]) (by simp [results, Tryz.results80, go_sem]) rfl ⟨_, rfl, ?_, ?_⟩
      · exact HL.out _ ((((New.refl w).alloc _).drewN _).setCell (Nat.le_refl _) _)
      · exact (((New.refl w).alloc _).drewN _).setCell (Nat.le_refl _) _
/-- A row of one's own is new. -/
theorem OwnE.fresh {α : Type} {enc : α → Value} {E : TypeId} {B : Nat} {w : World} {A : Option Addr} {l c : Nat} {xs : List α} (h : OwnE enc E B w (.slice A l c) xs) : ∀ ad, A = some ad → B ≤ ad.block := by
  intro ad e
  rcases h.2 with ⟨h1, _⟩ | ⟨g, cap, cur, h1, h2, _⟩
  · injection h1 with h1; rw [h1] at e; cases e
  · injection h1 with h1; rw [h1] at e; obtain rfl := Option.some.inj e; exact h2
theorem Sl.far {E : TypeId} {k : IntKind} {w : World} {A : Option Addr} {l c q i : Nat} {xs : List Nat} (h : Sl E k w (.slice A l c) xs) (hne : ∀ ad, A = some ad → ad.block ≠ q) (u : Value) : Sl E k (w.setCell ⟨q, i, none⟩ u) (.slice A l c) xs := by
  obtain ⟨A1, c1, e, h1, h2, h3⟩ := h
  refine ⟨A1, c1, e, h1, h2, fun j hj => ?_⟩
  obtain ⟨b, o, C, fr, e2, hl, hc⟩ := h3 j hj
  have hb : b ≠ q := hne ⟨b, o, none⟩ (by injection e with e; rw [e, e2])
  refine ⟨b, o, C, fr, e2, by rw [Below.heap_setCell w _ u b hb]; exact hl, ?_⟩
  rw [← hc]
  exact World.cell?_of_block (Below.heap_setCell w _ u b hb)
theorem RefV.far {w : World} {A : Option Addr} {l c q i n : Nat} (h : RefV w (.agg #[.slice A l c]) n) (hne : ∀ ad, A = some ad → ad.block ≠ q) (u : Value) : RefV (w.setCell ⟨q, i, none⟩ u) (.agg #[.slice A l c]) n := ⟨_, rfl, h.sl.far hne u⟩
set_option maxHeartbeats 2000000 in
theorem rsmall2_c {x n : Nat} {u : Value} {w : World} (hx : RefV w u x) (hn : n < B9) (hl : (dg B9 x).length ≤ 1000000) :
    Calls Tryz.prog 76 #[u, .int .i64 (n : Int)] w fun e w' => ∃ A l c, e = .returned (.agg #[.slice A l c]) ∧ RefV w' (.agg #[.slice A l c]) (x * B9 + n) ∧ New w w' ∧ ∀ ad, A = some ad → w.heap.size ≤ ad.block := by
  have hxl := dg_lt B9_2 x
  have hxv := dg_val B9_2 x
  obtain ⟨_, rfl, A, c, rfl, hc, hm, hr⟩ := hx
  generalize dg B9 x = xs at *
  have hn9 : n < 1000000000 := by rw [B9_eq] at hn; exact hn
  have HF : Hid ((∀ d ∈ n :: xs, d < B9) ∧ val B9 (n :: xs) = x * B9 + n) := Lib.hid ⟨fun d hd => by
    rcases List.mem_cons.1 hd with rfl | hd
    · exact hn
    · exact hxl d hd, by rw [val, hxv, Nat.mul_comm]; omega⟩
  obtain ⟨i0, hi, hz0⟩ := Option.map_eq_some_iff.1 info_int
  simp only [Prod.mk.injEq] at hz0
  obtain ⟨hz0, hz1, hz2⟩ := hz0
  have HB1 := Lib.hid ((Box.last2 w (.cells #[.slice A xs.length c] RNat) #[.slice none 0 0] RNat).alloc (.cells #[encI n] 3))
  have HNW := Lib.hid ((((New.refl w).alloc (.cells #[.slice A xs.length c] RNat)).alloc (.cells #[.slice none 0 0] RNat)).alloc (.cells #[encI n] 3))
  have HOW : Hid (OwnE encI 3 w.heap.size (((w.alloc (.cells #[.slice A xs.length c] RNat)).alloc (.cells #[.slice none 0 0] RNat)).alloc (.cells #[encI n] 3)) (.slice (some ⟨w.heap.size + 1 + 1, 0, none⟩) 1 1) [n]) := Lib.hid (by
    have := Box.last ((w.alloc (.cells #[.slice A xs.length c] RNat)).alloc (.cells #[.slice none 0 0] RNat)) #[encI n] 3
    rw [World.size_alloc, World.size_alloc] at this
    exact OwnE.of_box (xs := [n]) this (by omega) (by show 1 ≤ 2 ^ 63 - 1; decide))
  clear hxl hxv hn
  cases A with
  | none =>
    have h0 : xs = [] := by
      cases xs with
      | nil => rfl
      | cons a r => obtain ⟨_, _, _, _, h, _⟩ := hr 0 (by simp); cases h
    subst h0
    clear hr hm hc hl
    go_enter Tryz.func76, Tryz.ntmps76
    go_wp2_with (at_builtin; refine app_none rfl _ _ 27 rfl w.heap.size 3 i0 1 c Tryz.underlying27 hi _ _ _ rfl HOW.out rfl ?_)
    have HT := Lib.hid (rtrim_a HOW.out.sl)
    have HFR := Lib.hid HOW.out.fresh
    have HB := Lib.hid HB1.out
    have HN4 := Lib.hid HNW.out
    clear HOW HB1 HNW
    go_wp2_with fail
    refine HT.out.mono ?_
    rintro e w4 ⟨l7, rfl, hv4, hn4⟩
    have hv := RefV.of_sl hv4 HF.out.1
    rw [HF.out.2] at hv
    have hb : Box w4 (w.heap.size + 1) #[.slice none 0 0] RNat := hn4.block HB.out
    have hc := hb.cell 0
    have hf := hb.frozen 0
    have HV := Lib.hid (hv.set hb (by decide) (i := 0) (.slice (some ⟨w.heap.size + 1 + 1, 0, none⟩) l7 1))
    have HZ := Lib.hid (hb.set 0 (.slice (some ⟨w.heap.size + 1 + 1, 0, none⟩) l7 1) |>.cell 0)
    have HNZ := Lib.hid ((HN4.out.trans hn4).setCell (p := ⟨w.heap.size + 1, 0, none⟩) (by show _ ≤ w.heap.size + 1; omega) (.slice (some ⟨w.heap.size + 1 + 1, 0, none⟩) l7 1))
    clear hv hv4 hn4 hb
    go_wp2
    have hz := HZ.out
    refine bodyPost_ret (v := .agg #[.slice (some ⟨w.heap.size + 1 + 1, 0, none⟩) l7 1]) (by simp [results, Tryz.results76, go_sem, hz]) rfl ⟨_, _, _, rfl, HV.out, HNZ.out, HFR.out⟩
  | some ad =>
    have hnews : ∀ o1 o2 o3 (j : Nat) (u : Value), (xs.map encI)[j]? = some u → (((w.alloc o1).alloc o2).alloc o3).cell? (ad.add j) = some u := fun o1 o2 o3 j u hj => by
      by_cases hlt : j < xs.length
      · obtain ⟨b, o, C, fr, e, hb, hcell⟩ := hr j hlt
        obtain rfl : ad = ⟨b, o, none⟩ := Option.some.inj e
        rw [List.getElem?_map, List.getElem?_eq_getElem hlt, Option.map_some, Option.some.injEq] at hj
        rw [getD_lt hlt] at hcell
        have := ((((New.refl w).alloc o1).alloc o2).alloc o3).still hcell
        subst hj
        rcases Nat.eq_zero_or_pos j with rfl | hj0
        · exact this
        · simpa [Addr.add, Nat.ne_of_gt hj0] using this
      · rw [List.getElem?_eq_none (by simpa using hlt)] at hj; cases hj
    generalize hN : xs.length = m at *
    have HXL := Lib.hid hN
    have HNS := Lib.hid hnews
    clear hr hN hnews hm
    go_enter Tryz.func76, Tryz.ntmps76
    go_wp2_with (at_builtin; refine app_many encI w _ rfl _ _ 27 3 rfl (.int .i64 0) 8 (by kernel_rfl) info_int rfl (by decide) _ [n] rfl HNW.out HOW.out ad m c xs HXL.out rfl (HNS.out _ _ _) (fun _ => rfl) (by show 1 + m ≤ _; omega) ?_)
    intro A6 c6 w3 hown3 hn3 hkept
    have HB := Lib.hid (hkept _ _ _ _ _ HB1.out (by decide))
    have HN4 := Lib.hid hn3
    have HT := Lib.hid (rtrim_a hown3.sl)
    have HFR := Lib.hid hown3.fresh
    clear hown3 hn3 hkept HOW HB1 HNW HNS
    go_wp2_with fail
    refine HT.out.mono ?_
    rintro e w4 ⟨l7, rfl, hv4, hn4⟩
    have hv := RefV.of_sl hv4 HF.out.1
    rw [HF.out.2] at hv
    have hb : Box w4 (w.heap.size + 1) #[.slice none 0 0] RNat := hn4.block HB.out
    have hc := hb.cell 0
    have hf := hb.frozen 0
    have HV := Lib.hid (hv.set hb (by decide) (i := 0) (.slice A6 l7 c6))
    have HZ := Lib.hid (hb.set 0 (.slice A6 l7 c6) |>.cell 0)
    have HNZ := Lib.hid ((HN4.out.trans hn4).setCell (p := ⟨w.heap.size + 1, 0, none⟩) (by show _ ≤ w.heap.size + 1; omega) (.slice A6 l7 c6))
    clear hv hv4 hn4 hb
    go_wp2
    have hz := HZ.out
    refine bodyPost_ret (v := .agg #[.slice A6 l7 c6]) (by simp [results, Tryz.results76, go_sem, hz]) rfl ⟨_, _, _, rfl, HV.out, HNZ.out, HFR.out⟩
end Go.Proofs.YtkjlmibleoecgaaGreatDoor
