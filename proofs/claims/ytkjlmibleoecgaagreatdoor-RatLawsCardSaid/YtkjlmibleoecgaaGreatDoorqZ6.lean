/- The reference of num: Make, Parse. (Printed by mkz6.py.) -/
import Derived.Test.YtkjlmibleoecgaaGreatDoorM2
import Derived.Test.YtkjlmibleoecgaaGreatDoorqRef2
namespace Go.Proofs.YtkjlmibleoecgaaGreatDoor
set_option linter.unusedSimpArgs false
set_option linter.unusedVariables false
open Go.RowKit
abbrev RNum : TypeId := 47
abbrev RNt : TypeId := 29
/-- v is the reference's whole number z. -/
def RNumV (w : World) (v : Value) (z : Int) : Prop := ∃ A l c, v = .agg #[.bool (decide (z < 0)), .slice A l c] ∧ RefV w (.agg #[.slice A l c]) z.natAbs
theorem RNumV.form {w : World} {v : Value} {z : Int} (h : RNumV w v z) : ∃ b A l c, v = .agg #[.bool b, .slice A l c] := by
  obtain ⟨A, l, c, rfl, _⟩ := h; exact ⟨_, A, l, c, rfl⟩
theorem RefV.len {w : World} {A : Option Addr} {l c n : Nat} (h : RefV w (.agg #[.slice A l c]) n) : l = (dg B9 n).length := by
  obtain ⟨_, e, A', c', rfl, _⟩ := h
  simp only [Value.agg.injEq, Array.mk.injEq, List.cons.injEq, and_true] at e
  injection e
theorem RNumV.new {w w' : World} {v : Value} {z : Int} (h : RNumV w v z) (hn : New w w') : RNumV w' v z := by
  obtain ⟨A, l, c, rfl, h1⟩ := h; exact ⟨A, l, c, rfl, h1.new hn⟩
theorem RNumV.lay2 {w : World} {v : Value} {z : Int} (h : RNumV w v z) {p : Nat} {a b : Value} (hp : Box w p #[a, b] RNum) (x y : Value) : RNumV ((w.setCell ⟨p, 0, none⟩ x).setCell ⟨p, 1, none⟩ y) v z := by
  obtain ⟨A, l, c, rfl, h1⟩ := h
  exact ⟨A, l, c, rfl, (h1.set hp (by decide) (i := 0) x).set (hp.set 0 x) (by decide) (i := 1) y⟩
theorem RNumV.mk' {w : World} {A : Option Addr} {l c x : Nat} (b : Bool) (h : RefV w (.agg #[.slice A l c]) x) : RNumV w (.agg #[.bool (b && decide (0 < x)), .slice A l c]) (sgn b x) := ⟨A, l, c, by rw [sgn_neg], by rw [sgn_abs]; exact h⟩
set_option maxHeartbeats 1000000 in
theorem rmake_n {w : World} {u : Value} {x : Nat} (b : Bool) (hu : RefV w u x) :
    Calls Tryz.prog 94 #[.bool b, u] w fun e w' => ∃ v, e = .returned v ∧ RNumV w' v (sgn b x) ∧ New w w' := by
  obtain ⟨A, l, c, rfl⟩ := hu.form
  have hl := hu.len
  have HU := Lib.hid (fun C => hu.new (((New.refl w).alloc (.cells #[.slice A l c] RNt)).alloc (.cells C RNum)))
  have hd : decide (0 < x) = decide (0 < l) := by
    rcases Nat.eq_zero_or_pos x with h | h
    · rw [hl, h, dg_zero]; rfl
    · have h2 : (dg B9 x).length ≠ 0 := fun e => by rw [List.length_eq_zero_iff, dg_nil B9_2] at e; omega
      rw [decide_eq_true h, decide_eq_true (by omega)]
  have HD := Lib.hid hd
  clear hu hl hd
  cases b
  · go_enter Tryz.func94, Tryz.ntmps94
    go_wp2
    exact bodyPost_ret (v := .agg #[.bool false, .slice A l c]) (by simp [results, Tryz.results94, go_sem]) rfl ⟨_, rfl, RNumV.mk' false (HU.out _), ((New.refl w).alloc _).alloc _⟩
  · go_enter Tryz.func94, Tryz.ntmps94
    go_wp2
    exact bodyPost_ret (v := .agg #[.bool (decide (0 < l)), .slice A l c]) (by simp [results, Tryz.results94, go_sem]) rfl ⟨_, rfl, by have := RNumV.mk' true (HU.out #[.bool (decide (0 < l)), .slice A l c]); rw [Bool.true_and, HD.out] at this; exact this, ((New.refl w).alloc _).alloc _⟩
set_option maxRecDepth 100000 in
set_option maxHeartbeats 2000000 in
theorem rparse_at (s ds : ByteArray) (bl : Bool) (w : World) (hs : s.size ≤ 4096) (hds : ds.size ≤ s.size)
    (hg : (bl = true ∧ (∃ h : 0 < s.size, (s[0]'h).toNat = 45) ∧ ds = s.extract 1 s.size) ∨ (bl = false ∧ ds = s ∧ s.size = 0) ∨ (bl = false ∧ ds = s ∧ ∃ h : 0 < s.size, (s[0]'h).toNat ≠ 45)) :
    Calls Tryz.prog 51 #[.string s] w fun e w' => ∃ v, e = .returned (.tuple #[v, .int .i64 (if (isNum ds.data.toList && (!bl || decide (0 < pNum ds.data.toList))) = true then 0 else 10)]) ∧ RNumV w' v (if (isNum ds.data.toList && (!bl || decide (0 < pNum ds.data.toList))) = true then sgn bl (pNum ds.data.toList) else 0) ∧ New w w' := by
  have HB := Lib.hid (Box.last w #[.bool false, .slice none 0 0] RNum)
  have HN := Lib.hid ((New.refl w).alloc (.cells #[.bool false, .slice none 0 0] RNum))
  have hpn := fun W => rparse_c ds W (by omega)
  have hpe : pErr ds.data.toList = if isNum ds.data.toList = true then 0 else 10 := rfl
  rw [hpe] at hpn
  have hz9 : ∀ x, (dg B9 x).length = 0 ↔ x = 0 := fun x => by rw [List.length_eq_zero_iff, dg_nil B9_2]
  have HZ9 := Lib.hid hz9
  cases hi : isNum ds.data.toList
  · rw [hi] at hpn
    simp only [Bool.false_and, Bool.false_eq_true, if_false] at hpn ⊢
    have HPN := Lib.hid hpn
    clear hpn hpe hi hz9
    rcases hg with ⟨rfl, ⟨h0, h1⟩, rfl⟩ | ⟨rfl, rfl, h0⟩ | ⟨rfl, rfl, h0, h1⟩
    · have h2 : (((s[0]'h0).toNat : Int) == 45) = true := by rw [h1]; rfl
      go_enter Tryz.func51, Tryz.ntmps51
      go_wp2_with fail
      refine (HPN.out _).mono ?_
      rintro e w5 ⟨v5, rfl, hv5, hn5⟩
      obtain ⟨A5, l5, c5, rfl⟩ := hv5.form
      have hl5 := hv5.len
      have hn5' := hn5.alloc (.cells #[.slice A5 l5 c5] RNt)
      have HB6 := Lib.hid (HB.out.new hn5')
      have HN6 := Lib.hid (HN.out.trans hn5')
      have HV6 := Lib.hid (hv5.new ((New.refl w5).alloc (.cells #[.slice A5 l5 c5] RNt)))
      have c6 : (w5.alloc (.cells #[.slice A5 l5 c5] RNt)).cell? ⟨w5.heap.size, 0, none⟩ = some (.slice A5 l5 c5) := (Box.last w5 #[.slice A5 l5 c5] RNt).cell 0
      obtain ⟨c4, c5', f4, f5⟩ := HB6.out.two
      have HNW := Lib.hid (New.set2 HN6.out (Nat.le_refl w.heap.size) (.bool false) (.slice none 0 0))
      have g0 := (HB6.out.lay2 (.bool false) (.slice none 0 0)).cell0'
      have g1 := (HB6.out.lay2 (.bool false) (.slice none 0 0)).cell1'
      clear hv5 hn5 hn5' HB HN hl5
      go_wp2
      refine bodyPost_ret (v := .tuple #[.agg #[.bool false, .slice none 0 0], .int .i64 10]) (by simp [results, Tryz.results51, go_sem, g0, g1]) rfl ⟨_, rfl, ⟨none, 0, 0, rfl, RefV.zero _⟩, HNW.out⟩
    · go_enter Tryz.func51, Tryz.ntmps51
      go_wp2_with fail
      refine (HPN.out _).mono ?_
      rintro e w5 ⟨v5, rfl, hv5, hn5⟩
      obtain ⟨A5, l5, c5, rfl⟩ := hv5.form
      have hl5 := hv5.len
      have hn5' := hn5.alloc (.cells #[.slice A5 l5 c5] RNt)
      have HB6 := Lib.hid (HB.out.new hn5')
      have HN6 := Lib.hid (HN.out.trans hn5')
      have HV6 := Lib.hid (hv5.new ((New.refl w5).alloc (.cells #[.slice A5 l5 c5] RNt)))
      have c6 : (w5.alloc (.cells #[.slice A5 l5 c5] RNt)).cell? ⟨w5.heap.size, 0, none⟩ = some (.slice A5 l5 c5) := (Box.last w5 #[.slice A5 l5 c5] RNt).cell 0
      obtain ⟨c4, c5', f4, f5⟩ := HB6.out.two
      have HNW := Lib.hid (New.set2 HN6.out (Nat.le_refl w.heap.size) (.bool false) (.slice none 0 0))
      have g0 := (HB6.out.lay2 (.bool false) (.slice none 0 0)).cell0'
      have g1 := (HB6.out.lay2 (.bool false) (.slice none 0 0)).cell1'
      clear hv5 hn5 hn5' HB HN hl5
      go_wp2
      refine bodyPost_ret (v := .tuple #[.agg #[.bool false, .slice none 0 0], .int .i64 10]) (by simp [results, Tryz.results51, go_sem, g0, g1]) rfl ⟨_, rfl, ⟨none, 0, 0, rfl, RefV.zero _⟩, HNW.out⟩
    · have h2 : (((ds[0]'h0).toNat : Int) == 45) = false := by rw [beq_eq_false_iff_ne]; omega
      go_enter Tryz.func51, Tryz.ntmps51
      go_wp2_with fail
      refine (HPN.out _).mono ?_
      rintro e w5 ⟨v5, rfl, hv5, hn5⟩
      obtain ⟨A5, l5, c5, rfl⟩ := hv5.form
      have hl5 := hv5.len
      have hn5' := hn5.alloc (.cells #[.slice A5 l5 c5] RNt)
      have HB6 := Lib.hid (HB.out.new hn5')
      have HN6 := Lib.hid (HN.out.trans hn5')
      have HV6 := Lib.hid (hv5.new ((New.refl w5).alloc (.cells #[.slice A5 l5 c5] RNt)))
      have c6 : (w5.alloc (.cells #[.slice A5 l5 c5] RNt)).cell? ⟨w5.heap.size, 0, none⟩ = some (.slice A5 l5 c5) := (Box.last w5 #[.slice A5 l5 c5] RNt).cell 0
      obtain ⟨c4, c5', f4, f5⟩ := HB6.out.two
      have HNW := Lib.hid (New.set2 HN6.out (Nat.le_refl w.heap.size) (.bool false) (.slice none 0 0))
      have g0 := (HB6.out.lay2 (.bool false) (.slice none 0 0)).cell0'
      have g1 := (HB6.out.lay2 (.bool false) (.slice none 0 0)).cell1'
      clear hv5 hn5 hn5' HB HN hl5
      go_wp2
      refine bodyPost_ret (v := .tuple #[.agg #[.bool false, .slice none 0 0], .int .i64 10]) (by simp [results, Tryz.results51, go_sem, g0, g1]) rfl ⟨_, rfl, ⟨none, 0, 0, rfl, RefV.zero _⟩, HNW.out⟩
  · rw [hi] at hpn
    simp only [Bool.true_and, if_true] at hpn ⊢
    have HPN := Lib.hid hpn
    generalize hx : pNum ds.data.toList = x at *
    clear hpn hpe hi hz9 hx
    rcases hg with ⟨rfl, ⟨h0, h1⟩, rfl⟩ | ⟨rfl, rfl, h0⟩ | ⟨rfl, rfl, h0, h1⟩
    · have h2 : (((s[0]'h0).toNat : Int) == 45) = true := by rw [h1]; rfl
      by_cases hx0 : x = 0
      · rw [show decide (0 < x) = false from decide_eq_false (by omega)]
        simp only [Bool.not_true, Bool.or_false, Bool.false_eq_true, if_false]
        go_enter Tryz.func51, Tryz.ntmps51
        go_wp2_with fail
        refine (HPN.out _).mono ?_
        rintro e w5 ⟨v5, rfl, hv5, hn5⟩
        obtain ⟨A5, l5, c5, rfl⟩ := hv5.form
        have hl5 := hv5.len
        have hn5' := hn5.alloc (.cells #[.slice A5 l5 c5] RNt)
        have HB6 := Lib.hid (HB.out.new hn5')
        have HN6 := Lib.hid (HN.out.trans hn5')
        have HV6 := Lib.hid (hv5.new ((New.refl w5).alloc (.cells #[.slice A5 l5 c5] RNt)))
        have c6 : (w5.alloc (.cells #[.slice A5 l5 c5] RNt)).cell? ⟨w5.heap.size, 0, none⟩ = some (.slice A5 l5 c5) := (Box.last w5 #[.slice A5 l5 c5] RNt).cell 0
        have hl0 : l5 = 0 := by rw [hl5]; exact (HZ9.out x).2 hx0
        subst hl0
        obtain ⟨c4, c5', f4, f5⟩ := HB6.out.two
        have HNW := Lib.hid (New.set2 HN6.out (Nat.le_refl w.heap.size) (.bool false) (.slice none 0 0))
        have g0 := (HB6.out.lay2 (.bool false) (.slice none 0 0)).cell0'
        have g1 := (HB6.out.lay2 (.bool false) (.slice none 0 0)).cell1'
        clear hv5 hn5 hn5' HB HN hl5
        go_wp2
        refine bodyPost_ret (v := .tuple #[.agg #[.bool false, .slice none 0 0], .int .i64 10]) (by simp [results, Tryz.results51, go_sem, g0, g1]) rfl ⟨_, rfl, ⟨none, 0, 0, rfl, RefV.zero _⟩, HNW.out⟩
      · rw [show decide (0 < x) = true from decide_eq_true (by omega)]
        simp only [Bool.not_true, Bool.false_or, if_true]
        go_enter Tryz.func51, Tryz.ntmps51
        go_wp2_with fail
        refine (HPN.out _).mono ?_
        rintro e w5 ⟨v5, rfl, hv5, hn5⟩
        obtain ⟨A5, l5, c5, rfl⟩ := hv5.form
        have hl5 := hv5.len
        have hn5' := hn5.alloc (.cells #[.slice A5 l5 c5] RNt)
        have HB6 := Lib.hid (HB.out.new hn5')
        have HN6 := Lib.hid (HN.out.trans hn5')
        have HV6 := Lib.hid (hv5.new ((New.refl w5).alloc (.cells #[.slice A5 l5 c5] RNt)))
        have c6 : (w5.alloc (.cells #[.slice A5 l5 c5] RNt)).cell? ⟨w5.heap.size, 0, none⟩ = some (.slice A5 l5 c5) := (Box.last w5 #[.slice A5 l5 c5] RNt).cell 0
        have hl0 : ((l5 : Int) == 0) = false := by
          have : l5 ≠ 0 := by rw [hl5]; exact fun e => hx0 ((HZ9.out x).1 e)
          rw [beq_eq_false_iff_ne]; omega
        clear hv5 hn5 hn5' HB HN hl5
        go_wp2_with fail
        refine (rmake_n true HV6.out).mono ?_
        rintro e w7 ⟨v7, rfl, hv7, hn7⟩
        obtain ⟨b1, A1, l1, c1, rfl⟩ := hv7.form
        have HB7 := Lib.hid (HB6.out.new hn7)
        obtain ⟨c4, c5', f4, f5⟩ := HB7.out.two
        have HV7 := Lib.hid (hv7.lay2 HB7.out (.bool b1) (.slice A1 l1 c1))
        have HNW := Lib.hid (New.set2 (HN6.out.trans hn7) (Nat.le_refl w.heap.size) (.bool b1) (.slice A1 l1 c1))
        have g0 := (HB7.out.lay2 (.bool b1) (.slice A1 l1 c1)).cell0'
        have g1 := (HB7.out.lay2 (.bool b1) (.slice A1 l1 c1)).cell1'
        clear hv7 hn7
        go_wp2
        refine bodyPost_ret (v := .tuple #[.agg #[.bool b1, .slice A1 l1 c1], .int .i64 0]) (by simp [results, Tryz.results51, go_sem, g0, g1]) rfl ⟨_, rfl, HV7.out, HNW.out⟩
    · simp only [Bool.not_false, Bool.true_or, if_true]
      go_enter Tryz.func51, Tryz.ntmps51
      go_wp2_with fail
      refine (HPN.out _).mono ?_
      rintro e w5 ⟨v5, rfl, hv5, hn5⟩
      obtain ⟨A5, l5, c5, rfl⟩ := hv5.form
      have hl5 := hv5.len
      have hn5' := hn5.alloc (.cells #[.slice A5 l5 c5] RNt)
      have HB6 := Lib.hid (HB.out.new hn5')
      have HN6 := Lib.hid (HN.out.trans hn5')
      have HV6 := Lib.hid (hv5.new ((New.refl w5).alloc (.cells #[.slice A5 l5 c5] RNt)))
      have c6 : (w5.alloc (.cells #[.slice A5 l5 c5] RNt)).cell? ⟨w5.heap.size, 0, none⟩ = some (.slice A5 l5 c5) := (Box.last w5 #[.slice A5 l5 c5] RNt).cell 0
      clear hv5 hn5 hn5' HB HN hl5
      go_wp2_with fail
      refine (rmake_n false HV6.out).mono ?_
      rintro e w7 ⟨v7, rfl, hv7, hn7⟩
      obtain ⟨b1, A1, l1, c1, rfl⟩ := hv7.form
      have HB7 := Lib.hid (HB6.out.new hn7)
      obtain ⟨c4, c5', f4, f5⟩ := HB7.out.two
      have HV7 := Lib.hid (hv7.lay2 HB7.out (.bool b1) (.slice A1 l1 c1))
      have HNW := Lib.hid (New.set2 (HN6.out.trans hn7) (Nat.le_refl w.heap.size) (.bool b1) (.slice A1 l1 c1))
      have g0 := (HB7.out.lay2 (.bool b1) (.slice A1 l1 c1)).cell0'
      have g1 := (HB7.out.lay2 (.bool b1) (.slice A1 l1 c1)).cell1'
      clear hv7 hn7
      go_wp2
      refine bodyPost_ret (v := .tuple #[.agg #[.bool b1, .slice A1 l1 c1], .int .i64 0]) (by simp [results, Tryz.results51, go_sem, g0, g1]) rfl ⟨_, rfl, HV7.out, HNW.out⟩
    · simp only [Bool.not_false, Bool.true_or, if_true]
      have h2 : (((ds[0]'h0).toNat : Int) == 45) = false := by rw [beq_eq_false_iff_ne]; omega
      go_enter Tryz.func51, Tryz.ntmps51
      go_wp2_with fail
      refine (HPN.out _).mono ?_
      rintro e w5 ⟨v5, rfl, hv5, hn5⟩
      obtain ⟨A5, l5, c5, rfl⟩ := hv5.form
      have hl5 := hv5.len
      have hn5' := hn5.alloc (.cells #[.slice A5 l5 c5] RNt)
      have HB6 := Lib.hid (HB.out.new hn5')
      have HN6 := Lib.hid (HN.out.trans hn5')
      have HV6 := Lib.hid (hv5.new ((New.refl w5).alloc (.cells #[.slice A5 l5 c5] RNt)))
      have c6 : (w5.alloc (.cells #[.slice A5 l5 c5] RNt)).cell? ⟨w5.heap.size, 0, none⟩ = some (.slice A5 l5 c5) := (Box.last w5 #[.slice A5 l5 c5] RNt).cell 0
      clear hv5 hn5 hn5' HB HN hl5
      go_wp2_with fail
      refine (rmake_n false HV6.out).mono ?_
      rintro e w7 ⟨v7, rfl, hv7, hn7⟩
      obtain ⟨b1, A1, l1, c1, rfl⟩ := hv7.form
      have HB7 := Lib.hid (HB6.out.new hn7)
      obtain ⟨c4, c5', f4, f5⟩ := HB7.out.two
      have HV7 := Lib.hid (hv7.lay2 HB7.out (.bool b1) (.slice A1 l1 c1))
      have HNW := Lib.hid (New.set2 (HN6.out.trans hn7) (Nat.le_refl w.heap.size) (.bool b1) (.slice A1 l1 c1))
      have g0 := (HB7.out.lay2 (.bool b1) (.slice A1 l1 c1)).cell0'
      have g1 := (HB7.out.lay2 (.bool b1) (.slice A1 l1 c1)).cell1'
      clear hv7 hn7
      go_wp2
      refine bodyPost_ret (v := .tuple #[.agg #[.bool b1, .slice A1 l1 c1], .int .i64 0]) (by simp [results, Tryz.results51, go_sem, g0, g1]) rfl ⟨_, rfl, HV7.out, HNW.out⟩
end Go.Proofs.YtkjlmibleoecgaaGreatDoor
