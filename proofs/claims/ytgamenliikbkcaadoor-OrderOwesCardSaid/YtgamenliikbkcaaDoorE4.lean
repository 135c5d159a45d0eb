/- The law OrderOwes, walked. (Printed by e4gen.py.) -/
import Derived.Test.YtgamenliikbkcaaDoorE3
import Derived.Test.YtgamenliikbkcaaDoorB4
import Derived.Deep.Cut
namespace Go.Proofs.YtgamenliikbkcaaDoor
set_option linter.unusedSimpArgs false
set_option linter.unusedVariables false
open Go.RowKit Go.BigFrame
theorem owes_mono {buy : Bool} {p q m : Int} (q0 : 0 ≤ q) (m0 : 0 ≤ m) : unitC buy p * q ≤ unitC buy p * (q + m) := by
  have h : 0 ≤ unitC buy p := by unfold unitC; omega
  have : 0 ≤ unitC buy p * m := Int.mul_nonneg h m0
  rw [Int.mul_add]; omega
theorem want_eq {p q : Int} (p0 : -1000000 ≤ p) (p1 : p ≤ 1000000) (q0 : 0 ≤ q) (q1 : q ≤ 65535) : wrap64 (q * max p (-p)) = max p (-p) * q := by
  rw [Int.mul_comm, wrap64_mul (by omega) (by omega) q0 (by omega)]
theorem info29 : (Tryd.prog.info? 29).map (·.size) = some 18 := by kernel_rfl
theorem row29 : ∃ d, Tryd.prog.underlying 29 = some d ∧ d.isRow = true := ⟨_, Tryd.underlying29, rfl⟩
set_option maxRecDepth 1000000 in
set_option maxHeartbeats 4000000 in
theorem owes_true0 (p q m P X Y : Int) (C0 C1 C3 : Array Value) (w : World) (p0 : -2147483648 ≤ p) (p1 : p ≤ 2147483647) (hp : 0 < P) (hP : p.tmod 1000001 = P) (P0 : -1000000 ≤ P) (P1 : P ≤ 1000000) (q0 : 0 ≤ q) (q1 : q ≤ 65535) (m0 : 0 ≤ m) (m1 : m ≤ 65535) (hXY : X ≤ Y)
    (hw : wrap64 (q * max P (-P)) = X)
    (hC0 : Hid (C0 = #[.int .i64 2, .int .i64 0, .int .i64 0, .string ⟨#[]⟩, .int .i64 0, .int .i64 0, .int .i64 0, .bool true, .int .i64 q, .int .i64 P, .string ⟨#[]⟩, .int .i64 0, .int .i64 0, .bool false, .int .i64 0, .slice none 0 0, .int .i64 0, .int .i64 0])) (hC1 : Hid (C1 = #[.int .i64 2, .int .i64 0, .int .i64 0, .string ⟨#[]⟩, .int .i64 0, .int .i64 0, .int .i64 0, .bool true, .int .i64 (q + m), .int .i64 P, .string ⟨#[]⟩, .int .i64 0, .int .i64 0, .bool false, .int .i64 0, .slice none 0 0, .int .i64 0, .int .i64 0])) (hC3 : Hid (C3 = #[.int .i64 3, .int .i64 0, .int .i64 0, .string ⟨#[]⟩, .int .i64 0, .int .i64 0, .int .i64 0, .bool false, .int .i64 0, .int .i64 0, .string ⟨#[]⟩, .int .i64 0, .int .i64 0, .bool true, .int .i64 P, .slice (some ⟨w.heap.size + 1 + 1, 0, none⟩) 2 2, .int .i64 0, .int .i64 0]))
    (HL : Hid (Laid w)) (HA : Hid (∀ w, Calls Tryd.prog 4 #[.agg C0] w fun e w' => e = .returned (.int .i64 X) ∧ New w w'))
    (HB : Hid (∀ w, Calls Tryd.prog 4 #[.agg C1] w fun e w' => e = .returned (.int .i64 Y) ∧ New w w'))
    (HC : Hid (∀ (w' : World), New w w' → w'.cell? ⟨w.heap.size + 1 + 1, 0, none⟩ = some (.int .i64 q) → w'.cell? ⟨w.heap.size + 1 + 1, 1, none⟩ = some (.int .i64 m) → w.heap.size + 1 + 1 < w'.heap.size → Calls Tryd.prog 4 #[.agg C3] w' fun e w'' => e = .returned (.int .i64 Y) ∧ New w' w''))
    (HO : Hid (∀ w, Calls Tryd.prog 4 #[.agg #[.int .i64 1, .int .i64 5, .int .i64 0, .string ⟨#[]⟩, .int .i64 0, .int .i64 0, .int .i64 0, .bool false, .int .i64 0, .int .i64 0, .string ⟨#[]⟩, .int .i64 0, .int .i64 0, .bool false, .int .i64 0, .slice none 0 0, .int .i64 0, .int .i64 0]] w fun e w' => e = .returned (.int .i64 0) ∧ New w w'))
    (HT : Hid (∀ w, Laid w → Calls Tryd.prog 5 #[.agg #[.int .i64 1, .int .i64 5, .int .i64 0, .string ⟨#[]⟩, .int .i64 0, .int .i64 0, .int .i64 0, .bool false, .int .i64 0, .int .i64 0, .string ⟨#[]⟩, .int .i64 0, .int .i64 0, .bool false, .int .i64 0, .slice none 0 0, .int .i64 0, .int .i64 0]] w fun e w' => e = .returned (.string lock5) ∧ New w w')) :
    Calls Tryd.prog 3 #[.bool true, .int .i32 p, .int .u16 q, .int .u16 m] w fun e w' => e = .returned (.bool true) ∧ New w w' := by
  go_enter Tryd.func3, Tryd.ntmps3
  obtain ⟨d29, hu29, hr29⟩ := row29
  have U29 := Lib.hid hu29
  have R29 := Lib.hid hr29
  clear hu29 hr29
  go_upto_region 4 with (first | (refine wpList_load_new _ _ 29 _ rfl _ rfl (by first | rfl | (simp only [World.size_alloc]; done)) rfl d29 U29.out R29.out info29 ?_) | refine wpList_store_new _ _ _ 29 _ rfl _ _ rfl (by first | rfl | (simp only [World.size_alloc]; done)) rfl rfl rfl info29 (by rfl) ?_)
  rw [← hC0.out]
  obtain ⟨W0, hW0⟩ : ∃ X, X = (w.alloc (.cells C0 29)).alloc (.cells C0 29) := ⟨_, rfl⟩
  have HN0 : Hid (New w W0) := Lib.hid (by rw [hW0]; exact ((New.refl w).alloc _).alloc _)
  have J0 : Hid (Box W0 w.heap.size C0 29) := Lib.hid (by rw [hW0]; exact (Box.last w _ _).alloc _)
  have J1 : Hid (Box W0 (w.heap.size + 1) C0 29) := Lib.hid (by rw [hW0]; exact Box.last2 w _ _ _)
  have hs0 : W0.heap.size = w.heap.size + 1 + 1 := by rw [hW0, World.size_alloc, World.size_alloc]
  rw [← hW0]
  clear hW0
  have c8 : W0.cell? ⟨w.heap.size + 1, 8, none⟩ = some (.int .i64 q) := by rw [J1.out.cell, hC0.out]; rfl
  have f8 := J1.out.frozen 8
  go_upto_region 5 with fail
  have HJ1 : Hid (Box (W0.setCell ⟨w.heap.size + 1, 8, none⟩ (.int .i64 (q + m))) (w.heap.size + 1) C1 29) := Lib.hid (by
    have := J1.out.set 8 (.int .i64 (q + m))
    rw [hC0.out] at this
    rw [hC1.out]
    exact this)
  have HJ0 := Lib.hid (J0.out.far (p := w.heap.size + 1) (i := 8) (by omega) (.int .i64 (q + m)))
  have HN1 := Lib.hid (HN0.out.setCell (p := ⟨w.heap.size + 1, 8, none⟩) (Nat.le_succ _) (.int .i64 (q + m)))
  have hs1 : (W0.setCell ⟨w.heap.size + 1, 8, none⟩ (.int .i64 (q + m))).heap.size = w.heap.size + 1 + 1 := by rw [← hs0]; simp [World.setCell]
  clear c8 f8 J0 J1 HN0
  generalize W0.setCell ⟨w.heap.size + 1, 8, none⟩ (.int .i64 (q + m)) = W2 at *
  clear hs0
  go_wp2_with (refine wpList_store_new _ _ _ 29 _ rfl _ _ rfl (by first | rfl | (simp only [World.size_alloc]; done) | (simp only [World.size_alloc, hs1]; done)) rfl rfl rfl info29 (by rfl) ?_)
  rw [← hC3.out]
  have z0 : Hid (C0.size = 18) := Lib.hid (by rw [hC0.out]; rfl)
  have z1 : Hid (C1.size = 18) := Lib.hid (by rw [hC1.out]; rfl)
  have z3 : Hid (C3.size = 18) := Lib.hid (by rw [hC3.out]; rfl)
  obtain ⟨W1, hW1⟩ : ∃ X, X = (W2.alloc (.cells #[.int .i64 q, .int .i64 m] 3)).alloc (.cells C3 29) := ⟨_, rfl⟩
  have HN : Hid (New w W1) := Lib.hid (by rw [hW1]; exact (HN1.out.alloc _).alloc _)
  have K0 : Hid (Box W1 w.heap.size C0 29) := Lib.hid (by rw [hW1]; exact (HJ0.out.alloc _).alloc _)
  have K1 : Hid (Box W1 (w.heap.size + 1) C1 29) := Lib.hid (by rw [hW1]; exact (HJ1.out.alloc _).alloc _)
  have K2 : Hid (Box W1 (w.heap.size + 1 + 1) #[.int .i64 q, .int .i64 m] 3) := Lib.hid (by
    rw [hW1]
    have := Box.last W2 #[.int .i64 q, .int .i64 m] 3
    rw [hs1] at this
    exact this.alloc _)
  have K3 : Hid (Box W1 (w.heap.size + 1 + 1 + 1) C3 29) := Lib.hid (by
    rw [hW1]
    have := Box.last (W2.alloc (.cells #[.int .i64 q, .int .i64 m] 3)) C3 29
    rw [World.size_alloc, hs1] at this
    exact this)
  rw [← hW1]
  clear hW1
  have HC1 : Hid (∀ V, New W1 V → Calls Tryd.prog 4 #[.agg C3] V fun e w'' => e = .returned (.int .i64 Y) ∧ New V w'') := Lib.hid fun V hV => HC.out V (HN.out.trans hV) ((K2.out.new hV).cell 0) ((K2.out.new hV).cell 1) ((K2.out.new hV).lt)
  refine wp_region_class (fun V => New W1 V) (by kernel_rfl) (by kernel_rfl) (New.refl W1).drew ?_
  have hall : ∀ p : Prop, (∀ w, New W1 w → p) = p := fun p => propext ⟨fun h => h W1 (New.refl _), fun h _ _ => h⟩
  repeat (first
    | go_big_quiet_skip
    | (go_big_quiet_want; refine quiet_load 29 _ rfl _ C0 rfl (fun V hV => K0.out.new hV) d29 U29.out R29.out (by rw [z0.out]; exact info29) ?_; go_big_quiet_on; simp only [Act.put, List.setIfInBounds_toArray, List.set_cons_zero, List.set_cons_succ])
    | (go_big_quiet_want; refine quiet_load 29 _ rfl _ C1 rfl (fun V hV => K1.out.new hV) d29 U29.out R29.out (by rw [z1.out]; exact info29) ?_; go_big_quiet_on; simp only [Act.put, List.setIfInBounds_toArray, List.set_cons_zero, List.set_cons_succ])
    | (go_big_quiet_want; refine quiet_load 29 _ rfl _ C3 rfl (fun V hV => K3.out.new hV) d29 U29.out R29.out (by rw [z3.out]; exact info29) ?_; go_big_quiet_on; simp only [Act.put, List.setIfInBounds_toArray, List.set_cons_zero, List.set_cons_succ])
    | (go_big_quiet_want; go_big_quiet_op; first
        | go_big_quiet_on
        | (with_reducible refine ⟨_, fun V hV => (HA.out V).mono fun e w' h => ⟨h.1, New.trans hV h.2⟩, ?_⟩; go_big_quiet_on)
        | (with_reducible refine ⟨_, fun V hV => (HB.out V).mono fun e w' h => ⟨h.1, New.trans hV h.2⟩, ?_⟩; go_big_quiet_on)
        | (with_reducible refine ⟨_, fun V hV => (HC1.out V hV).mono fun e w' h => ⟨h.1, New.trans hV h.2⟩, ?_⟩; go_big_quiet_on)
        | (with_reducible refine ⟨_, fun V hV => (HO.out V).mono fun e w' h => ⟨h.1, New.trans hV h.2⟩, ?_⟩; go_big_quiet_on)
        | (with_reducible refine ⟨_, fun V hV => (HT.out V (HL.out.new (HN.out.trans hV))).mono fun e w' h => ⟨h.1, New.trans hV h.2⟩, ?_⟩; go_big_quiet_on)))
  refine wpQuiet_nil ?_
  intro V hV
  have HV := Lib.hid (HN.out.trans hV)
  clear hV
  have hlk : (lock5.toList == [108, 111, 99, 107, 32, 53]) = true := by rw [Lib.toList_data]; decide
  have HK := Lib.hid hlk
  clear hlk
  go_wp2
  go_ret
  exact ⟨(congrArg (fun b => Ending.returned (.bool b)) HK.out).trans rfl, HV.out⟩
set_option maxRecDepth 1000000 in
set_option maxHeartbeats 4000000 in
theorem owes_true1 (p q m P X Y : Int) (C0 C1 C3 : Array Value) (w : World) (p0 : -2147483648 ≤ p) (p1 : p ≤ 2147483647) (hp : P ≤ 0) (hP : p.tmod 1000001 = P) (P0 : -1000000 ≤ P) (P1 : P ≤ 1000000) (q0 : 0 ≤ q) (q1 : q ≤ 65535) (m0 : 0 ≤ m) (m1 : m ≤ 65535) (hXY : 0 ≤ Y)
    (hC0 : Hid (C0 = #[.int .i64 2, .int .i64 0, .int .i64 0, .string ⟨#[]⟩, .int .i64 0, .int .i64 0, .int .i64 0, .bool true, .int .i64 q, .int .i64 P, .string ⟨#[]⟩, .int .i64 0, .int .i64 0, .bool false, .int .i64 0, .slice none 0 0, .int .i64 0, .int .i64 0])) (hC1 : Hid (C1 = #[.int .i64 2, .int .i64 0, .int .i64 0, .string ⟨#[]⟩, .int .i64 0, .int .i64 0, .int .i64 0, .bool true, .int .i64 (q + m), .int .i64 P, .string ⟨#[]⟩, .int .i64 0, .int .i64 0, .bool false, .int .i64 0, .slice none 0 0, .int .i64 0, .int .i64 0])) (hC3 : Hid (C3 = #[.int .i64 3, .int .i64 0, .int .i64 0, .string ⟨#[]⟩, .int .i64 0, .int .i64 0, .int .i64 0, .bool false, .int .i64 0, .int .i64 0, .string ⟨#[]⟩, .int .i64 0, .int .i64 0, .bool true, .int .i64 P, .slice (some ⟨w.heap.size + 1 + 1, 0, none⟩) 2 2, .int .i64 0, .int .i64 0]))
    (HL : Hid (Laid w)) (HA : Hid (∀ w, Calls Tryd.prog 4 #[.agg C0] w fun e w' => e = .returned (.int .i64 0) ∧ New w w'))
    (HB : Hid (∀ w, Calls Tryd.prog 4 #[.agg C1] w fun e w' => e = .returned (.int .i64 Y) ∧ New w w'))
    (HC : Hid (∀ (w' : World), New w w' → w'.cell? ⟨w.heap.size + 1 + 1, 0, none⟩ = some (.int .i64 q) → w'.cell? ⟨w.heap.size + 1 + 1, 1, none⟩ = some (.int .i64 m) → w.heap.size + 1 + 1 < w'.heap.size → Calls Tryd.prog 4 #[.agg C3] w' fun e w'' => e = .returned (.int .i64 Y) ∧ New w' w''))
    (HO : Hid (∀ w, Calls Tryd.prog 4 #[.agg #[.int .i64 1, .int .i64 5, .int .i64 0, .string ⟨#[]⟩, .int .i64 0, .int .i64 0, .int .i64 0, .bool false, .int .i64 0, .int .i64 0, .string ⟨#[]⟩, .int .i64 0, .int .i64 0, .bool false, .int .i64 0, .slice none 0 0, .int .i64 0, .int .i64 0]] w fun e w' => e = .returned (.int .i64 0) ∧ New w w'))
    (HT : Hid (∀ w, Laid w → Calls Tryd.prog 5 #[.agg #[.int .i64 1, .int .i64 5, .int .i64 0, .string ⟨#[]⟩, .int .i64 0, .int .i64 0, .int .i64 0, .bool false, .int .i64 0, .int .i64 0, .string ⟨#[]⟩, .int .i64 0, .int .i64 0, .bool false, .int .i64 0, .slice none 0 0, .int .i64 0, .int .i64 0]] w fun e w' => e = .returned (.string lock5) ∧ New w w')) :
    Calls Tryd.prog 3 #[.bool true, .int .i32 p, .int .u16 q, .int .u16 m] w fun e w' => e = .returned (.bool true) ∧ New w w' := by
  go_enter Tryd.func3, Tryd.ntmps3
  obtain ⟨d29, hu29, hr29⟩ := row29
  have U29 := Lib.hid hu29
  have R29 := Lib.hid hr29
  clear hu29 hr29
  go_upto_region 4 with (first | (refine wpList_load_new _ _ 29 _ rfl _ rfl (by first | rfl | (simp only [World.size_alloc]; done)) rfl d29 U29.out R29.out info29 ?_) | refine wpList_store_new _ _ _ 29 _ rfl _ _ rfl (by first | rfl | (simp only [World.size_alloc]; done)) rfl rfl rfl info29 (by rfl) ?_)
  rw [← hC0.out]
  obtain ⟨W0, hW0⟩ : ∃ X, X = (w.alloc (.cells C0 29)).alloc (.cells C0 29) := ⟨_, rfl⟩
  have HN0 : Hid (New w W0) := Lib.hid (by rw [hW0]; exact ((New.refl w).alloc _).alloc _)
  have J0 : Hid (Box W0 w.heap.size C0 29) := Lib.hid (by rw [hW0]; exact (Box.last w _ _).alloc _)
  have J1 : Hid (Box W0 (w.heap.size + 1) C0 29) := Lib.hid (by rw [hW0]; exact Box.last2 w _ _ _)
  have hs0 : W0.heap.size = w.heap.size + 1 + 1 := by rw [hW0, World.size_alloc, World.size_alloc]
  rw [← hW0]
  clear hW0
  have c8 : W0.cell? ⟨w.heap.size + 1, 8, none⟩ = some (.int .i64 q) := by rw [J1.out.cell, hC0.out]; rfl
  have f8 := J1.out.frozen 8
  go_upto_region 5 with fail
  have HJ1 : Hid (Box (W0.setCell ⟨w.heap.size + 1, 8, none⟩ (.int .i64 (q + m))) (w.heap.size + 1) C1 29) := Lib.hid (by
    have := J1.out.set 8 (.int .i64 (q + m))
    rw [hC0.out] at this
    rw [hC1.out]
    exact this)
  have HJ0 := Lib.hid (J0.out.far (p := w.heap.size + 1) (i := 8) (by omega) (.int .i64 (q + m)))
  have HN1 := Lib.hid (HN0.out.setCell (p := ⟨w.heap.size + 1, 8, none⟩) (Nat.le_succ _) (.int .i64 (q + m)))
  have hs1 : (W0.setCell ⟨w.heap.size + 1, 8, none⟩ (.int .i64 (q + m))).heap.size = w.heap.size + 1 + 1 := by rw [← hs0]; simp [World.setCell]
  clear c8 f8 J0 J1 HN0
  generalize W0.setCell ⟨w.heap.size + 1, 8, none⟩ (.int .i64 (q + m)) = W2 at *
  clear hs0
  go_wp2_with (refine wpList_store_new _ _ _ 29 _ rfl _ _ rfl (by first | rfl | (simp only [World.size_alloc]; done) | (simp only [World.size_alloc, hs1]; done)) rfl rfl rfl info29 (by rfl) ?_)
  rw [← hC3.out]
  have z0 : Hid (C0.size = 18) := Lib.hid (by rw [hC0.out]; rfl)
  have z1 : Hid (C1.size = 18) := Lib.hid (by rw [hC1.out]; rfl)
  have z3 : Hid (C3.size = 18) := Lib.hid (by rw [hC3.out]; rfl)
  obtain ⟨W1, hW1⟩ : ∃ X, X = (W2.alloc (.cells #[.int .i64 q, .int .i64 m] 3)).alloc (.cells C3 29) := ⟨_, rfl⟩
  have HN : Hid (New w W1) := Lib.hid (by rw [hW1]; exact (HN1.out.alloc _).alloc _)
  have K0 : Hid (Box W1 w.heap.size C0 29) := Lib.hid (by rw [hW1]; exact (HJ0.out.alloc _).alloc _)
  have K1 : Hid (Box W1 (w.heap.size + 1) C1 29) := Lib.hid (by rw [hW1]; exact (HJ1.out.alloc _).alloc _)
  have K2 : Hid (Box W1 (w.heap.size + 1 + 1) #[.int .i64 q, .int .i64 m] 3) := Lib.hid (by
    rw [hW1]
    have := Box.last W2 #[.int .i64 q, .int .i64 m] 3
    rw [hs1] at this
    exact this.alloc _)
  have K3 : Hid (Box W1 (w.heap.size + 1 + 1 + 1) C3 29) := Lib.hid (by
    rw [hW1]
    have := Box.last (W2.alloc (.cells #[.int .i64 q, .int .i64 m] 3)) C3 29
    rw [World.size_alloc, hs1] at this
    exact this)
  rw [← hW1]
  clear hW1
  have HC1 : Hid (∀ V, New W1 V → Calls Tryd.prog 4 #[.agg C3] V fun e w'' => e = .returned (.int .i64 Y) ∧ New V w'') := Lib.hid fun V hV => HC.out V (HN.out.trans hV) ((K2.out.new hV).cell 0) ((K2.out.new hV).cell 1) ((K2.out.new hV).lt)
  refine wp_region_class (fun V => New W1 V) (by kernel_rfl) (by kernel_rfl) (New.refl W1).drew ?_
  have hall : ∀ p : Prop, (∀ w, New W1 w → p) = p := fun p => propext ⟨fun h => h W1 (New.refl _), fun h _ _ => h⟩
  repeat (first
    | go_big_quiet_skip
    | (go_big_quiet_want; refine quiet_load 29 _ rfl _ C0 rfl (fun V hV => K0.out.new hV) d29 U29.out R29.out (by rw [z0.out]; exact info29) ?_; go_big_quiet_on; simp only [Act.put, List.setIfInBounds_toArray, List.set_cons_zero, List.set_cons_succ])
    | (go_big_quiet_want; refine quiet_load 29 _ rfl _ C1 rfl (fun V hV => K1.out.new hV) d29 U29.out R29.out (by rw [z1.out]; exact info29) ?_; go_big_quiet_on; simp only [Act.put, List.setIfInBounds_toArray, List.set_cons_zero, List.set_cons_succ])
    | (go_big_quiet_want; refine quiet_load 29 _ rfl _ C3 rfl (fun V hV => K3.out.new hV) d29 U29.out R29.out (by rw [z3.out]; exact info29) ?_; go_big_quiet_on; simp only [Act.put, List.setIfInBounds_toArray, List.set_cons_zero, List.set_cons_succ])
    | (go_big_quiet_want; go_big_quiet_op; first
        | go_big_quiet_on
        | (with_reducible refine ⟨_, fun V hV => (HA.out V).mono fun e w' h => ⟨h.1, New.trans hV h.2⟩, ?_⟩; go_big_quiet_on)
        | (with_reducible refine ⟨_, fun V hV => (HB.out V).mono fun e w' h => ⟨h.1, New.trans hV h.2⟩, ?_⟩; go_big_quiet_on)
        | (with_reducible refine ⟨_, fun V hV => (HC1.out V hV).mono fun e w' h => ⟨h.1, New.trans hV h.2⟩, ?_⟩; go_big_quiet_on)
        | (with_reducible refine ⟨_, fun V hV => (HO.out V).mono fun e w' h => ⟨h.1, New.trans hV h.2⟩, ?_⟩; go_big_quiet_on)
        | (with_reducible refine ⟨_, fun V hV => (HT.out V (HL.out.new (HN.out.trans hV))).mono fun e w' h => ⟨h.1, New.trans hV h.2⟩, ?_⟩; go_big_quiet_on)))
  refine wpQuiet_nil ?_
  intro V hV
  have HV := Lib.hid (HN.out.trans hV)
  clear hV
  have hlk : (lock5.toList == [108, 111, 99, 107, 32, 53]) = true := by rw [Lib.toList_data]; decide
  have HK := Lib.hid hlk
  clear hlk
  go_wp2
  go_ret
  exact ⟨(congrArg (fun b => Ending.returned (.bool b)) HK.out).trans rfl, HV.out⟩
set_option maxRecDepth 1000000 in
set_option maxHeartbeats 4000000 in
theorem owes_false0 (p q m P X Y : Int) (C0 C1 C3 : Array Value) (w : World) (p0 : -2147483648 ≤ p) (p1 : p ≤ 2147483647) (hp : P < 0) (hP : p.tmod 1000001 = P) (P0 : -1000000 ≤ P) (P1 : P ≤ 1000000) (q0 : 0 ≤ q) (q1 : q ≤ 65535) (m0 : 0 ≤ m) (m1 : m ≤ 65535) (hXY : X ≤ Y)
    (hw : wrap64 (q * max P (-P)) = X)
    (hC0 : Hid (C0 = #[.int .i64 2, .int .i64 0, .int .i64 0, .string ⟨#[]⟩, .int .i64 0, .int .i64 0, .int .i64 0, .bool false, .int .i64 q, .int .i64 P, .string ⟨#[]⟩, .int .i64 0, .int .i64 0, .bool false, .int .i64 0, .slice none 0 0, .int .i64 0, .int .i64 0])) (hC1 : Hid (C1 = #[.int .i64 2, .int .i64 0, .int .i64 0, .string ⟨#[]⟩, .int .i64 0, .int .i64 0, .int .i64 0, .bool false, .int .i64 (q + m), .int .i64 P, .string ⟨#[]⟩, .int .i64 0, .int .i64 0, .bool false, .int .i64 0, .slice none 0 0, .int .i64 0, .int .i64 0])) (hC3 : Hid (C3 = #[.int .i64 3, .int .i64 0, .int .i64 0, .string ⟨#[]⟩, .int .i64 0, .int .i64 0, .int .i64 0, .bool false, .int .i64 0, .int .i64 0, .string ⟨#[]⟩, .int .i64 0, .int .i64 0, .bool false, .int .i64 P, .slice (some ⟨w.heap.size + 1 + 1, 0, none⟩) 2 2, .int .i64 0, .int .i64 0]))
    (HL : Hid (Laid w)) (HA : Hid (∀ w, Calls Tryd.prog 4 #[.agg C0] w fun e w' => e = .returned (.int .i64 X) ∧ New w w'))
    (HB : Hid (∀ w, Calls Tryd.prog 4 #[.agg C1] w fun e w' => e = .returned (.int .i64 Y) ∧ New w w'))
    (HC : Hid (∀ (w' : World), New w w' → w'.cell? ⟨w.heap.size + 1 + 1, 0, none⟩ = some (.int .i64 q) → w'.cell? ⟨w.heap.size + 1 + 1, 1, none⟩ = some (.int .i64 m) → w.heap.size + 1 + 1 < w'.heap.size → Calls Tryd.prog 4 #[.agg C3] w' fun e w'' => e = .returned (.int .i64 Y) ∧ New w' w''))
    (HO : Hid (∀ w, Calls Tryd.prog 4 #[.agg #[.int .i64 1, .int .i64 5, .int .i64 0, .string ⟨#[]⟩, .int .i64 0, .int .i64 0, .int .i64 0, .bool false, .int .i64 0, .int .i64 0, .string ⟨#[]⟩, .int .i64 0, .int .i64 0, .bool false, .int .i64 0, .slice none 0 0, .int .i64 0, .int .i64 0]] w fun e w' => e = .returned (.int .i64 0) ∧ New w w'))
    (HT : Hid (∀ w, Laid w → Calls Tryd.prog 5 #[.agg #[.int .i64 1, .int .i64 5, .int .i64 0, .string ⟨#[]⟩, .int .i64 0, .int .i64 0, .int .i64 0, .bool false, .int .i64 0, .int .i64 0, .string ⟨#[]⟩, .int .i64 0, .int .i64 0, .bool false, .int .i64 0, .slice none 0 0, .int .i64 0, .int .i64 0]] w fun e w' => e = .returned (.string lock5) ∧ New w w')) :
    Calls Tryd.prog 3 #[.bool false, .int .i32 p, .int .u16 q, .int .u16 m] w fun e w' => e = .returned (.bool true) ∧ New w w' := by
  go_enter Tryd.func3, Tryd.ntmps3
  obtain ⟨d29, hu29, hr29⟩ := row29
  have U29 := Lib.hid hu29
  have R29 := Lib.hid hr29
  clear hu29 hr29
  go_upto_region 4 with (first | (refine wpList_load_new _ _ 29 _ rfl _ rfl (by first | rfl | (simp only [World.size_alloc]; done)) rfl d29 U29.out R29.out info29 ?_) | refine wpList_store_new _ _ _ 29 _ rfl _ _ rfl (by first | rfl | (simp only [World.size_alloc]; done)) rfl rfl rfl info29 (by rfl) ?_)
  rw [← hC0.out]
  obtain ⟨W0, hW0⟩ : ∃ X, X = (w.alloc (.cells C0 29)).alloc (.cells C0 29) := ⟨_, rfl⟩
  have HN0 : Hid (New w W0) := Lib.hid (by rw [hW0]; exact ((New.refl w).alloc _).alloc _)
  have J0 : Hid (Box W0 w.heap.size C0 29) := Lib.hid (by rw [hW0]; exact (Box.last w _ _).alloc _)
  have J1 : Hid (Box W0 (w.heap.size + 1) C0 29) := Lib.hid (by rw [hW0]; exact Box.last2 w _ _ _)
  have hs0 : W0.heap.size = w.heap.size + 1 + 1 := by rw [hW0, World.size_alloc, World.size_alloc]
  rw [← hW0]
  clear hW0
  have c8 : W0.cell? ⟨w.heap.size + 1, 8, none⟩ = some (.int .i64 q) := by rw [J1.out.cell, hC0.out]; rfl
  have f8 := J1.out.frozen 8
  go_upto_region 5 with fail
  have HJ1 : Hid (Box (W0.setCell ⟨w.heap.size + 1, 8, none⟩ (.int .i64 (q + m))) (w.heap.size + 1) C1 29) := Lib.hid (by
    have := J1.out.set 8 (.int .i64 (q + m))
    rw [hC0.out] at this
    rw [hC1.out]
    exact this)
  have HJ0 := Lib.hid (J0.out.far (p := w.heap.size + 1) (i := 8) (by omega) (.int .i64 (q + m)))
  have HN1 := Lib.hid (HN0.out.setCell (p := ⟨w.heap.size + 1, 8, none⟩) (Nat.le_succ _) (.int .i64 (q + m)))
  have hs1 : (W0.setCell ⟨w.heap.size + 1, 8, none⟩ (.int .i64 (q + m))).heap.size = w.heap.size + 1 + 1 := by rw [← hs0]; simp [World.setCell]
  clear c8 f8 J0 J1 HN0
  generalize W0.setCell ⟨w.heap.size + 1, 8, none⟩ (.int .i64 (q + m)) = W2 at *
  clear hs0
  go_wp2_with (refine wpList_store_new _ _ _ 29 _ rfl _ _ rfl (by first | rfl | (simp only [World.size_alloc]; done) | (simp only [World.size_alloc, hs1]; done)) rfl rfl rfl info29 (by rfl) ?_)
  rw [← hC3.out]
  have z0 : Hid (C0.size = 18) := Lib.hid (by rw [hC0.out]; rfl)
  have z1 : Hid (C1.size = 18) := Lib.hid (by rw [hC1.out]; rfl)
  have z3 : Hid (C3.size = 18) := Lib.hid (by rw [hC3.out]; rfl)
  obtain ⟨W1, hW1⟩ : ∃ X, X = (W2.alloc (.cells #[.int .i64 q, .int .i64 m] 3)).alloc (.cells C3 29) := ⟨_, rfl⟩
  have HN : Hid (New w W1) := Lib.hid (by rw [hW1]; exact (HN1.out.alloc _).alloc _)
  have K0 : Hid (Box W1 w.heap.size C0 29) := Lib.hid (by rw [hW1]; exact (HJ0.out.alloc _).alloc _)
  have K1 : Hid (Box W1 (w.heap.size + 1) C1 29) := Lib.hid (by rw [hW1]; exact (HJ1.out.alloc _).alloc _)
  have K2 : Hid (Box W1 (w.heap.size + 1 + 1) #[.int .i64 q, .int .i64 m] 3) := Lib.hid (by
    rw [hW1]
    have := Box.last W2 #[.int .i64 q, .int .i64 m] 3
    rw [hs1] at this
    exact this.alloc _)
  have K3 : Hid (Box W1 (w.heap.size + 1 + 1 + 1) C3 29) := Lib.hid (by
    rw [hW1]
    have := Box.last (W2.alloc (.cells #[.int .i64 q, .int .i64 m] 3)) C3 29
    rw [World.size_alloc, hs1] at this
    exact this)
  rw [← hW1]
  clear hW1
  have HC1 : Hid (∀ V, New W1 V → Calls Tryd.prog 4 #[.agg C3] V fun e w'' => e = .returned (.int .i64 Y) ∧ New V w'') := Lib.hid fun V hV => HC.out V (HN.out.trans hV) ((K2.out.new hV).cell 0) ((K2.out.new hV).cell 1) ((K2.out.new hV).lt)
  refine wp_region_class (fun V => New W1 V) (by kernel_rfl) (by kernel_rfl) (New.refl W1).drew ?_
  have hall : ∀ p : Prop, (∀ w, New W1 w → p) = p := fun p => propext ⟨fun h => h W1 (New.refl _), fun h _ _ => h⟩
  repeat (first
    | go_big_quiet_skip
    | (go_big_quiet_want; refine quiet_load 29 _ rfl _ C0 rfl (fun V hV => K0.out.new hV) d29 U29.out R29.out (by rw [z0.out]; exact info29) ?_; go_big_quiet_on; simp only [Act.put, List.setIfInBounds_toArray, List.set_cons_zero, List.set_cons_succ])
    | (go_big_quiet_want; refine quiet_load 29 _ rfl _ C1 rfl (fun V hV => K1.out.new hV) d29 U29.out R29.out (by rw [z1.out]; exact info29) ?_; go_big_quiet_on; simp only [Act.put, List.setIfInBounds_toArray, List.set_cons_zero, List.set_cons_succ])
    | (go_big_quiet_want; refine quiet_load 29 _ rfl _ C3 rfl (fun V hV => K3.out.new hV) d29 U29.out R29.out (by rw [z3.out]; exact info29) ?_; go_big_quiet_on; simp only [Act.put, List.setIfInBounds_toArray, List.set_cons_zero, List.set_cons_succ])
    | (go_big_quiet_want; go_big_quiet_op; first
        | go_big_quiet_on
        | (with_reducible refine ⟨_, fun V hV => (HA.out V).mono fun e w' h => ⟨h.1, New.trans hV h.2⟩, ?_⟩; go_big_quiet_on)
        | (with_reducible refine ⟨_, fun V hV => (HB.out V).mono fun e w' h => ⟨h.1, New.trans hV h.2⟩, ?_⟩; go_big_quiet_on)
        | (with_reducible refine ⟨_, fun V hV => (HC1.out V hV).mono fun e w' h => ⟨h.1, New.trans hV h.2⟩, ?_⟩; go_big_quiet_on)
        | (with_reducible refine ⟨_, fun V hV => (HO.out V).mono fun e w' h => ⟨h.1, New.trans hV h.2⟩, ?_⟩; go_big_quiet_on)
        | (with_reducible refine ⟨_, fun V hV => (HT.out V (HL.out.new (HN.out.trans hV))).mono fun e w' h => ⟨h.1, New.trans hV h.2⟩, ?_⟩; go_big_quiet_on)))
  refine wpQuiet_nil ?_
  intro V hV
  have HV := Lib.hid (HN.out.trans hV)
  clear hV
  have hlk : (lock5.toList == [108, 111, 99, 107, 32, 53]) = true := by rw [Lib.toList_data]; decide
  have HK := Lib.hid hlk
  clear hlk
  go_wp2
  go_ret
  exact ⟨(congrArg (fun b => Ending.returned (.bool b)) HK.out).trans rfl, HV.out⟩
set_option maxRecDepth 1000000 in
set_option maxHeartbeats 4000000 in
theorem owes_false1 (p q m P X Y : Int) (C0 C1 C3 : Array Value) (w : World) (p0 : -2147483648 ≤ p) (p1 : p ≤ 2147483647) (hp : 0 ≤ P) (hP : p.tmod 1000001 = P) (P0 : -1000000 ≤ P) (P1 : P ≤ 1000000) (q0 : 0 ≤ q) (q1 : q ≤ 65535) (m0 : 0 ≤ m) (m1 : m ≤ 65535) (hXY : 0 ≤ Y)
    (hC0 : Hid (C0 = #[.int .i64 2, .int .i64 0, .int .i64 0, .string ⟨#[]⟩, .int .i64 0, .int .i64 0, .int .i64 0, .bool false, .int .i64 q, .int .i64 P, .string ⟨#[]⟩, .int .i64 0, .int .i64 0, .bool false, .int .i64 0, .slice none 0 0, .int .i64 0, .int .i64 0])) (hC1 : Hid (C1 = #[.int .i64 2, .int .i64 0, .int .i64 0, .string ⟨#[]⟩, .int .i64 0, .int .i64 0, .int .i64 0, .bool false, .int .i64 (q + m), .int .i64 P, .string ⟨#[]⟩, .int .i64 0, .int .i64 0, .bool false, .int .i64 0, .slice none 0 0, .int .i64 0, .int .i64 0])) (hC3 : Hid (C3 = #[.int .i64 3, .int .i64 0, .int .i64 0, .string ⟨#[]⟩, .int .i64 0, .int .i64 0, .int .i64 0, .bool false, .int .i64 0, .int .i64 0, .string ⟨#[]⟩, .int .i64 0, .int .i64 0, .bool false, .int .i64 P, .slice (some ⟨w.heap.size + 1 + 1, 0, none⟩) 2 2, .int .i64 0, .int .i64 0]))
    (HL : Hid (Laid w)) (HA : Hid (∀ w, Calls Tryd.prog 4 #[.agg C0] w fun e w' => e = .returned (.int .i64 0) ∧ New w w'))
    (HB : Hid (∀ w, Calls Tryd.prog 4 #[.agg C1] w fun e w' => e = .returned (.int .i64 Y) ∧ New w w'))
    (HC : Hid (∀ (w' : World), New w w' → w'.cell? ⟨w.heap.size + 1 + 1, 0, none⟩ = some (.int .i64 q) → w'.cell? ⟨w.heap.size + 1 + 1, 1, none⟩ = some (.int .i64 m) → w.heap.size + 1 + 1 < w'.heap.size → Calls Tryd.prog 4 #[.agg C3] w' fun e w'' => e = .returned (.int .i64 Y) ∧ New w' w''))
    (HO : Hid (∀ w, Calls Tryd.prog 4 #[.agg #[.int .i64 1, .int .i64 5, .int .i64 0, .string ⟨#[]⟩, .int .i64 0, .int .i64 0, .int .i64 0, .bool false, .int .i64 0, .int .i64 0, .string ⟨#[]⟩, .int .i64 0, .int .i64 0, .bool false, .int .i64 0, .slice none 0 0, .int .i64 0, .int .i64 0]] w fun e w' => e = .returned (.int .i64 0) ∧ New w w'))
    (HT : Hid (∀ w, Laid w → Calls Tryd.prog 5 #[.agg #[.int .i64 1, .int .i64 5, .int .i64 0, .string ⟨#[]⟩, .int .i64 0, .int .i64 0, .int .i64 0, .bool false, .int .i64 0, .int .i64 0, .string ⟨#[]⟩, .int .i64 0, .int .i64 0, .bool false, .int .i64 0, .slice none 0 0, .int .i64 0, .int .i64 0]] w fun e w' => e = .returned (.string lock5) ∧ New w w')) :
    Calls Tryd.prog 3 #[.bool false, .int .i32 p, .int .u16 q, .int .u16 m] w fun e w' => e = .returned (.bool true) ∧ New w w' := by
  go_enter Tryd.func3, Tryd.ntmps3
  obtain ⟨d29, hu29, hr29⟩ := row29
  have U29 := Lib.hid hu29
  have R29 := Lib.hid hr29
  clear hu29 hr29
  go_upto_region 4 with (first | (refine wpList_load_new _ _ 29 _ rfl _ rfl (by first | rfl | (simp only [World.size_alloc]; done)) rfl d29 U29.out R29.out info29 ?_) | refine wpList_store_new _ _ _ 29 _ rfl _ _ rfl (by first | rfl | (simp only [World.size_alloc]; done)) rfl rfl rfl info29 (by rfl) ?_)
  rw [← hC0.out]
  obtain ⟨W0, hW0⟩ : ∃ X, X = (w.alloc (.cells C0 29)).alloc (.cells C0 29) := ⟨_, rfl⟩
  have HN0 : Hid (New w W0) := Lib.hid (by rw [hW0]; exact ((New.refl w).alloc _).alloc _)
  have J0 : Hid (Box W0 w.heap.size C0 29) := Lib.hid (by rw [hW0]; exact (Box.last w _ _).alloc _)
  have J1 : Hid (Box W0 (w.heap.size + 1) C0 29) := Lib.hid (by rw [hW0]; exact Box.last2 w _ _ _)
  have hs0 : W0.heap.size = w.heap.size + 1 + 1 := by rw [hW0, World.size_alloc, World.size_alloc]
  rw [← hW0]
  clear hW0
  have c8 : W0.cell? ⟨w.heap.size + 1, 8, none⟩ = some (.int .i64 q) := by rw [J1.out.cell, hC0.out]; rfl
  have f8 := J1.out.frozen 8
  go_upto_region 5 with fail
  have HJ1 : Hid (Box (W0.setCell ⟨w.heap.size + 1, 8, none⟩ (.int .i64 (q + m))) (w.heap.size + 1) C1 29) := Lib.hid (by
    have := J1.out.set 8 (.int .i64 (q + m))
    rw [hC0.out] at this
    rw [hC1.out]
    exact this)
  have HJ0 := Lib.hid (J0.out.far (p := w.heap.size + 1) (i := 8) (by omega) (.int .i64 (q + m)))
  have HN1 := Lib.hid (HN0.out.setCell (p := ⟨w.heap.size + 1, 8, none⟩) (Nat.le_succ _) (.int .i64 (q + m)))
  have hs1 : (W0.setCell ⟨w.heap.size + 1, 8, none⟩ (.int .i64 (q + m))).heap.size = w.heap.size + 1 + 1 := by rw [← hs0]; simp [World.setCell]
  clear c8 f8 J0 J1 HN0
  generalize W0.setCell ⟨w.heap.size + 1, 8, none⟩ (.int .i64 (q + m)) = W2 at *
  clear hs0
  go_wp2_with (refine wpList_store_new _ _ _ 29 _ rfl _ _ rfl (by first | rfl | (simp only [World.size_alloc]; done) | (simp only [World.size_alloc, hs1]; done)) rfl rfl rfl info29 (by rfl) ?_)
  rw [← hC3.out]
  have z0 : Hid (C0.size = 18) := Lib.hid (by rw [hC0.out]; rfl)
  have z1 : Hid (C1.size = 18) := Lib.hid (by rw [hC1.out]; rfl)
  have z3 : Hid (C3.size = 18) := Lib.hid (by rw [hC3.out]; rfl)
  obtain ⟨W1, hW1⟩ : ∃ X, X = (W2.alloc (.cells #[.int .i64 q, .int .i64 m] 3)).alloc (.cells C3 29) := ⟨_, rfl⟩
  have HN : Hid (New w W1) := Lib.hid (by rw [hW1]; exact (HN1.out.alloc _).alloc _)
  have K0 : Hid (Box W1 w.heap.size C0 29) := Lib.hid (by rw [hW1]; exact (HJ0.out.alloc _).alloc _)
  have K1 : Hid (Box W1 (w.heap.size + 1) C1 29) := Lib.hid (by rw [hW1]; exact (HJ1.out.alloc _).alloc _)
  have K2 : Hid (Box W1 (w.heap.size + 1 + 1) #[.int .i64 q, .int .i64 m] 3) := Lib.hid (by
    rw [hW1]
    have := Box.last W2 #[.int .i64 q, .int .i64 m] 3
    rw [hs1] at this
    exact this.alloc _)
  have K3 : Hid (Box W1 (w.heap.size + 1 + 1 + 1) C3 29) := Lib.hid (by
    rw [hW1]
    have := Box.last (W2.alloc (.cells #[.int .i64 q, .int .i64 m] 3)) C3 29
    rw [World.size_alloc, hs1] at this
    exact this)
  rw [← hW1]
  clear hW1
  have HC1 : Hid (∀ V, New W1 V → Calls Tryd.prog 4 #[.agg C3] V fun e w'' => e = .returned (.int .i64 Y) ∧ New V w'') := Lib.hid fun V hV => HC.out V (HN.out.trans hV) ((K2.out.new hV).cell 0) ((K2.out.new hV).cell 1) ((K2.out.new hV).lt)
  refine wp_region_class (fun V => New W1 V) (by kernel_rfl) (by kernel_rfl) (New.refl W1).drew ?_
  have hall : ∀ p : Prop, (∀ w, New W1 w → p) = p := fun p => propext ⟨fun h => h W1 (New.refl _), fun h _ _ => h⟩
  repeat (first
    | go_big_quiet_skip
    | (go_big_quiet_want; refine quiet_load 29 _ rfl _ C0 rfl (fun V hV => K0.out.new hV) d29 U29.out R29.out (by rw [z0.out]; exact info29) ?_; go_big_quiet_on; simp only [Act.put, List.setIfInBounds_toArray, List.set_cons_zero, List.set_cons_succ])
    | (go_big_quiet_want; refine quiet_load 29 _ rfl _ C1 rfl (fun V hV => K1.out.new hV) d29 U29.out R29.out (by rw [z1.out]; exact info29) ?_; go_big_quiet_on; simp only [Act.put, List.setIfInBounds_toArray, List.set_cons_zero, List.set_cons_succ])
    | (go_big_quiet_want; refine quiet_load 29 _ rfl _ C3 rfl (fun V hV => K3.out.new hV) d29 U29.out R29.out (by rw [z3.out]; exact info29) ?_; go_big_quiet_on; simp only [Act.put, List.setIfInBounds_toArray, List.set_cons_zero, List.set_cons_succ])
    | (go_big_quiet_want; go_big_quiet_op; first
        | go_big_quiet_on
        | (with_reducible refine ⟨_, fun V hV => (HA.out V).mono fun e w' h => ⟨h.1, New.trans hV h.2⟩, ?_⟩; go_big_quiet_on)
        | (with_reducible refine ⟨_, fun V hV => (HB.out V).mono fun e w' h => ⟨h.1, New.trans hV h.2⟩, ?_⟩; go_big_quiet_on)
        | (with_reducible refine ⟨_, fun V hV => (HC1.out V hV).mono fun e w' h => ⟨h.1, New.trans hV h.2⟩, ?_⟩; go_big_quiet_on)
        | (with_reducible refine ⟨_, fun V hV => (HO.out V).mono fun e w' h => ⟨h.1, New.trans hV h.2⟩, ?_⟩; go_big_quiet_on)
        | (with_reducible refine ⟨_, fun V hV => (HT.out V (HL.out.new (HN.out.trans hV))).mono fun e w' h => ⟨h.1, New.trans hV h.2⟩, ?_⟩; go_big_quiet_on)))
  refine wpQuiet_nil ?_
  intro V hV
  have HV := Lib.hid (HN.out.trans hV)
  clear hV
  have hlk : (lock5.toList == [108, 111, 99, 107, 32, 53]) = true := by rw [Lib.toList_data]; decide
  have HK := Lib.hid hlk
  clear hlk
  go_wp2
  go_ret
  exact ⟨(congrArg (fun b => Ending.returned (.bool b)) HK.out).trans rfl, HV.out⟩
theorem orderOwes_walk (buy : Bool) (p q m : Int) (w : World) (p0 : -2147483648 ≤ p) (p1 : p ≤ 2147483647) (q0 : 0 ≤ q) (q1 : q ≤ 65535) (m0 : 0 ≤ m) (m1 : m ≤ 65535) (L : Laid w) :
    Calls Tryd.prog 3 #[.bool buy, .int .i32 p, .int .u16 q, .int .u16 m] w fun e w' => e = .returned (.bool true) ∧ New w w' := by
  obtain ⟨P, hP⟩ : ∃ P, p.tmod 1000001 = P := ⟨_, rfl⟩
  have P0 : -1000000 ≤ P := by rw [← hP]; have := Int.tmod_lt_of_pos (-p) (show (0 : Int) < 1000001 by decide); rw [Int.neg_tmod] at this; omega
  have P1 : P ≤ 1000000 := by rw [← hP]; have := Int.tmod_lt_of_pos p (show (0 : Int) < 1000001 by decide); omega
  have HA := fun w => owes_step buy q P w P0 P1 q0 (by omega)
  have HB := fun w => owes_step buy (q + m) P w P0 P1 (by omega) (by omega)
  have HC : ∀ (w' : World), New w w' → w'.cell? ⟨w.heap.size + 1 + 1, 0, none⟩ = some (.int .i64 q) → w'.cell? ⟨w.heap.size + 1 + 1, 1, none⟩ = some (.int .i64 m) → w.heap.size + 1 + 1 < w'.heap.size → Calls Tryd.prog 4 #[.agg (blockA buy P (.slice (some ⟨w.heap.size + 1 + 1, 0, none⟩) 2 2))] w' fun e w'' => e = .returned (.int .i64 (unitC buy P * (q + m))) ∧ New w' w'' :=
    fun w' _ h1 h2 h3 => owes_block buy P _ 0 2 q m w' h3 h1 h2 P0 P1 q0 q1 m0 m1
  have hXY := owes_mono (buy := buy) (p := P) q0 m0
  have hw := want_eq P0 P1 q0 q1
  cases buy
  · rcases Int.lt_or_le P 0 with hp | hp
    · have e : unitC false P * q = max P (-P) * q := by unfold unitC; rw [if_neg (by decide), show max (-P) 0 = max P (-P) by omega]
      rw [e] at HA hXY
      exact owes_false0 p q m P _ _ _ _ _ w p0 p1 hp hP P0 P1 q0 q1 m0 m1 hXY hw (Lib.hid rfl) (Lib.hid rfl) (Lib.hid rfl) (Lib.hid L) (Lib.hid HA) (Lib.hid HB) (Lib.hid HC) (Lib.hid owes_lock) (Lib.hid print_lock)
    · have e : unitC false P * q = 0 := by unfold unitC; rw [if_neg (by decide), show max (-P) 0 = 0 by omega, Int.zero_mul]
      rw [e] at HA hXY
      exact owes_false1 p q m P 0 _ _ _ _ w p0 p1 hp hP P0 P1 q0 q1 m0 m1 hXY (Lib.hid rfl) (Lib.hid rfl) (Lib.hid rfl) (Lib.hid L) (Lib.hid HA) (Lib.hid HB) (Lib.hid HC) (Lib.hid owes_lock) (Lib.hid print_lock)
  · rcases Int.lt_or_le 0 P with hp | hp
    · have e : unitC true P * q = max P (-P) * q := by unfold unitC; rw [if_pos rfl, show max P 0 = max P (-P) by omega]
      rw [e] at HA hXY
      exact owes_true0 p q m P _ _ _ _ _ w p0 p1 hp hP P0 P1 q0 q1 m0 m1 hXY hw (Lib.hid rfl) (Lib.hid rfl) (Lib.hid rfl) (Lib.hid L) (Lib.hid HA) (Lib.hid HB) (Lib.hid HC) (Lib.hid owes_lock) (Lib.hid print_lock)
    · have e : unitC true P * q = 0 := by unfold unitC; rw [if_pos rfl, show max P 0 = 0 by omega, Int.zero_mul]
      rw [e] at HA hXY
      exact owes_true1 p q m P 0 _ _ _ _ w p0 p1 hp hP P0 P1 q0 q1 m0 m1 hXY (Lib.hid rfl) (Lib.hid rfl) (Lib.hid rfl) (Lib.hid L) (Lib.hid HA) (Lib.hid HB) (Lib.hid HC) (Lib.hid owes_lock) (Lib.hid print_lock)
end Go.Proofs.YtgamenliikbkcaaDoor
