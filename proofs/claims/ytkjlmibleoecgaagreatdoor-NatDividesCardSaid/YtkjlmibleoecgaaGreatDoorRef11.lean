/- The reference of nat, part 11: one, small2; long division in plain words. -/
import Derived.Test.YtkjlmibleoecgaaGreatDoorRef10
import Derived.Test.YtkjlmibleoecgaaGreatDoorRef7
namespace Go.Proofs.YtkjlmibleoecgaaGreatDoor
set_option linter.unusedSimpArgs false
set_option linter.unusedVariables false
open Go.RowKit
/-- 'one', from the top: digits of the quotient, the rest. -/
def pt9 (by_ : Nat) : List Nat → List Nat × Nat
  | [] => ([], 0)
  | x :: r => (((pt9 by_ r).2 * B9 + x) / by_ :: (pt9 by_ r).1, ((pt9 by_ r).2 * B9 + x) % by_)
theorem pt9_facts {by_ : Nat} (h0 : 0 < by_) (hb : by_ < B9) : ∀ xs : List Nat, (∀ d ∈ xs, d < B9) →
    (pt9 by_ xs).1.length = xs.length ∧ (∀ d ∈ (pt9 by_ xs).1, d < B9) ∧ (pt9 by_ xs).2 < by_ ∧ val B9 (pt9 by_ xs).1 * by_ + (pt9 by_ xs).2 = val B9 xs
  | [], _ => by simp [pt9, val, h0]
  | x :: r, h => by
    obtain ⟨h1, h2, h3, h4⟩ := pt9_facts h0 hb r (fun d hd => h d (List.mem_cons_of_mem _ hd))
    have hx := h x (List.mem_cons_self ..)
    simp only [pt9]
    generalize pt9 by_ r = s at *
    obtain ⟨q, c⟩ := s
    simp only at *
    refine ⟨by simp [h1], ?_, Nat.mod_lt _ h0, ?_⟩
    · intro d hd
      rcases List.mem_cons.1 hd with rfl | hd
      · rw [Nat.div_lt_iff_lt_mul h0]
        have : (c + 1) * B9 ≤ by_ * B9 := Nat.mul_le_mul_right _ h3
        rw [Nat.add_mul, Nat.mul_comm by_] at this
        omega
      · exact h2 d hd
    · simp only [val]
      have e := Nat.div_add_mod (c * B9 + x) by_
      generalize (c * B9 + x) / by_ = a at *
      generalize (c * B9 + x) % by_ = b at *
      rw [← h4, Nat.add_mul, Nat.mul_add, Nat.mul_assoc]
      rw [Nat.mul_comm by_ a] at e
      rw [Nat.mul_comm c] at e
      omega
theorem pt9_drop {by_ k : Nat} {xs : List Nat} (h0 : 0 < k) (hk : k ≤ xs.length) : pt9 by_ (xs.drop (k - 1)) = (((pt9 by_ (xs.drop k)).2 * B9 + xs.getD (k - 1) 0) / by_ :: (pt9 by_ (xs.drop k)).1, ((pt9 by_ (xs.drop k)).2 * B9 + xs.getD (k - 1) 0) % by_) := by
  rw [List.drop_eq_getElem_cons (by omega : k - 1 < xs.length), getD_lt (by omega), show k - 1 + 1 = k from by omega]; rfl
theorem RefV.set2 {w : World} {v : Value} {n : Nat} (h : RefV w v n) {p q : Nat} {C D : Array Value} {T : TypeId} (hp : Box w p C T) (hq : Box w q D T) (hne : p ≠ q) (ht : T ≠ 3) (a b : Value) : RefV ((w.setCell ⟨p, 0, none⟩ a).setCell ⟨q, 0, none⟩ b) v n :=
  (h.set hp ht (i := 0) a).set (hq.far (Ne.symm hne) (i := 0) a) ht (i := 0) b
theorem r_two_boxes {w : World} {p q : Nat} {a b u v : Value} {T : TypeId} (hp : Box w p #[a] T) (hq : Box w q #[b] T) (hne : p ≠ q) :
    Box ((w.setCell ⟨p, 0, none⟩ u).setCell ⟨q, 0, none⟩ v) p #[u] T ∧ Box ((w.setCell ⟨p, 0, none⟩ u).setCell ⟨q, 0, none⟩ v) q #[v] T :=
  ⟨(hp.set 0 u).far hne v, (hq.far (Ne.symm hne) u).set 0 v⟩
set_option maxHeartbeats 2000000 in
theorem rone_c {x by_ : Nat} {v : Value} {w : World} (h : RefV w v x) (h0 : 0 < by_) (hb : by_ < B9) (hl : (dg B9 x).length ≤ 1000000) :
    Calls Tryz.prog 75 #[v, .int .i64 (by_ : Int)] w fun e w' => ∃ q r, e = .returned (.tuple #[q, r]) ∧ RefV w' q (x / by_) ∧ RefV w' r (x % by_) ∧ New w w' := by
  obtain ⟨u, rfl, A, c, rfl, hc, hmax, hr⟩ := h
  have hxs := dg_lt B9_2 x
  have hval := dg_val B9_2 x
  generalize dg B9 x = xs at *
  generalize hn : xs.length = n at *
  have hmk := make_i64 n (by omega)
  have hby : (by_ : Int) ≤ 999999999 := by rw [B9_eq] at hb; omega
  have hby0 : 0 < (by_ : Int) := by omega
  have hbn0 : ¬ (by_ : Int) = 0 := by omega
  go_enter Tryz.func75, Tryz.ntmps75
  go_wp2
  go_loopw [7, 8] (fun c7 i w' => ∃ k : Nat, k ≤ n ∧ i = .int .i64 ((k : Int) - 1) ∧ c7 = .int .i64 ((pt9 by_ (xs.drop k)).2 : Nat) ∧
    w' = (((w.alloc (.cells #[.slice A n c] RNat)).alloc (.cells #[.slice none 0 0] RNat)).alloc (.cells #[.slice none 0 0] RNat)).alloc (.cells (ecells .i64 (List.replicate k 0 ++ (pt9 by_ (xs.drop k)).1)) 3)) (fun _ i _ => (intOf i + 1).toNat)
  case atStart => exact ⟨n, Nat.le_refl _, rfl, by rw [List.drop_of_length_le (by omega)]; rfl, by rw [List.drop_of_length_le (by omega)]; simp [pt9]⟩
  case round =>
    obtain ⟨k, hk, rfl, rfl, rfl⟩ := hrel
    have hfa := pt9_facts h0 hb (xs.drop k) (fun d hd => hxs d (List.mem_of_mem_drop hd))
    by_cases hlt : 0 < k
    · obtain ⟨b, o, C, fr, rfl, hbl, hcell⟩ := hr (k - 1) (by omega)
      have hstep := pt9_drop (by_ := by_) hlt (by omega : k ≤ xs.length)
      have hx : xs.getD (k - 1) 0 < B9 := hxs _ (getD_mem (by omega))
      generalize hxk : xs.getD (k - 1) 0 = d at *
      generalize pt9 by_ (xs.drop k) = s at *
      obtain ⟨q, r⟩ := s
      obtain ⟨hql, -, hr0, -⟩ := hfa
      simp only at *
      have hr9 : r < 1000000000 := by rw [B9_eq] at hb; omega
      have hd9 : d < 1000000000 := by rw [B9_eq] at hx; exact hx
      obtain ⟨z, hz⟩ : ∃ z : Nat, z = r * B9 + d := ⟨_, rfl⟩
      have hsum : (r : Int) * 1000000000 + (d : Int) = (z : Int) := by rw [hz, B9_eq]; omega
      rw [← hz] at hstep
      have hz64 : (z : Int) ≤ 1000000000000000000 := by rw [hz, B9_eq]; omega
      have hqz : z / by_ < B9 := by
        rw [Nat.div_lt_iff_lt_mul h0, hz]
        have : (r + 1) * B9 ≤ by_ * B9 := Nat.mul_le_mul_right _ hr0
        rw [Nat.add_mul, Nat.mul_comm by_] at this
        omega
      have hq : Int.tdiv (z : Int) (by_ : Int) = ((z / by_ : Nat) : Int) := by rw [Int.tdiv_eq_ediv_of_nonneg (by omega)]; exact (Int.natCast_ediv _ _).symm
      have hm : Int.tmod (z : Int) (by_ : Int) = ((z % by_ : Nat) : Int) := by rw [Int.tmod_eq_emod_of_nonneg (by omega)]; exact (Int.natCast_emod _ _).symm
      have hq' : (z : Int) / (by_ : Int) = ((z / by_ : Nat) : Int) := (Int.natCast_ediv _ _).symm
      have hm' : (z : Int) % (by_ : Int) = ((z % by_ : Nat) : Int) := (Int.natCast_emod _ _).symm
      generalize z / by_ = qd at *
      generalize z % by_ = rd at *
      have hqd9 : (qd : Int) ≤ 1000000000 := by rw [B9_eq] at hqz; omega
      have hw3 : IntKind.i64.wrap ((qd : Nat) : Int) = ((qd : Nat) : Int) := IntWalk.i64_in _ (by omega)
      have hw4 : IntKind.i64.wrap ((r : Int) * 1000000000) = (r : Int) * 1000000000 := IntWalk.i64_in _ (by omega)
      have hw5 : IntKind.i64.wrap ((z : Nat) : Int) = ((z : Nat) : Int) := IntWalk.i64_in _ (by omega)
      have hck : (ecells .i64 (List.replicate k 0 ++ q))[k - 1]? = some (.int .i64 0) := by
        rw [ecells_get _ (by simp; omega)]
        simp [List.getD_eq_getElem?_getD, List.getElem?_append, show k - 1 < k from by omega]
      have hset : (ecells .i64 (List.replicate k 0 ++ q)).setIfInBounds (k - 1) (.int .i64 (qd : Int)) = ecells .i64 (List.replicate (k - 1) 0 ++ (qd :: q)) := by
        rw [ecells_set]
        congr 1
        obtain ⟨j, rfl⟩ : ∃ j, k = j + 1 := ⟨k - 1, by omega⟩
        rw [Nat.add_sub_cancel, List.replicate_succ', List.append_assoc, List.set_append_right _ _ (by simp)]
        simp
      generalize ecells .i64 (List.replicate k 0 ++ q) = EC at *
      have hc3 := fun o1 o2 o3 o4 => ((((New.refl w).alloc o1).alloc o2).alloc o3).alloc o4 |>.still hcell
      have hi : ((k : Int) - 1).toNat = k - 1 := by omega
      have HS := Lib.hid hstep
      have HE := Lib.hid hset
      have HZ := Lib.hid hz
      have HQ := Lib.hid hqz
      have HV := Lib.hid hval
      have HX := Lib.hid hxk
      have HN := Lib.hid hn
      clear hr hmk hql hcell hstep hset hval hxk hn hbl hxs hz hqz
      go_wp2
      go_roundw
      case rel =>
        refine ⟨k - 1, by omega, by rw [show ((k - 1 : Nat) : Int) = (k : Int) - 1 from by omega], ?_, ?_⟩
        · rw [HS.out]
        · rw [HS.out, HE.out]
      case measure => simp [intOf]; omega
    · obtain rfl : k = 0 := by omega
      simp only [List.drop_zero] at hfa ⊢
      generalize pt9 by_ xs = s at *
      obtain ⟨q, r⟩ := s
      obtain ⟨hql, hqd, hr0, hv⟩ := hfa
      simp only [List.replicate_zero, List.nil_append] at *
      have hql' : q.length = n := by rw [hql]; exact hn
      have hq1 : x / by_ = val B9 q := by rw [← hval, ← hv, Nat.mul_comm, Nat.mul_add_div h0, Nat.div_eq_of_lt hr0, Nat.add_zero]
      have hq2 : x % by_ = r := by rw [← hval, ← hv, Nat.mul_comm, Nat.mul_add_mod, Nat.mod_eq_of_lt hr0]
      have hr64 : r < 18446744073709551616 := by rw [B9_eq] at hb; omega
      have hr5 : (r : Int) ≤ 1000000000 := by rw [B9_eq] at hb; omega
      have hw1 : IntKind.u64.wrap (r : Int) = (r : Int) := IntWalk.u64_in _ (by omega)
      have HQ2 := Lib.hid hq2
      have HN := Lib.hid hql'
      have HX := Lib.hid hq1
      have HL := Lib.hid hqd
      have HOF := Lib.hid (fun W => rof_c hr64 W)
      clear hr hmk hql hn hql' hv hval hxs hq1 hq2 hqd
      go_wp2_with fail
      obtain ⟨W0, hW0⟩ : ∃ X, X = (((w.alloc (.cells #[.slice A n c] RNat)).alloc (.cells #[.slice none 0 0] RNat)).alloc (.cells #[.slice none 0 0] RNat)).alloc (.cells (ecells .i64 q) 3) := ⟨_, rfl⟩
      have hb1 : Box W0 (w.heap.size + 1) #[.slice none 0 0] RNat := by rw [hW0]; exact (((Box.last2 w _ _ _).alloc _).alloc _)
      have hb2 : Box W0 (w.heap.size + 1 + 1) #[.slice none 0 0] RNat := by rw [hW0]; exact ((Box.last3 w _ _ _ _).alloc _)
      have hb3 : Box W0 (w.heap.size + 1 + 1 + 1) (ecells .i64 q) 3 := by
        rw [hW0]
        have := Box.last (((w.alloc (.cells #[.slice A n c] RNat)).alloc (.cells #[.slice none 0 0] RNat)).alloc (.cells #[.slice none 0 0] RNat)) (ecells .i64 q) 3
        rw [World.size_alloc, World.size_alloc, World.size_alloc] at this
        exact this
      have hnw : New w W0 := by rw [hW0]; exact ((((New.refl w).alloc _).alloc _).alloc _).alloc _
      have hs := Sl.of_block hb3 (by have := HN.out; simp [maxLen]; omega)
      rw [show q.length = n from HN.out] at hs
      rw [← hW0]
      clear hW0
      refine (rtrim_c hs).mono ?_
      rintro e w1 ⟨v1, rfl, h1, h2⟩
      have hv1 := RefV.of_sl h1 HL.out
      rw [← HX.out] at hv1
      have HV1 := Lib.hid hv1
      obtain ⟨A1, l1, c1, e1⟩ := hv1.form
      obtain rfl : v1 = .slice A1 l1 c1 := by simpa using e1
      clear hs h1 hv1 e1 hb3
      go_wp2_with fail
      refine (HOF.out _).mono ?_
      rintro e w2 ⟨v2, rfl, hv2, hn2⟩
      obtain ⟨A2, l2, c2, rfl⟩ := hv2.form
      have hn12 := h2.trans hn2
      have HB1 := Lib.hid (hb1.new hn12)
      have HB2 := Lib.hid (hb2.new hn12)
      have HNW := Lib.hid (hnw.trans hn12)
      have HQ7 := Lib.hid ((HV1.out.new hn2).set2 HB1.out HB2.out (by omega) (by decide) (.slice A1 l1 c1) (.slice A2 l2 c2))
      have HR7 := Lib.hid (hv2.set2 HB1.out HB2.out (by omega) (by decide) (.slice A1 l1 c1) (.slice A2 l2 c2))
      obtain ⟨g4, g5⟩ := r_two_boxes (u := .slice A1 l1 c1) (v := .slice A2 l2 c2) HB1.out HB2.out (by omega)
      obtain ⟨hc4, hf4⟩ := rbox_cell0 HB1.out
      obtain ⟨hc5, hf5⟩ := rbox_cell0 (HB2.out.far (p := w.heap.size + 1) (i := 0) (by omega) (.slice A1 l1 c1))
      obtain ⟨k4, _⟩ := rbox_cell0 g4
      obtain ⟨k5, _⟩ := rbox_cell0 g5
      have HN7 := Lib.hid ((HNW.out.setCell (p := ⟨w.heap.size + 1, 0, none⟩) (by simp; try omega) (.slice A1 l1 c1)).setCell (p := ⟨w.heap.size + 1 + 1, 0, none⟩) (by simp; try omega) (.slice A2 l2 c2))
      clear hb1 hb2 hnw h2 hn2 hn12 hv2 g4 g5
      go_wp2
      refine bodyPost_ret (v := .tuple #[.agg #[.slice A1 l1 c1], .agg #[.slice A2 l2 c2]]) (by simp [results, Tryz.results75, go_sem, k4, k5]) rfl ⟨_, _, rfl, HQ7.out, by rw [HQ2.out]; exact HR7.out, HN7.out⟩
end Go.Proofs.YtkjlmibleoecgaaGreatDoor
