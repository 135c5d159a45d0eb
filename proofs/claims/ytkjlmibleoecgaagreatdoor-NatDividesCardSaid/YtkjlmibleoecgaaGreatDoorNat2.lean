/- The program's nat, part 2: Of, scaled, parted. -/
import Derived.Test.YtkjlmibleoecgaaGreatDoorNat1
namespace Go.Proofs.YtkjlmibleoecgaaGreatDoor
open Go.RowKit

theorem info_u32 : (Tryz.prog.info? 89).map (fun i => (i.zero, i.size, i.bytes)) = some (some (.int .u32 0), 1, 4) := by kernel_rfl
theorem make_u32 (n : Nat) (h : n ≤ 70368744177664) (w : World) : (Instr.makeSlice 24 (.int .i64 (n : Int)) (.int .i64 (n : Int))).run Tryz.prog w = .ok (.slice (some ⟨w.heap.size, 0, none⟩) n n) (w.alloc (.cells (ecells .u32 (List.replicate n 0)) 89)) := by
  rw [← ecells_made]
  exact run_make_row' 24 89 _ 4 (by kernel_rfl) info_u32 rfl .i64 .i64 n (by omega) (by omega) w

set_option maxHeartbeats 800000 in
theorem of_c {n : Nat} (hn : n < 18446744073709551616) (w : World) :
    Calls Tryz.prog 69 #[.int .u64 (n : Int)] w fun e w' => ∃ v, e = .returned v ∧ NatV w' v n ∧ New w w' := by
  have hn' : (n : Int) ≤ 18446744073709551615 := by omega
  clear hn
  go_enter Tryz.func69, Tryz.ntmps69
  go_wp2_with fail
  have hbx := (Box.last w #[.slice none 0 0] 26).alloc (.cells #[.int .u32 ((n : Int) % 4294967296), .int .u32 ((n : Int) / 4294967296)] 89)
  have hrow := Box.last2 w (.cells #[.slice none 0 0] 26) #[.int .u32 ((n : Int) % 4294967296), .int .u32 ((n : Int) / 4294967296)] 89
  have he : #[Value.int .u32 ((n : Int) % 4294967296), Value.int .u32 ((n : Int) / 4294967296)] = ecells .u32 [n % B32, n / B32] := by
    rw [B32_eq]; simp [ecells]
  have hs : Sl 89 .u32 _ (.slice (some ⟨w.heap.size + 1, 0, none⟩) 2 2) [n % B32, n / B32] := Sl.of_block (by rw [← he]; exact hrow) (by simp [maxLen])
  clear he hrow
  refine (trimmed_c hs).mono ?_
  rintro e w1 ⟨v, rfl, h1, h2⟩
  have hb1 := hbx.new h2
  have hc : w1.cell? ⟨w.heap.size, 0, none⟩ = some (.slice none 0 0) := hb1.cell 0
  have hf := hb1.frozen 0
  have hv : NatV w1 (.agg #[v]) n := by
    refine ⟨v, rfl, ?_⟩
    rw [← dg_of B32_2 (xs := [n % B32, n / B32])] at h1
    · have : val B32 [n % B32, n / B32] = n := by simp only [val, Nat.mul_zero, Nat.add_zero]; have := Nat.div_add_mod n B32; omega
      rw [this] at h1; exact h1
    · intro d hd
      rw [B32_eq] at *
      simp at hd; omega
  obtain ⟨A1, l1, c1, e1⟩ := hv.form
  obtain rfl : v = .slice A1 l1 c1 := by simpa using e1
  have HB := Lib.hid hb1
  clear hs hbx h1 hb1 e1
  go_wp2
  refine bodyPost_ret (v := .agg #[.slice A1 l1 c1]) (by simp [results, Tryz.results69, go_sem, hc]) rfl ⟨_, rfl, hv.set HB.out (by decide) _, ?_⟩
  exact ((((New.refl w).alloc _).alloc _).trans h2).setCell (Nat.le_refl _) _

/-- One round of 'scaled': the digit and the carry. -/
def scStep (by_ : Nat) (s : List Nat × Nat) (x : Nat) : List Nat × Nat := (s.1 ++ [(s.2 + x * by_) % B32], (s.2 + x * by_) / B32)
def scAll (by_ more : Nat) (xs : List Nat) : List Nat × Nat := xs.foldl (scStep by_) ([], more)
theorem scAll_snoc (by_ more : Nat) (xs : List Nat) (x : Nat) : scAll by_ more (xs ++ [x]) = scStep by_ (scAll by_ more xs) x := by simp [scAll]
theorem scAll_facts {by_ more : Nat} (hb : by_ < B32) (hm : more < B32) (n : Nat) : ∀ xs : List Nat, xs.length = n → (∀ d ∈ xs, d < B32) →
    (scAll by_ more xs).1.length = xs.length ∧ (∀ d ∈ (scAll by_ more xs).1, d < B32) ∧ (scAll by_ more xs).2 < B32 ∧ val B32 (scAll by_ more xs).1 + B32 ^ xs.length * (scAll by_ more xs).2 = val B32 xs * by_ + more := by
  induction n with
  | zero => intro xs hn h; rw [List.length_eq_zero_iff.1 hn]; simp [scAll, val, hm]
  | succ n ih =>
    intro xs hn h
    rcases List.eq_nil_or_concat xs with rfl | ⟨l, x, rfl⟩
    · cases hn
    · rw [List.concat_eq_append] at *
      obtain ⟨h1, h2, h3, h4⟩ := ih l (by simpa using hn) (fun d hd => h d (by simp [hd]))
      have hx := h x (by simp)
      rw [scAll_snoc]
      generalize scAll by_ more l = s at *
      obtain ⟨ds, c⟩ := s
      simp only [scStep] at *
      have hc : (c + x * by_) / B32 < B32 := by
        rw [Nat.div_lt_iff_lt_mul (by rw [B32_eq]; omega)]
        have : x * by_ ≤ (B32 - 1) * (B32 - 1) := Nat.mul_le_mul (by omega) (by omega)
        rw [B32_eq] at *; omega
      refine ⟨by simp [h1], ?_, hc, ?_⟩
      · intro d hd
        rcases List.mem_append.1 hd with hd | hd
        · exact h2 d hd
        · simp at hd; subst hd; exact Nat.mod_lt _ (by rw [B32_eq]; omega)
      · rw [val_snoc, val_snoc, List.length_append, List.length_singleton, Nat.pow_succ, h1]
        have e := Nat.div_add_mod (c + x * by_) B32
        have e2 : B32 ^ l.length * ((c + x * by_) % B32) + B32 ^ l.length * B32 * ((c + x * by_) / B32) = B32 ^ l.length * (c + x * by_) := by
          rw [Nat.mul_assoc, ← Nat.mul_add, Nat.add_comm, e]
        rw [Nat.add_assoc, e2, Nat.mul_add, ← Nat.add_assoc, h4, Nat.add_mul, Nat.mul_assoc]; omega
theorem sc_le {by_ : Nat} (hb : by_ < B32) (c x : Nat) (hc : c < B32) (hx : x < B32) : (c : Int) + (x : Int) * (by_ : Int) ≤ 18446744073709551615 := by
  have h1 : x * by_ ≤ (B32 - 1) * (B32 - 1) := Nat.mul_le_mul (by omega) (by omega)
  have h2 : ((x * by_ : Nat) : Int) = (x : Int) * (by_ : Int) := by exact Int.natCast_mul _ _
  rw [← h2]; rw [B32_eq] at *; omega

set_option maxHeartbeats 1000000 in
theorem scaled_c {x by_ more : Nat} {v : Value} {w : World} (h : NatV w v x) (hb : by_ < B32) (hm : more < B32) (hl : (dg B32 x).length ≤ 1099511627776) :
    Calls Tryz.prog 107 #[v, .int .u32 (by_ : Int), .int .u32 (more : Int)] w fun e w' => ∃ v, e = .returned v ∧ NatV w' v (x * by_ + more) ∧ New w w' := by
  obtain ⟨u, rfl, A, c, rfl, hc, hmax, hr⟩ := h
  have hxs := dg_lt B32_2 x
  have hval := dg_val B32_2 x
  generalize dg B32 x = xs at *
  generalize hn : xs.length = n at *
  have hmk := make_u32 (n + 1) (by omega)
  rw [show ((n + 1 : Nat) : Int) = (n : Int) + 1 from by omega] at hmk
  have hby : (by_ : Int) ≤ 4294967295 := by rw [B32_eq] at hb; omega
  have hmo : (more : Int) ≤ 4294967295 := by rw [B32_eq] at hm; omega
  go_enter Tryz.func107, Tryz.ntmps107
  go_wp2
  go_loopw [8, 9, 10, 21] (fun c8 _ _ i w' => ∃ k : Nat, k ≤ n ∧ i = .int .i64 (k : Int) ∧ c8 = .int .u64 ((scAll by_ more (xs.take k)).2 : Nat) ∧
    w' = ((w.alloc (.cells #[.slice A n c] 26)).alloc (.cells #[.slice none 0 0] 26)).alloc (.cells (ecells .u32 ((scAll by_ more (xs.take k)).1 ++ List.replicate (n + 1 - k) 0)) 89)) (fun _ _ _ i _ => n - (intOf i).toNat)
  case atStart => exact ⟨0, by omega, rfl, rfl, rfl⟩
  case round =>
    obtain ⟨k, hk, rfl, rfl, rfl⟩ := hrel
    have hfa := scAll_facts hb hm k (xs.take k) (by rw [List.length_take]; omega) (fun d hd => hxs d (List.mem_of_mem_take hd))
    by_cases hlt : k < n
    · obtain ⟨b, o, C, fr, rfl, hbl, hcell⟩ := hr k hlt
      have hb0 := lt_of_block hbl
      have hstep : scAll by_ more (xs.take (k + 1)) = scStep by_ (scAll by_ more (xs.take k)) (xs.getD k 0) := by
        rw [take_succ_getD 0 (by omega), scAll_snoc]
      have hx : xs.getD k 0 < B32 := hxs _ (getD_mem (by omega))
      generalize hxk : xs.getD k 0 = d at *
      generalize scAll by_ more (xs.take k) = s at *
      obtain ⟨ds, c0⟩ := s
      simp only [scStep] at *
      obtain ⟨hdl, -, hc0, -⟩ := hfa
      have hdl' : ds.length = k := by rw [hdl, List.length_take]; omega
      have hle := sc_le hb c0 d hc0 hx
      have hw0 : IntKind.u64.wrap (d : Int) = (d : Int) := IntWalk.u64_in _ (by rw [B32_eq] at hx; omega)
      have hw1 : IntKind.u64.wrap ((d : Int) * (by_ : Int)) = (d : Int) * (by_ : Int) := IntWalk.u64_in _ (by have : (0 : Int) ≤ (d : Int) * (by_ : Int) := Int.mul_nonneg (by omega) (by omega); omega)
      have hw2 : IntKind.u64.wrap ((c0 : Int) + (d : Int) * (by_ : Int)) = (c0 : Int) + (d : Int) * (by_ : Int) := IntWalk.u64_in _ (by have : (0 : Int) ≤ (d : Int) * (by_ : Int) := Int.mul_nonneg (by omega) (by omega); omega)
      have hck : (ecells .u32 (ds ++ List.replicate (n + 1 - k) 0))[k]? = some (.int .u32 0) := by
        rw [ecells_get _ (by simp; omega)]
        simp [List.getD_eq_getElem?_getD, hdl', show 0 < n + 1 - k from by omega]
      have hset : (ecells .u32 (ds ++ List.replicate (n + 1 - k) 0)).setIfInBounds k (.int .u32 (((c0 : Int) + (d : Int) * (by_ : Int)) % 4294967296)) = ecells .u32 ((ds ++ [(c0 + d * by_) % B32]) ++ List.replicate (n + 1 - (k + 1)) 0) := by
        rw [show ((c0 : Int) + (d : Int) * (by_ : Int)) % 4294967296 = (((c0 + d * by_) % B32 : Nat) : Int) from by rw [cast_mod, cast_mad], ecells_set, ← hdl', show n + 1 - ds.length = (n + 1 - (ds.length + 1)) + 1 from by omega, List.replicate_succ]
        simp
      have hc8 : ((c0 : Int) + (d : Int) * (by_ : Int)) / 4294967296 = (((c0 + d * by_) / B32 : Nat) : Int) := by rw [cast_div, cast_mad]
      generalize ecells .u32 (ds ++ List.replicate (n + 1 - k) 0) = EC at *
      have HS := Lib.hid hstep
      have HE := Lib.hid hset
      have H8 := Lib.hid hc8
      have HV := Lib.hid hval
      have HX := Lib.hid hxk
      have HN := Lib.hid hn
      have HD := Lib.hid hdl'
      have hc3 := fun o1 o2 o3 => (((New.refl w).alloc o1).alloc o2).alloc o3 |>.still hcell
      clear hr hmk hdl hcell hstep hset hc8 hval hxk hn hdl' hbl hxs
      go_wp2
      go_roundw
      case rel =>
        refine ⟨k + 1, by omega, by go_num, ?_, ?_⟩
        · rw [HS.out, H8.out]
        · rw [HS.out, HE.out]
      case measure => simp [intOf]; omega
    · obtain rfl : k = n := by omega
      rw [List.take_of_length_le (by omega)] at hfa ⊢
      generalize scAll by_ more xs = s at *
      obtain ⟨ds, c0⟩ := s
      obtain ⟨hdl, hds, hc0, hv⟩ := hfa
      simp only at *
      have hdl' : ds.length = k := by rw [hdl]; exact hn
      have hck : (ecells .u32 (ds ++ List.replicate (k + 1 - k) 0))[k]? = some (.int .u32 0) := by
        rw [ecells_get _ (by simp; omega)]
        simp [List.getD_eq_getElem?_getD, hdl']
      have hset : (ecells .u32 (ds ++ List.replicate (k + 1 - k) 0)).setIfInBounds k (.int .u32 ((c0 : Int) % 4294967296)) = ecells .u32 (ds ++ [c0]) := by
        rw [show ((c0 : Int)) % 4294967296 = (c0 : Int) from by rw [B32_eq] at hc0; omega, ecells_set, ← hdl', show ds.length + 1 - ds.length = 1 from by omega]
        simp
      generalize ecells .u32 (ds ++ List.replicate (k + 1 - k) 0) = EC at *
      have HE := Lib.hid hset
      have HN := Lib.hid hn
      have HD := Lib.hid hdl'
      have HV := Lib.hid hv
      have HX := Lib.hid hval
      have HL := Lib.hid hds
      clear hr hmk hdl hset hn hdl' hv hval hds hxs
      go_wp2_with fail
      rw [HE.out]
      have hbx := ((Box.last (w.alloc (.cells #[.slice A k c] 26)) #[.slice none 0 0] 26)).alloc (.cells (ecells .u32 (ds ++ [c0])) 89)
      have hrow := Box.last3 w (.cells #[.slice A k c] 26) (.cells #[.slice none 0 0] 26) (ecells .u32 (ds ++ [c0])) 89
      have hs := Sl.of_block hrow (by have := HD.out; simp [maxLen]; omega)
      rw [show (ds ++ [c0]).length = k + 1 from by simp [HD.out]] at hs
      refine (trimmed_c hs).mono ?_
      rintro e w1 ⟨v, rfl, h1, h2⟩
      have hb1 := hbx.new h2
      have hcx : w1.cell? ⟨w.heap.size + 1, 0, none⟩ = some (.slice none 0 0) := by have := hb1.cell 0; simpa using this
      have hfx : w1.frozen? ⟨w.heap.size + 1, 0, none⟩ = false := by have := hb1.frozen 0; simpa using this
      have hv : NatV w1 (.agg #[v]) (x * by_ + more) := by
        refine ⟨v, rfl, ?_⟩
        rw [← HX.out, ← HV.out, HN.out, ← HD.out, ← val_snoc, dg_of B32_2]
        · exact h1
        · intro d hd
          rcases List.mem_append.1 hd with hd | hd
          · exact HL.out d hd
          · simp at hd; subst hd; exact hc0
      obtain ⟨A1, l1, c1, e1⟩ := hv.form
      obtain rfl : v = .slice A1 l1 c1 := by simpa using e1
      have HB := Lib.hid hb1
      clear hs hbx h1 hb1 e1 hrow
      go_wp2
      refine bodyPost_ret (v := .agg #[.slice A1 l1 c1]) (by simp [results, Tryz.results107, go_sem, hcx]) rfl ⟨_, rfl, hv.set (by simpa using HB.out) (by decide) _, ?_⟩
      exact (((((New.refl w).alloc _).alloc _).alloc _).trans h2).setCell (by simp) _
/-- What is known behind the last call of a function whose result lies in a cell. -/
theorem at_end {w W w1 : World} {p : Nat} {C : Array Value} (hb : Box W p C 26) (hW : New w W) (hp : w.heap.size ≤ p) (h : New W w1) :
    Box w1 p C 26 ∧ (∀ u, New w (w1.setCell ⟨p, 0, none⟩ u)) ∧ (∀ v n u, NatV w1 v n → NatV (w1.setCell ⟨p, 0, none⟩ u) v n) :=
  ⟨hb.new h, fun _ => (hW.trans h).setCell hp _, fun _ _ u hv => hv.set (hb.new h) (by decide) u⟩
theorem nat_of {w : World} {v : Value} {xs : List Nat} {n : Nat} (h : Sl 89 .u32 w v (trim xs)) (hd : ∀ d ∈ xs, d < B32) (hn : val B32 xs = n) : NatV w (.agg #[v]) n :=
  ⟨v, rfl, by rw [← hn, dg_of B32_2 hd]; exact h⟩

/-- 'parted', from the top: digits of the quotient, the remainder. -/
def pt (by_ : Nat) : List Nat → List Nat × Nat
  | [] => ([], 0)
  | x :: r => (((pt by_ r).2 * B32 + x) / by_ :: (pt by_ r).1, ((pt by_ r).2 * B32 + x) % by_)
theorem pt_facts {by_ : Nat} (h0 : 0 < by_) (hb : by_ < B32) : ∀ xs : List Nat, (∀ d ∈ xs, d < B32) →
    (pt by_ xs).1.length = xs.length ∧ (∀ d ∈ (pt by_ xs).1, d < B32) ∧ (pt by_ xs).2 < by_ ∧ val B32 (pt by_ xs).1 * by_ + (pt by_ xs).2 = val B32 xs
  | [], _ => by simp [pt, val, h0]
  | x :: r, h => by
    obtain ⟨h1, h2, h3, h4⟩ := pt_facts h0 hb r (fun d hd => h d (List.mem_cons_of_mem _ hd))
    have hx := h x (List.mem_cons_self ..)
    simp only [pt]
    generalize pt by_ r = s at *
    obtain ⟨q, c⟩ := s
    simp only at *
    refine ⟨by simp [h1], ?_, Nat.mod_lt _ h0, ?_⟩
    · intro d hd
      rcases List.mem_cons.1 hd with rfl | hd
      · rw [Nat.div_lt_iff_lt_mul h0]
        have : (c + 1) * B32 ≤ by_ * B32 := Nat.mul_le_mul_right _ h3
        rw [Nat.add_mul, Nat.mul_comm by_] at this
        omega
      · exact h2 d hd
    · simp only [val]
      have e := Nat.div_add_mod (c * B32 + x) by_
      rw [Nat.mul_comm by_] at e
      rw [Nat.add_mul, ← h4, Nat.mul_add, ← Nat.mul_assoc, Nat.mul_comm B32 c]
      omega
theorem or_u64 {c x : Nat} (hc : c < B32) (hx : x < B32) : Go.bits .or .u64 ((c : Int) * 4294967296) (x : Int) = ((c * B32 + x : Nat) : Int) := by
  rw [B32_eq] at *
  have h := Nat.two_pow_add_eq_or_of_lt (i := 32) (b := x) (by omega) c
  have e : ((c : Int) * 4294967296) = ((2 ^ 32 * c : Nat) : Int) := by omega
  rw [e, u64_or_nat _ _ (by omega) (by omega), ← h, Nat.mul_comm]
theorem pt_drop {by_ k : Nat} {xs : List Nat} (h0 : 0 < k) (hk : k ≤ xs.length) : pt by_ (xs.drop (k - 1)) = (((pt by_ (xs.drop k)).2 * B32 + xs.getD (k - 1) 0) / by_ :: (pt by_ (xs.drop k)).1, ((pt by_ (xs.drop k)).2 * B32 + xs.getD (k - 1) 0) % by_) := by
  rw [List.drop_eq_getElem_cons (by omega : k - 1 < xs.length), getD_lt (by omega), show k - 1 + 1 = k from by omega]; rfl

set_option maxHeartbeats 1000000 in
theorem parted_c {x by_ : Nat} {v : Value} {w : World} (h : NatV w v x) (h0 : 0 < by_) (hb : by_ < B32) (hl : (dg B32 x).length ≤ 1099511627776) :
    Calls Tryz.prog 68 #[v, .int .u32 (by_ : Int)] w fun e w' => ∃ v, e = .returned (.tuple #[v, .int .u32 ((x % by_ : Nat) : Int)]) ∧ NatV w' v (x / by_) ∧ New w w' := by
  obtain ⟨u, rfl, A, c, rfl, hc, hmax, hr⟩ := h
  have hxs := dg_lt B32_2 x
  have hval := dg_val B32_2 x
  generalize dg B32 x = xs at *
  generalize hn : xs.length = n at *
  have hmk := make_u32 n (by omega)
  have hby : (by_ : Int) ≤ 4294967295 := by rw [B32_eq] at hb; omega
  have hby0 : 0 < (by_ : Int) := by omega
  have hw0 : IntKind.u64.wrap (by_ : Int) = (by_ : Int) := IntWalk.u64_in _ (by omega)
  go_enter Tryz.func68, Tryz.ntmps68
  go_wp2
  go_loopw [7, 8] (fun c7 i w' => ∃ k : Nat, k ≤ n ∧ i = .int .i64 ((k : Int) - 1) ∧ c7 = .int .u64 ((pt by_ (xs.drop k)).2 : Nat) ∧
    w' = ((w.alloc (.cells #[.slice A n c] 26)).alloc (.cells #[.slice none 0 0] 26)).alloc (.cells (ecells .u32 (List.replicate k 0 ++ (pt by_ (xs.drop k)).1)) 89)) (fun _ i _ => (intOf i + 1).toNat)
  case atStart => exact ⟨n, Nat.le_refl _, rfl, by rw [List.drop_of_length_le (by omega)]; rfl, by rw [List.drop_of_length_le (by omega)]; simp [pt]⟩
  case round =>
    obtain ⟨k, hk, rfl, rfl, rfl⟩ := hrel
    have hfa := pt_facts h0 hb (xs.drop k) (fun d hd => hxs d (List.mem_of_mem_drop hd))
    by_cases hlt : 0 < k
    · obtain ⟨b, o, C, fr, rfl, hbl, hcell⟩ := hr (k - 1) (by omega)
      have hstep := pt_drop (by_ := by_) hlt (by omega : k ≤ xs.length)
      have hx : xs.getD (k - 1) 0 < B32 := hxs _ (getD_mem (by omega))
      generalize hxk : xs.getD (k - 1) 0 = d at *
      generalize pt by_ (xs.drop k) = s at *
      obtain ⟨q, r⟩ := s
      obtain ⟨hql, -, hr0, -⟩ := hfa
      simp only at *
      have hr32 : r < B32 := by omega
      have hw1 : IntKind.u64.wrap ((r : Int) * 4294967296) = (r : Int) * 4294967296 := IntWalk.u64_in _ (by rw [B32_eq] at hr32; omega)
      have hw2 : IntKind.u64.wrap (d : Int) = (d : Int) := IntWalk.u64_in _ (by rw [B32_eq] at hx; omega)
      have hor := or_u64 hr32 hx
      obtain ⟨z, hz⟩ : ∃ z : Nat, z = r * B32 + d := ⟨_, rfl⟩
      rw [← hz] at hor hstep
      have hz64 : (z : Int) ≤ 18446744073709551615 := by rw [hz, B32_eq] at *; omega
      have hqz : z / by_ < B32 := by
        rw [Nat.div_lt_iff_lt_mul h0, hz]
        have : (r + 1) * B32 ≤ by_ * B32 := Nat.mul_le_mul_right _ hr0
        rw [Nat.add_mul, Nat.mul_comm by_] at this
        omega
      have hq : Int.tdiv (z : Int) (by_ : Int) = ((z / by_ : Nat) : Int) := by rw [Int.tdiv_eq_ediv_of_nonneg (by omega)]; exact (Int.natCast_ediv _ _).symm
      have hm : Int.tmod (z : Int) (by_ : Int) = ((z % by_ : Nat) : Int) := by rw [Int.tmod_eq_emod_of_nonneg (by omega)]; exact (Int.natCast_emod _ _).symm
      generalize z / by_ = qd at *
      generalize z % by_ = rd at *
      have hw3 : IntKind.u64.wrap ((qd : Nat) : Int) = ((qd : Nat) : Int) := IntWalk.u64_in _ (by rw [B32_eq] at hqz; omega)
      have hck : (ecells .u32 (List.replicate k 0 ++ q))[k - 1]? = some (.int .u32 0) := by
        rw [ecells_get _ (by simp; omega)]
        simp [List.getD_eq_getElem?_getD, List.getElem?_append, show k - 1 < k from by omega]
      have hset : (ecells .u32 (List.replicate k 0 ++ q)).setIfInBounds (k - 1) (.int .u32 ((qd : Int) % 4294967296)) = ecells .u32 (List.replicate (k - 1) 0 ++ (qd :: q)) := by
        rw [show (qd : Int) % 4294967296 = (qd : Int) from by rw [B32_eq] at hqz; omega, ecells_set]
        congr 1
        obtain ⟨j, rfl⟩ : ∃ j, k = j + 1 := ⟨k - 1, by omega⟩
        rw [Nat.add_sub_cancel, List.replicate_succ', List.append_assoc, List.set_append_right _ _ (by simp)]
        simp
      generalize ecells .u32 (List.replicate k 0 ++ q) = EC at *
      have hc3 := fun o1 o2 o3 => (((New.refl w).alloc o1).alloc o2).alloc o3 |>.still hcell
      have hi : ((k : Int) - 1).toNat = k - 1 := by omega
      have HS := Lib.hid hstep
      have HE := Lib.hid hset
      have HZ := Lib.hid hz
      have HQ := Lib.hid hqz
      have HV := Lib.hid hval
      have HX := Lib.hid hxk
      have HN := Lib.hid hn
      clear hr hmk hql hcell hstep hset hval hxk hn hbl hxs hz hqz
      go_wp2
      go_roundw
      case rel =>
        refine ⟨k - 1, by omega, by rw [show ((k - 1 : Nat) : Int) = (k : Int) - 1 from by omega], ?_, ?_⟩
        · rw [HS.out]
        · rw [HS.out, HE.out]
      case measure => simp [intOf]; omega
    · obtain rfl : k = 0 := by omega
      simp only [List.drop_zero] at hfa ⊢
      generalize pt by_ xs = s at *
      obtain ⟨q, r⟩ := s
      obtain ⟨hql, hqd, hr0, hv⟩ := hfa
      simp only [List.replicate_zero, List.nil_append] at *
      have hql' : q.length = n := by rw [hql]; exact hn
      have hq1 : x / by_ = val B32 q := by rw [← hval, ← hv, Nat.mul_comm, Nat.mul_add_div h0, Nat.div_eq_of_lt hr0, Nat.add_zero]
      have hq2 : x % by_ = r := by rw [← hval, ← hv, Nat.mul_comm, Nat.mul_add_mod, Nat.mod_eq_of_lt hr0]
      have hr5 : (r : Int) % 4294967296 = (r : Int) := by rw [B32_eq] at hb; omega
      have HQ2 := Lib.hid hq2
      have HN := Lib.hid hql'
      have HX := Lib.hid hq1
      have HL := Lib.hid hqd
      clear hr hmk hql hn hql' hv hval hxs hq1 hq2 hqd
      go_wp2_with fail
      have hbx := ((Box.last (w.alloc (.cells #[.slice A n c] 26)) #[.slice none 0 0] 26)).alloc (.cells (ecells .u32 q) 89)
      have hs := Sl.of_block (Box.last3 w (.cells #[.slice A n c] 26) (.cells #[.slice none 0 0] 26) (ecells .u32 q) 89) (by have := HN.out; simp [maxLen]; omega)
      rw [show q.length = n from HN.out] at hs
      refine (trimmed_c hs).mono ?_
      rintro e w1 ⟨v, rfl, h1, h2⟩
      obtain ⟨hb1, he1, he2⟩ := at_end (by simpa using hbx) ((((New.refl w).alloc _).alloc _).alloc _) (by omega) h2
      have hcx : w1.cell? ⟨w.heap.size + 1, 0, none⟩ = some (.slice none 0 0) := hb1.cell 0
      have hfx := hb1.frozen 0
      have HE2 := Lib.hid he2
      have hv := nat_of h1 HL.out HX.out.symm
      obtain ⟨A1, l1, c1, e1⟩ := hv.form
      obtain rfl : v = .slice A1 l1 c1 := by simpa using e1
      clear hs hbx h1 hb1 e1 he2
      go_wp2
      refine bodyPost_ret (v := .tuple #[.agg #[.slice A1 l1 c1], .int .u32 (r : Int)]) (by simp [results, Tryz.results68, go_sem, hcx]) rfl ⟨_, by rw [HQ2.out], HE2.out _ _ _ hv, he1 _⟩
end Go.Proofs.YtkjlmibleoecgaaGreatDoor
