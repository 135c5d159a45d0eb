/- Joining texts: both roads walked; the bound. -/
import Derived.Test.YteopdmifgdcghaaDoorW3
namespace Go.Proofs.YteopdmifgdcghaaDoor
set_option linter.unusedSimpArgs false
set_option linter.unusedVariables false
open Go.RowKit
def bys (xs : List ByteArray) : List (List UInt8) := xs.map fun s => s.data.toList
/-- Texts joined by blanks. -/
def joinS (xs : List ByteArray) : ByteArray := mkB (joinL 32 (bys xs))
theorem joinL_snoc (c : UInt8) : ∀ (ps : List (List UInt8)) (p : List UInt8), ps ≠ [] → joinL c (ps ++ [p]) = joinL c ps ++ c :: p
  | [], _, h => absurd rfl h
  | [q], p, _ => rfl
  | q :: r :: ps, p, _ => by
    have ih := joinL_snoc c (r :: ps) p (by simp)
    rw [List.cons_append, joinL_cons _ _ (by simp), ih, show joinL c (q :: r :: ps) = q ++ c :: joinL c (r :: ps) from rfl, List.append_assoc]
    rfl
theorem join_lib : ∀ ps : List (List UInt8), Lib.join ps [32] = joinL 32 ps
  | [] => rfl
  | [p] => Lib.join_one p _
  | p :: q :: ps => by
    have ih := join_lib (q :: ps)
    rw [joinL_cons _ _ (by simp), ← ih, Lib.join_cons, Lib.join_cons]
    simp [Lib.joinTail]
theorem joinS_parts (s : ByteArray) : joinS (parts s) = s := by
  unfold joinS
  have e : bys (parts s) = splitL 32 s.data.toList := by
    unfold bys parts
    rw [List.map_map]
    conv => rhs; rw [← List.map_id (splitL 32 s.data.toList)]
    rfl
  rw [e, join_split]
  cases s
  rfl
def total (xs : List ByteArray) : Nat := (xs.map (·.size)).sum
theorem joinL_len (c : UInt8) : ∀ ps : List (List UInt8), (joinL c ps).length ≤ (ps.map List.length).sum + ps.length
  | [] => by simp [joinL]
  | [p] => by simp [joinL]
  | p :: q :: ps => by
    have ih := joinL_len c (q :: ps)
    rw [joinL_cons _ _ (by simp)]
    simp only [List.length_append, List.length_cons, List.map_cons, List.sum_cons] at ih ⊢
    omega
theorem joinS_size (xs : List ByteArray) : (joinS xs).size ≤ total xs + xs.length := by
  have := joinL_len 32 (bys xs)
  have e : ((bys xs).map List.length).sum = total xs := by
    unfold bys total
    rw [List.map_map]
    congr 1
  rw [e] at this
  unfold joinS mkB
  rw [size_mk]
  unfold bys at this
  rw [List.length_map] at this
  exact this
def wt (s : ByteArray) : Nat := min s.size 1048576
def sw (xs : List ByteArray) : Nat := (xs.map wt).sum
theorem sw_total : ∀ xs : List ByteArray, sw xs ≤ 1048575 → total xs = sw xs
  | [], _ => rfl
  | x :: xs, h => by
    have e : sw (x :: xs) = wt x + sw xs := by simp [sw]
    have e2 : total (x :: xs) = x.size + total xs := by simp [total]
    have ih := sw_total xs (by omega)
    rw [e2, e, ih]
    unfold wt at *
    omega
theorem sw_take {xs : List ByteArray} {k : Nat} (h : k < xs.length) : sw (xs.take (k + 1)) = sw (xs.take k) + wt xs[k] := by
  unfold sw
  rw [List.take_succ_eq_append_getElem h, List.map_append, List.sum_append]
  simp
/-- What the bound leaves. -/
def HvPost (xs : List ByteArray) (e : Ending) : Prop := ∃ b, e = .returned (.bool b) ∧ (b = false → xs.length + total xs ≤ 16384)
theorem hv_mk {xs : List ByteArray} {n : Nat} (h : n = xs.length + sw xs) {b : Bool} (hb : b = decide (16384 < (n : Int))) : HvPost xs (.returned (.bool b)) := by
  refine ⟨b, rfl, fun e => ?_⟩
  rw [e] at hb
  have := of_decide_eq_false hb.symm
  have h2 := sw_total xs (by omega)
  omega
theorem hv_yes {xs : List ByteArray} : HvPost xs (.returned (.bool true)) := ⟨true, rfl, fun e => by cases e⟩
set_option maxRecDepth 100000 in
set_option maxHeartbeats 2000000 in
theorem heavy_c (xs : List ByteArray) (v : Value) (w : World) (h : SlE Value.string w v xs) (hs : ∀ s ∈ xs, s.size ≤ maxLen) : Calls Tryd.prog 8 #[v] w fun e w' => HvPost xs e ∧ w = w' := by
  obtain ⟨A, c, rfl, a1, a2, ha⟩ := id h
  have HA := Lib.hid ha
  have HS := Lib.hid hs
  have hl : (xs.length : Int) ≤ 9223372036854775807 := by unfold maxLen at a2; omega
  clear h ha hs a1 a2
  go_enter Tryd.func8, Tryd.ntmps8
  go_wp2
  go_loopw [3, 4] (fun v3 v4 w' => ∃ (n k : Nat), v3 = .int .i64 (n : Int) ∧ v4 = .int .i64 (k : Int) ∧ k ≤ xs.length ∧ (n : Int) ≤ 9223372036854775807 ∧ Hid (n = xs.length + sw (xs.take k)) ∧ Hid (w' = w)) (fun _ v4 _ => xs.length - (intOf v4).toNat)
  case atStart => exact ⟨xs.length, 0, rfl, rfl, Nat.zero_le _, hl, (show xs.length = xs.length + sw (xs.take 0) by simp [sw]), rfl⟩
  case round =>
    obtain ⟨n, k, rfl, rfl, hk, hn, HN, HW⟩ := hrel
    obtain rfl := HW.out
    by_cases hkl : k < xs.length
    · by_cases hn2 : (n : Int) ≤ 16384
      · obtain ⟨b, o, rfl, hlt, hcell⟩ := HA.out k hkl
        have hst := sw_take hkl
        have hsz := HS.out _ (List.getElem_mem hkl)
        generalize xs[k] = s at *
        unfold maxLen at hsz
        have hcases : ((s.size : Int) < 1048576 ∧ wt s = s.size) ∨ (1048576 ≤ (s.size : Int) ∧ wt s = 1048576) := by unfold wt; omega
        rcases hcases with ⟨hc, hw⟩ | ⟨hc, hw⟩
        · have HE : Hid (n + s.size = xs.length + sw (xs.take (k + 1))) := Lib.hid (by have := HN.out; rw [hst, hw]; omega)
          clear hst hw
          go_wp2
          go_roundw
          case rel => exact ⟨n + s.size, k + 1, by go_num, by go_num, by omega, by omega, HE.out, Lib.hid trivial⟩
          case measure => simp [intOf]; omega
        · have HE : Hid (n + 1048576 = xs.length + sw (xs.take (k + 1))) := Lib.hid (by have := HN.out; rw [hst, hw]; omega)
          clear hst hw
          go_wp2
          go_roundw
          case rel => exact ⟨n + 1048576, k + 1, by go_num, by go_num, by omega, by omega, HE.out, Lib.hid trivial⟩
          case measure => simp [intOf]; omega
      · have hn3 : (16384 : Int) < (n : Int) := by omega
        go_wp2
        go_ret
        exact ⟨hv_yes, rfl⟩
    · obtain rfl : k = xs.length := by omega
      have HE : Hid (n = xs.length + sw xs) := Lib.hid (by have := HN.out; rwa [List.take_length] at this)
      by_cases hn2 : (n : Int) ≤ 16384
      · go_wp2
        go_ret
        exact ⟨hv_mk HE.out (by first | rfl | simp; omega | (rw [decide_eq_false (by omega)])), rfl⟩
      · have hn3 : (16384 : Int) < (n : Int) := by omega
        go_wp2
        go_ret
        exact ⟨hv_yes, rfl⟩
theorem run_str0 {P : Program} {w : World} {src dst E B : Nat} {v : Value} {l : List UInt8} (hs : P.underlying src = some (.slice E)) (he : P.underlying E = some (.int .u8)) (hd : P.underlying dst = some .string)
    (h : OwnE u8 E B w v l) : (convert src dst v).run P w = .ok (.string (mkB l)) w := by
  by_cases h0 : l = []
  · subst h0
    rcases h.2 with ⟨rfl, _⟩ | ⟨g, cap, cur, rfl, _⟩
    · rw [run_convert_bytes_string w src dst E _ _ _ hs he hd]
      simp [Conv.bytesToString]
      rfl
    · exact run_convert_bytes_back w src dst E ⟨g, 0, none⟩ cap [] hs he hd fun j hj => by cases hj
  · exact run_str w src dst E v l hs he hd h.sl h0
theorem own_len {α : Type} {enc : α → Value} {E : TypeId} {B : Nat} {w : World} {A : Option Addr} {n c : Nat} {xs : List α} (h : OwnE enc E B w (.slice A n c) xs) : n = xs.length := by
  obtain ⟨A', c', e, h1, h2, h3⟩ := h.sl
  injection e
theorem info5 : (Tryd.prog.info? 5).map (fun i => (i.zero, i.size, i.bytes)) = some (some (.int .u8 0), 1, 1) := by kernel_rfl
theorem bys_take {xs : List ByteArray} {k : Nat} (h : k < xs.length) : joinL 32 (bys (xs.take (k + 1))) = (if k = 0 then xs[k].data.toList else (joinL 32 (bys (xs.take k)) ++ [32]) ++ xs[k].data.toList) := by
  unfold bys
  rw [List.take_succ_eq_append_getElem h, List.map_append]
  by_cases hk : k = 0
  · subst hk
    rfl
  · rw [if_neg hk, List.map_cons, List.map_nil, joinL_snoc _ _ _ (by
      intro e
      have := congrArg List.length e
      rw [List.length_map, List.length_take, List.length_nil] at this
      omega), List.append_assoc]
    rfl
theorem total_take (xs : List ByteArray) (k : Nat) : total (xs.take k) ≤ total xs := by
  unfold total
  rw [List.map_take]
  conv => rhs; rw [← List.take_append_drop k (xs.map (·.size))]
  rw [List.sum_append]
  omega
theorem joinL_take (xs : List ByteArray) (k : Nat) : (joinL 32 (bys (xs.take k))).length ≤ total xs + xs.length := by
  have h1 := joinS_size (xs.take k)
  have h2 := total_take xs k
  unfold joinS mkB at h1
  rw [size_mk, List.length_take] at h1
  omega
set_option maxRecDepth 100000 in
set_option maxHeartbeats 2000000 in
theorem rjoin_c (xs : List ByteArray) (v : Value) (w : World) (h : SlE Value.string w v xs) (hb : xs.length + total xs ≤ 16384) : Calls Tryd.prog 9 #[v] w fun e w' => e = .returned (.string (joinS xs)) ∧ New w w' := by
  obtain ⟨A, c, rfl, a1, a2, ha⟩ := id h
  have HA := Lib.hid ha
  have HJ := Lib.hid (joinL_take xs)
  have HB := Lib.hid hb
  have hl : (xs.length : Int) ≤ 16384 := by omega
  clear h ha a1 a2 hb
  go_enter Tryd.func9, Tryd.ntmps9
  go_wp2_with fail
  have HO0 : Hid (OwnE Go.Proofs.YteopdmifgdcghaaDoor.u8 5 w.heap.size (w.alloc (.cells #[] 5)) (.slice (some ⟨w.heap.size, 0, none⟩) 0 0) (joinL 32 (bys (xs.take 0)))) := Lib.hid (OwnE.of_box (xs := ([] : List UInt8)) (Box.last w #[] 5) (Nat.le_refl _) (Nat.zero_le _))
  go_loopw [3, 4] (fun v3 v4 w' => ∃ (k n c : Nat) (g : Option Addr), v4 = .int .i64 (k : Int) ∧ k ≤ xs.length ∧ v3 = .slice g n c ∧ Hid (OwnE Go.Proofs.YteopdmifgdcghaaDoor.u8 5 w.heap.size w' (.slice g n c) (joinL 32 (bys (xs.take k)))) ∧ Hid (New w w')) (fun _ v4 _ => xs.length - (intOf v4).toNat)
  case atStart => exact ⟨0, 0, 0, _, rfl, Nat.zero_le _, rfl, HO0.out, (New.refl w).alloc _⟩
  case round =>
    clear HO0
    obtain ⟨k, n, c, g, rfl, hk, rfl, HO, HN⟩ := hrel
    by_cases hkl : k < xs.length
    · obtain ⟨b, o, rfl, hlt, hcell⟩ := HA.out k hkl
      have HT := Lib.hid (bys_take hkl)
      have hx := HN.out.still hcell
      have HL1 := Lib.hid (HJ.out k)
      have HL2 := Lib.hid (HJ.out (k + 1))
      generalize xs[k] = x at *
      obtain ⟨X, hX⟩ : ∃ X, X = joinL 32 (bys (xs.take k)) := ⟨_, rfl⟩
      obtain ⟨Y, hY⟩ : ∃ Y, Y = joinL 32 (bys (xs.take (k + 1))) := ⟨_, rfl⟩
      rw [← hX] at HO HT HL1
      rw [← hY] at HT HL2
      have HYE := Lib.hid hY
      have HXE := Lib.hid hX
      have hn := own_len HO.out
      have HNL := Lib.hid hn
      have hcw := hcell
      clear hX hY hcell hlt hn
      by_cases hk0 : k = 0
      · subst hk0
        rw [if_pos rfl] at HT
        have hX0 : X = [] := HXE.out
        have hx0 : wr.cell? ⟨b, o, none⟩ = some (.string x) := hx
        have HX0 := Lib.hid hX0
        have HSZ : Hid (x.size ≤ 32768) := Lib.hid (by have := HL2.out; have h2 := HB.out; rw [HT.out] at this; rw [size_data] at this; omega)
        clear hX0
        go_wp2_with (at_builtin; refine app_str w _ rfl _ _ 36 9 5 rfl rfl rfl info5 _ X rfl HN.out HO.out x rfl (by rw [HX0.out]; have := HSZ.out; simp; omega) ?_)
        intro A6 c6 w6 ho6 hn6 _
        have HO6 : Hid (OwnE Go.Proofs.YteopdmifgdcghaaDoor.u8 5 w.heap.size w6 (.slice A6 (X.length + x.size) c6) Y) := Lib.hid (by rw [HT.out]; rw [HX0.out] at ho6 ⊢; exact ho6)
        have HN6 := Lib.hid hn6
        obtain ⟨n6, hn6'⟩ : ∃ n6, n6 = X.length + x.size := ⟨_, rfl⟩
        rw [← hn6'] at HO6 ⊢
        clear ho6 hn6 hn6'
        go_wp2
        go_roundw
        case rel => exact ⟨1, n6, c6, A6, by go_num, by omega, rfl, by rw [← HYE.out]; exact HO6.out, HN6.out⟩
        case measure => simp [intOf]; omega
      · rw [if_neg hk0] at HT
        have HB5 : Hid ((wr.alloc (.cells #[.int .u8 32] 5)).cell? ⟨wr.heap.size, 0, none⟩ = some (Go.Proofs.YteopdmifgdcghaaDoor.u8 32)) := Lib.hid ((Box.last wr #[.int .u8 32] 5).cell 0)
        have hkp : (0 : Int) < (k : Int) := by omega
        go_wp2_with (at_builtin; refine app_one Go.Proofs.YteopdmifgdcghaaDoor.u8 w _ rfl _ _ 36 5 rfl (.int .u8 0) 1 rfl info5 rfl (by omega) _ X rfl (HN.out.alloc _) (HO.out.new ((New.refl wr).alloc _)) _ 0 _ (32 : UInt8) rfl HB5.out u8_one (by have := HL1.out; have := HB.out; omega) ?_)
        intro A5 c5 w5 ho5 hn5 _
        have HO5 := Lib.hid ho5
        have HN5 := Lib.hid hn5
        have hx5 : w5.cell? ⟨b, o + k, none⟩ = some (.string x) := hn5.still hcw
        have HSZ : Hid (X.length + 1 + x.size ≤ 32768) := Lib.hid (by have := HL2.out; have h2 := HB.out; rw [HT.out, List.length_append, List.length_append, size_data] at this; simp at this; omega)
        obtain ⟨Z, hZ⟩ : ∃ Z, Z = X ++ [32] := ⟨_, rfl⟩
        have HZL : Hid (Z.length = X.length + 1) := Lib.hid (by rw [hZ]; simp)
        rw [← hZ] at HO5 HT
        obtain ⟨n5, hn5'⟩ : ∃ n5, n5 = X.length + 1 := ⟨_, rfl⟩
        rw [← hn5'] at HO5 HZL HSZ ⊢
        clear ho5 hn5 hZ hn5' hx HB5 HO HN
        go_wp2_with (at_builtin; refine app_str w _ rfl _ _ 36 9 5 rfl rfl rfl info5 _ Z rfl HN5.out HO5.out x rfl (by rw [HZL.out]; have := HSZ.out; omega) ?_)
        intro A6 c6 w6 ho6 hn6 _
        have HO6 : Hid (OwnE Go.Proofs.YteopdmifgdcghaaDoor.u8 5 w.heap.size w6 (.slice A6 (Z.length + x.size) c6) Y) := Lib.hid (by rw [HT.out]; exact ho6)
        have HN6 := Lib.hid hn6
        obtain ⟨n6, hn6'⟩ : ∃ n6, n6 = Z.length + x.size := ⟨_, rfl⟩
        rw [← hn6'] at HO6 ⊢
        clear ho6 hn6 hn6'
        go_wp2
        go_roundw
        case rel => exact ⟨k + 1, n6, c6, A6, by go_num, by omega, rfl, by rw [← HYE.out]; exact HO6.out, HN6.out⟩
        case measure => simp [intOf]; omega
    · obtain rfl : k = xs.length := by omega
      rw [List.take_length] at HO
      have hcv : (convert 36 9 (.slice g n c)).run Tryd.prog wr = .ok (.string (joinS xs)) wr := run_str0 rfl rfl rfl HO.out
      go_wp2
      go_ret
      exact ⟨rfl, HN.out⟩
end Go.Proofs.YteopdmifgdcghaaDoor
