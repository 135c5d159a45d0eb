/- The reference's disk: Write walked. -/
import Derived.Test.YtjeaejeikgkcaaaN8
namespace Go.Proofs.Ytjeaejeikgkcaaa
set_option linter.unusedSimpArgs false
set_option linter.unusedVariables false
open Go.RowKit
section
variable {w w' : World} {p : Nat} {F S : Nat → Prop} {d : DS} {l : List Nat}
set_option maxHeartbeats 400000 in
theorem rwrite_no (i : Int) (s : ByteArray) (hi : fitB i = false) : Calls Try.prog 27 #[.pointer (some ⟨p, 0, none⟩), .int .i64 i, .string s] w fun e w' => e = .returned (.int .i64 40) ∧ w = w' := by
  rcases Int.lt_or_le i 0 with h0 | h0
  · clear hi
    go_enter Try.func27, Try.ntmps27
    go_wp2
    go_ret
    exact ⟨rfl, rfl⟩
  · have h3 : 256 ≤ i := by
      rcases Int.lt_or_le i 256 with h1 | h1
      · rw [fitB_yes h0 h1] at hi; cases hi
      · exact h1
    clear hi
    go_enter Try.func27, Try.ntmps27
    go_wp2
    go_ret
    exact ⟨rfl, rfl⟩
set_option maxRecDepth 100000 in
set_option maxHeartbeats 400000 in
theorem rwrite_big (i : Nat) (s : ByteArray) (hi : i < 256) (hs : 256 < s.size) (hsz : s.size ≤ 9223372036854775807) : Calls Try.prog 27 #[.pointer (some ⟨p, 0, none⟩), .int .i64 (i : Int), .string s] w fun e w' => e = .returned (.int .i64 41) ∧ w = w' := by
  have q0 : (0 : Int) ≤ (i : Int) := by omega
  have q1 : (i : Int) < 256 := by omega
  go_enter Try.func27, Try.ntmps27
  go_wp2
  go_ret
  exact ⟨rfl, rfl⟩
set_option maxRecDepth 100000 in
set_option maxHeartbeats 1000000 in
theorem rwrite_err (h : RQ w p F d l) (ho : d.ops ≤ 1000000) (i : Nat) (s : ByteArray) (hi : i < 256) (hs : s.size ≤ 256) (he : rawE d ≠ 0) : Calls Try.prog 27 #[.pointer (some ⟨p, 0, none⟩), .int .i64 (i : Int), .string s] w fun e w' => e = .returned (.int .i64 (rawE d)) ∧ RQ w' p F (rawD d l) (rawL d l) ∧ But F w w' := by
  have HC := Lib.hid (rraw_c h ho)
  have q0 : (0 : Int) ≤ (i : Int) := by omega
  have q1 : (i : Int) < 256 := by omega
  clear h ho
  generalize rawL d l = l1 at *
  obtain ⟨d1, hd1⟩ : ∃ d1, d1 = rawD d l := ⟨_, rfl⟩
  rw [← hd1] at HC ⊢
  clear hd1
  generalize rawE d = er at *
  go_enter Try.func27, Try.ntmps27
  go_wp2_with fail
  refine (HC.out).mono ?_
  rintro e w1 ⟨rfl, h1, h2⟩
  have H1 := Lib.hid h1
  have HB := Lib.hid h2
  clear h1 h2 HC
  go_wp2
  go_ret
  exact ⟨rfl, H1.out, HB.out⟩
/-- What is written is cached from now on. -/
theorem far_set {is was : List ByteArray} {l : List Nat} (far : ∀ i, i ∉ l → is[i]? = was[i]?) (i : Nat) (s : ByteArray) (j : Nat) (hj : j ∉ l) (hij : i ≠ j) : (is.set i s)[j]? = was[j]? := by
  rw [List.getElem?_set_ne hij]
  exact far j hj
theorem Rel.write {r : RS} (h : Rel d l r) (i : Nat) (hi : i < 256) (s : ByteArray) (hin : i ∈ l) : Rel { d with is := d.is.set i s } l { r with is := d.is.set i s } := by
  have h1 : (d.is.set i s).length = 256 := by rw [List.length_set]; exact h.l1
  exact { h with is := rfl, l1 := h1, far := fun j hj => far_set h.far i s j hj (fun e => hj (e ▸ hin)) }
theorem Rel.writeNew {r : RS} (h : Rel d l r) (i : Nat) (hi : i < 256) (s : ByteArray) (hin : i ∉ l) (hx : (l.length : Int) < d.ops) : Rel { d with is := d.is.set i s } (l ++ [i]) { r with is := d.is.set i s, cached := l ++ [i] } := by
  have h1 : (d.is.set i s).length = 256 := by rw [List.length_set]; exact h.l1
  have h2 : ∀ j ∈ l ++ [i], j < 256 := by
    intro j hj
    rcases List.mem_append.1 hj with hj | hj
    · exact h.hl j hj
    · rw [List.mem_singleton.1 hj]; exact hi
  have h3 : ((l ++ [i]).length : Int) ≤ d.ops := by
    rw [List.length_append, List.length_singleton]; omega
  have h4 : (l ++ [i]).Nodup := by
    rw [List.nodup_append]
    refine ⟨h.nd, by simp, fun a ha b hb => ?_⟩
    rw [List.mem_singleton.1 hb]
    rintro rfl
    exact hin ha
  exact { h with is := rfl, cached := rfl, l1 := h1, hl := h2, len := h3, nd := h4, far := fun j hj => far_set h.far i s j (fun hh => hj (List.mem_append_left _ hh)) (fun e => hj (by rw [← e]; simp)) }
set_option maxRecDepth 100000 in
set_option maxHeartbeats 4000000 in
theorem rwrite_ok (h : RQ w p F d l) (ho : d.ops ≤ 1000000) (i : Nat) (s : ByteArray) (hi : i < 256) (hs : s.size ≤ 256) (he : rawE d = 0) (hx : i ∉ rawL d l → ((rawL d l).length : Int) < (rawD d l).ops) :
    Calls Try.prog 27 #[.pointer (some ⟨p, 0, none⟩), .int .i64 (i : Int), .string s] w fun e w' => e = .returned (.int .i64 0) ∧ ∃ F', RQ w' p F' { rawD d l with is := (rawD d l).is.set i s } (if i ∈ rawL d l then rawL d l else rawL d l ++ [i]) ∧ But F w w' ∧ Sprout w F F' := by
  have HC := Lib.hid (rraw_c h ho)
  have hlen : (rawL d l).length ≤ 1000000 := by
    obtain ⟨r, a, b, c, h1, h2⟩ := h
    have := h2.len
    have : (rawL d l).length ≤ l.length := by unfold rawL; split <;> simp
    omega
  rw [he] at HC
  clear h ho he
  generalize rawL d l = l1 at *
  obtain ⟨d1, hd1⟩ : ∃ d1, d1 = rawD d l := ⟨_, rfl⟩
  rw [← hd1] at HC hx ⊢
  clear hd1
  obtain ⟨D, hD⟩ : ∃ D, D = ({ d1 with is := d1.is.set i s } : DS) := ⟨_, rfl⟩
  rw [← hD]
  have HD := Lib.hid hD
  have HX := Lib.hid hx
  obtain ⟨L, hL⟩ : ∃ L, L = if i ∈ l1 then l1 else l1 ++ [i] := ⟨_, rfl⟩
  rw [← hL]
  have HL := Lib.hid hL
  clear hD hx hL
  have q0 : (0 : Int) ≤ (i : Int) := by omega
  have q1 : (i : Int) < 256 := by omega
  go_enter Try.func27, Try.ntmps27
  go_wp2_with fail
  refine (HC.out).mono ?_
  rintro e w1 ⟨rfl, h, h2⟩
  have HB0 := Lib.hid h2
  clear h2 HC
  obtain ⟨r, a, b, c, h1, h2⟩ := h
  obtain rfl : r.cached = l1 := h2.cached
  obtain ⟨ga, ca, gb, cb, rfl, rfl, z1, z2, z3, z4, z5, z6⟩ := h1.rows (by rw [h2.was]; exact h2.l2) (by rw [h2.is]; exact h2.l1)
  have k1 : w1.cell? ⟨p, 1, none⟩ = _ := h1.cell 1
  simp only [rcells, List.getElem?_cons_succ, List.getElem?_cons_zero] at k1
  have hir : i < r.is.length := by rw [h2.is, h2.l1]; exact hi
  have hisc := (own_cell h1.is i hir).1
  have hfz := (own_cell h1.is i hir).2
  have HR := Lib.hid (h1.putIs i hir s)
  rw [h2.is] at HR
  have HB1 := Lib.hid (HB0.out.set (p := gb) (i := i) z6 (.string s))
  have H2 := Lib.hid h2
  obtain ⟨gc, cc, rfl⟩ := h1.cached.form
  clear h1 h2 hir
  generalize r.is.getD i ⟨#[]⟩ = si at *
  have hcl : (r.cached.length : Int) ≤ 1000000 := by omega
  unfold maxLen at *
  go_wp2
  generalize w1.setCell ⟨gb, i, none⟩ (.string s) = w2 at *
  have k2 : w2.cell? ⟨p, 2, none⟩ = _ := HR.out.cell 2
  simp only [rcells, List.getElem?_cons_succ, List.getElem?_cons_zero] at k2
  go_loopw [8] (fun v8 w' => ∃ (k : Nat), v8 = .int .i64 (k : Int) ∧ k ≤ r.cached.length ∧ Hid (i ∉ r.cached.take k) ∧ Hid (w' = w2)) (fun v8 _ => r.cached.length - (intOf v8).toNat)
  case atStart => exact ⟨0, rfl, Nat.zero_le _, Lib.hid (by simp), Lib.hid rfl⟩
  case round =>
    obtain ⟨k, rfl, hk, HI, HW⟩ := hrel
    obtain rfl := HW.out
    by_cases hkl : k < r.cached.length
    · have hoc := HR.out.cached
      simp only at hoc
      obtain ⟨g, c', e0, q1, q2, _, ⟨cur, hcur⟩, hcells⟩ := hoc.at (by intro h; rw [h] at hkl; cases hkl)
      obtain ⟨rfl, rfl⟩ : gc = some ⟨g, 0, none⟩ ∧ cc = c' := by simpa using e0
      have hcell := hcells k hkl
      unfold iE at hcell
      unfold maxLen at q2
      obtain ⟨j, hj⟩ : ∃ j, j = r.cached[k] := ⟨_, rfl⟩
      rw [← hj] at hcell
      clear hcells e0 hcur hoc hk
      by_cases hji : j = i
      · subst hji
        have hin : j ∈ r.cached := by rw [hj]; exact List.getElem_mem hkl
        have HQ := Lib.hid (H2.out.write j hi s hin)
        rw [← HD.out] at HQ
        have HE : Hid (L = r.cached) := Lib.hid (by rw [HL.out, if_pos hin])
        clear hj
        go_wp2
        go_ret
        exact ⟨rfl, F, by rw [HE.out]; exact ⟨_, _, _, _, HR.out, HQ.out⟩, HB1.out, Sprout.same _ _⟩
      · have hI2 : i ∉ r.cached.take (k + 1) := fun hh => ((mem_take_succ hkl i).1 hh).elim HI.out (fun e => hji (by rw [hj, e]))
        have HI2 := Lib.hid hI2
        have hji2 : ¬ (j : Int) = (i : Int) := by omega
        clear hI2 hj hji
        go_wp2
        go_roundw
        case rel => exact ⟨k + 1, by go_num, by omega, HI2.out, Lib.hid trivial⟩
        case measure => simp [intOf]; omega
    · obtain rfl : k = r.cached.length := by omega
      have hin : i ∉ r.cached := by have := HI.out; rwa [List.take_length] at this
      have HQ := Lib.hid (H2.out.writeNew i hi s hin (HX.out hin))
      rw [← HD.out] at HQ
      have HE : Hid (L = r.cached ++ [i]) := Lib.hid (by rw [HL.out, if_neg hin])
      have ca2 : ∀ o, (wr.alloc o).cell? ⟨p, 2, none⟩ = some (.slice gc r.cached.length cc) := fun o => ((New.refl wr).alloc o).still k2
      have HB5 := Lib.hid ((Box.last wr #[.int .i64 (i : Int)] 3).cell 0)
      have hoc := Lib.hid HR.out.cached
      simp only at hoc
      clear hin
      go_wp2_with (at_builtin; refine app_foot iE _ rfl _ _ 48 3 rfl (.int .i64 0) 8 rfl info3 rfl (by omega) _ r.cached rfl (hoc.out.new ((New.refl wr).alloc _)) _ 0 _ i rfl HB5.out iE_one (by omega) ?_)
      intro v6 w6 ho6 hb6 hs6
      have HG := Lib.hid (HR.out.growCached i ((New.refl wr).alloc (.cells #[.int .i64 (i : Int)] 3)) ho6 hb6 (by intro k hk; rw [show (wr.alloc (.cells #[.int .i64 (i : Int)] 3)).heap.size = wr.heap.size + 1 by simp]; exact hs6 k hk))
      have hx6 := hb6.box (HR.out.box.new ((New.refl wr).alloc (.cells #[.int .i64 (i : Int)] 3))) (foot_no hoc.out HR.out.box (by decide))
      have f6 := hx6.frozen 2
      have c6 : w6.cell? ⟨p, 2, none⟩ = _ := hx6.cell 2
      simp [rcells] at c6
      have hcF : ∀ k, Foot (.slice gc r.cached.length cc) k → F k := HR.out.fc
      have HB6 : Hid (But F w (w6.setCell ⟨p, 2, none⟩ v6)) := Lib.hid (((HB1.out.alloc (.cells #[.int .i64 (i : Int)] 3)).trans (hb6.more fun k hk => hcF k hk)).set HR.out.fp v6)
      have HS6 : Hid (Sprout w F (fun k => F k ∨ Foot v6 k)) := Lib.hid fun k hk => by
        rcases hk with hk | hk
        · exact .inl hk
        · rcases hs6 k hk with h | h
          · exact .inl (hcF k h)
          · have := HB1.out.size
            refine .inr ?_
            have e : (wr.alloc (.cells #[.int .i64 (i : Int)] 3)).heap.size = wr.heap.size + 1 := by simp
            omega
      obtain ⟨A6, c6', rfl⟩ := ho6.form
      clear hb6 hs6 ho6 hx6 hoc HB5 HR
      rw [List.length_append, List.length_singleton] at *
      go_wp2
      go_ret
      exact ⟨rfl, _, by rw [HE.out]; exact ⟨_, _, _, _, HG.out, HQ.out⟩, HB6.out, HS6.out⟩
end
end Go.Proofs.Ytjeaejeikgkcaaa
