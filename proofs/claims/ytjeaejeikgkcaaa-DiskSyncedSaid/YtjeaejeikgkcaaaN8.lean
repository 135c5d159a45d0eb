/- The reference's disk: Sync walked. -/
import Derived.Test.YtjeaejeikgkcaaaN7
namespace Go.Proofs.Ytjeaejeikgkcaaa
set_option linter.unusedSimpArgs false
set_option linter.unusedVariables false
open Go.RowKit
/-- Sectors as they last while a Sync goes on: k of the cached ones seen. -/
structure Syn (is was : List ByteArray) (l : List Nat) (k : Nat) (rw' : List ByteArray) : Prop where
  len : rw'.length = 256
  at' : ∀ j, rw'[j]? = if j ∈ l.take k then is[j]? else was[j]?
section
variable {is was rw' : List ByteArray} {l : List Nat} {k : Nat}
theorem Syn.start (h : was.length = 256) : Syn is was l 0 was := ⟨h, fun j => by simp⟩
theorem Syn.next (h : Syn is was l k rw') (hk : k < l.length) (his : is.length = 256) (hl : ∀ i ∈ l, i < 256) : Syn is was l (k + 1) (rw'.set l[k] (is.getD l[k] ⟨#[]⟩)) := by
  have hi := hl _ (List.getElem_mem hk)
  refine ⟨by simp [h.len], fun j => ?_⟩
  by_cases hj : j = l[k]
  · rw [if_pos ((mem_take_succ hk j).2 (.inr hj)), hj, List.getElem?_set_self (by rw [h.len]; exact hi)]
    simp [List.getD, List.getElem?_eq_getElem (show l[k] < is.length by rw [his]; exact hi)]
  · rw [List.getElem?_set_ne (fun e => hj e.symm), h.at']
    by_cases h1 : j ∈ l.take k
    · rw [if_pos h1, if_pos ((mem_take_succ hk j).2 (.inl h1))]
    · rw [if_neg h1, if_neg (fun e => ((mem_take_succ hk j).1 e).elim h1 hj)]
theorem Syn.end (h : Syn is was l l.length rw') (far : ∀ i, i ∉ l → is[i]? = was[i]?) : rw' = is := by
  refine List.ext_getElem? fun j => ?_
  rw [h.at', List.take_length]
  by_cases h1 : j ∈ l
  · rw [if_pos h1]
  · rw [if_neg h1, far j h1]
end
section
variable {w w' : World} {p : Nat} {F S : Nat → Prop} {d : DS} {l : List Nat}
set_option maxHeartbeats 1000000 in
theorem rsync_err (h : RQ w p F d l) (ho : d.ops ≤ 1000000) (he : rawE d ≠ 0) : Calls Try.prog 21 #[.pointer (some ⟨p, 0, none⟩)] w fun e w' => e = .returned (.int .i64 (rawE d)) ∧ RQ w' p F (rawD d l) (rawL d l) ∧ But F w w' := by
  have HC := Lib.hid (rraw_c h ho)
  clear h ho
  generalize rawL d l = l1 at *
  obtain ⟨d1, hd1⟩ : ∃ d1, d1 = rawD d l := ⟨_, rfl⟩
  rw [← hd1] at HC ⊢
  clear hd1
  generalize rawE d = er at *
  go_enter Try.func21, Try.ntmps21
  go_wp2_with fail
  refine (HC.out).mono ?_
  rintro e w1 ⟨rfl, h1, h2⟩
  have H1 := Lib.hid h1
  have HB := Lib.hid h2
  clear h1 h2 HC
  go_wp2
  go_ret
  exact ⟨rfl, H1.out, HB.out⟩
set_option maxRecDepth 100000 in
set_option maxHeartbeats 4000000 in
theorem rsync_ok (h : RQ w p F d l) (ho : d.ops ≤ 1000000) (he : rawE d = 0) : Calls Try.prog 21 #[.pointer (some ⟨p, 0, none⟩)] w fun e w' => e = .returned (.int .i64 0) ∧ RQ w' p F { rawD d l with was := (rawD d l).is } [] ∧ But F w w' := by
  have HC := Lib.hid (rraw_c h ho)
  have hlen : (rawL d l).length ≤ 1000000 := by
    obtain ⟨r, a, b, c, h1, h2⟩ := h
    have := h2.len
    have : (rawL d l).length ≤ l.length := by unfold rawL; split <;> simp
    omega
  rw [he] at HC
  clear h ho he
  generalize rawL d l = l1 at *
  obtain ⟨d1, hd1⟩ : ∃ d1, d1 = rawD d l := ⟨_, rfl⟩
  rw [← hd1] at HC ⊢
  clear hd1
  obtain ⟨D, hD⟩ : ∃ D, D = ({ d1 with was := d1.is } : DS) := ⟨_, rfl⟩
  rw [← hD]
  have HD := Lib.hid hD
  clear hD
  go_enter Try.func21, Try.ntmps21
  go_wp2_with fail
  refine (HC.out).mono ?_
  rintro e w1 ⟨rfl, h, h2⟩
  have HB0 := Lib.hid h2
  clear h2 HC
  obtain ⟨r, a, b, c, h1, h2⟩ := h
  obtain rfl : r.cached = l1 := h2.cached
  obtain ⟨ga, ca, gb, cb, rfl, rfl, z1, z2, z3, z4, z5, z6⟩ := h1.rows (by rw [h2.was]; exact h2.l2) (by rw [h2.is]; exact h2.l1)
  have HQ : Hid (Rel D [] { r with was := d1.is, is := d1.is, cached := [] }) := by
    rw [HD.out]
    have ho := h2.o0
    exact Lib.hid { h2 with was := rfl, is := rfl, cached := rfl, l2 := h2.l1, hl := by simp, len := by show ((0 : Nat) : Int) ≤ d1.ops; omega, nd := List.nodup_nil, far := fun _ _ => rfl }
  have H0 : Hid (Rdk w1 p F { r with was := d1.was, is := d1.is } (.slice (some ⟨ga, 0, none⟩) 256 ca) (.slice (some ⟨gb, 0, none⟩) 256 cb) c) := by
    have e : { r with was := d1.was, is := d1.is } = r := by
      rw [← h2.was, ← h2.is]
    rw [e]
    exact Lib.hid h1
  have HM0 := Lib.hid (Syn.start (is := d1.is) (l := r.cached) h2.l2)
  have H2 := Lib.hid h2
  have hcl : (r.cached.length : Int) ≤ 1000000 := by omega
  obtain ⟨gc, cc, rfl⟩ := h1.cached.form
  clear h1 h2
  unfold maxLen at *
  go_wp2
  go_loopw [4] (fun v4 w' => ∃ (k : Nat) (ri : List ByteArray), v4 = .int .i64 (k : Int) ∧ k ≤ r.cached.length ∧ Hid (Rdk w' p F { r with was := ri, is := d1.is } (.slice (some ⟨ga, 0, none⟩) 256 ca) (.slice (some ⟨gb, 0, none⟩) 256 cb) (.slice gc r.cached.length cc)) ∧ Hid (Syn d1.is d1.was r.cached k ri) ∧ Hid (But F w w')) (fun v4 _ => r.cached.length - (intOf v4).toNat)
  case atStart => exact ⟨0, d1.was, rfl, Nat.zero_le _, H0.out, HM0.out, HB0.out⟩
  case round =>
    obtain ⟨k, ri, rfl, hk, HR, HM, HB⟩ := hrel
    have k2 : wr.cell? ⟨p, 2, none⟩ = _ := HR.out.cell 2
    have k0 : wr.cell? ⟨p, 0, none⟩ = _ := HR.out.cell 0
    have k1 : wr.cell? ⟨p, 1, none⟩ = _ := HR.out.cell 1
    simp only [rcells, List.getElem?_cons_succ, List.getElem?_cons_zero] at k0 k1 k2
    by_cases hkl : k < r.cached.length
    · have hoc := HR.out.cached
      simp only at hoc
      obtain ⟨g, c', e0, q1, q2, _, ⟨cur, hcur⟩, hcells⟩ := hoc.at (by intro h; rw [h] at hkl; cases hkl)
      obtain ⟨rfl, rfl⟩ : gc = some ⟨g, 0, none⟩ ∧ cc = c' := by simpa using e0
      have hcell := hcells k hkl
      have hi := H2.out.hl _ (List.getElem_mem hkl)
      unfold iE at hcell
      unfold maxLen at q2
      have hm1 := HM.out.next hkl H2.out.l1 H2.out.hl
      obtain ⟨i, hli⟩ : ∃ i, i = r.cached[k] := ⟨_, rfl⟩
      rw [← hli] at hi hcell hm1
      have hisc := (own_cell HR.out.is i (by show i < d1.is.length; rw [H2.out.l1]; exact hi)).1
      have hfz := (own_cell HR.out.was i (by rw [HM.out.len]; exact hi)).2
      have hwas := (own_cell HR.out.was i (by rw [HM.out.len]; exact hi)).1
      have HPW := Lib.hid (HR.out.putWas i (by show i < ri.length; rw [HM.out.len]; exact hi) (d1.is.getD i ⟨#[]⟩))
      simp only at HPW hisc hwas
      obtain ⟨ri2, hri2⟩ : ∃ x, x = ri.set i (d1.is.getD i ⟨#[]⟩) := ⟨_, rfl⟩
      rw [← hri2] at HPW hm1
      have HM3 := Lib.hid hm1
      have HB3 := Lib.hid ((HB.out.set (p := ga) (i := i) z5 (.string (d1.is.getD i ⟨#[]⟩))).drew)
      have HR3 := Lib.hid HPW.out.drew
      have b0 : (wr.setCell ⟨ga, i, none⟩ (.string (d1.is.getD i ⟨#[]⟩))).cell? ⟨p, 0, none⟩ = _ := HPW.out.cell 0
      have b1 : (wr.setCell ⟨ga, i, none⟩ (.string (d1.is.getD i ⟨#[]⟩))).cell? ⟨p, 1, none⟩ = _ := HPW.out.cell 1
      have b2 : (wr.setCell ⟨ga, i, none⟩ (.string (d1.is.getD i ⟨#[]⟩))).cell? ⟨p, 2, none⟩ = _ := HPW.out.cell 2
      have bi := (own_cell HPW.out.is i (by show i < d1.is.length; rw [H2.out.l1]; exact hi)).1
      have bk : (wr.setCell ⟨ga, i, none⟩ (.string (d1.is.getD i ⟨#[]⟩))).cell? ⟨g, k, none⟩ = some (.int .i64 (i : Int)) := by
        have hoc2 := HPW.out.cached
        simp only at hoc2
        obtain ⟨g', c', e0, _, _, _, _, hcells'⟩ := hoc2.at (by intro h; rw [h] at hkl; cases hkl)
        injection e0 with e1 e2 e3
        injection e1 with e1
        injection e1 with e1 _ _
        subst e1
        have := hcells' k hkl
        unfold iE at this
        rw [← hli] at this
        exact this
      simp only [rcells, List.getElem?_cons_succ, List.getElem?_cons_zero] at b0 b1 b2 bi
      clear hm1 hli hri2 hcells e0 hcur hoc HPW
      generalize d1.is.getD i ⟨#[]⟩ = si at *
      generalize ri.getD i ⟨#[]⟩ = wi at *
      have q0 : (0 : Int) ≤ (i : Int) := by omega
      have q3 : (i : Int) < 256 := by omega
      go_wp2
      go_region_held3 (fun V => V.cell? ⟨p, 0, none⟩ = some (.slice (some ⟨ga, 0, none⟩) 256 ca) ∧ V.cell? ⟨p, 1, none⟩ = some (.slice (some ⟨gb, 0, none⟩) 256 cb) ∧ V.cell? ⟨p, 2, none⟩ = some (.slice (some ⟨g, 0, none⟩) r.cached.length cc) ∧ V.cell? ⟨g, k, none⟩ = some (.int .i64 (i : Int)) ∧ V.cell? ⟨gb, i, none⟩ = some (.string si)) (first | exact ⟨k0, k1, k2, hcell, hisc⟩ | exact ⟨b0, b1, b2, bk, bi⟩) (fail)
      rename_i hh
      clear hh
      generalize (wr.setCell ⟨ga, i, none⟩ (.string si)).drew = w3 at *
      clear hisc hwas hfz hcell b0 b1 b2 bk bi k0 k1 k2
      go_wp2
      go_roundw
      case rel => exact ⟨k + 1, ri2, by go_num, by omega, HR3.out, HM3.out, HB3.out⟩
      case measure => simp [intOf]; omega
    · obtain rfl : k = r.cached.length := by omega
      have he := HM.out.end H2.out.far
      subst he
      have f2 := HR.out.frozen 2
      have HR4 := Lib.hid HR.out.putNil
      have HB4 := Lib.hid (HB.out.trans (HR.out.only ((But.refl (Onl p) wr).set (p := p) (i := 2) rfl (.slice none 0 0))))
      clear HR HB HM H0 HM0 k0 k1
      go_wp2
      go_ret
      exact ⟨rfl, ⟨_, _, _, _, HR4.out, HQ.out⟩, HB4.out⟩
theorem rsync_c (h : RQ w p F d l) (ho : d.ops ≤ 1000000) : Calls Try.prog 21 #[.pointer (some ⟨p, 0, none⟩)] w fun e w' => e = .returned (.int .i64 (rawE d)) ∧ RQ w' p F (syD d l) (syL d l) ∧ But F w w' := by
  by_cases h0 : rawE d = 0
  · have e1 : syD d l = { rawD d l with was := (rawD d l).is } := by simp [syD, h0]
    have e2 : syL d l = [] := by simp [syL, h0]
    rw [e1, e2, h0]
    exact rsync_ok h ho h0
  · have e1 : syD d l = rawD d l := by simp [syD, h0]
    have e2 : syL d l = rawL d l := by simp [syL, h0]
    rw [e1, e2]
    exact rsync_err h ho h0
end
end Go.Proofs.Ytjeaejeikgkcaaa
