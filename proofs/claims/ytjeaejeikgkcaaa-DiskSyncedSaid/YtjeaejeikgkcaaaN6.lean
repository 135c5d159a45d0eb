/- The reference's disk: Crash walked. -/
import Derived.Test.YtjeaejeikgkcaaaN5
namespace Go.Proofs.Ytjeaejeikgkcaaa
set_option linter.unusedSimpArgs false
set_option linter.unusedVariables false
open Go.RowKit
/-- Sectors as they are while a crash goes on: k of the cached ones seen. -/
structure Mid (is was : List ByteArray) (l : List Nat) (keep : Int) (k : Nat) (ri : List ByteArray) : Prop where
  len : ri.length = 256
  at' : ∀ j, ri[j]? = if j ∈ l.take k then (crashW is was l keep k)[j]? else is[j]?
theorem crashW_other (is was : List ByteArray) (l : List Nat) (keep : Int) : ∀ k, k ≤ l.length → ∀ j, j ∉ l.take k → (crashW is was l keep k)[j]? = was[j]?
  | 0, _, j, _ => rfl
  | k + 1, hk, j, hj => by
    have hgd : l.getD k 0 = l[k] := by simp [List.getD, List.getElem?_eq_getElem (show k < l.length by omega)]
    rw [List.take_succ_eq_append_getElem (by omega)] at hj
    have h1 : j ∉ l.take k := fun h => hj (List.mem_append_left _ h)
    have h2 : l[k] ≠ j := fun h => hj (List.mem_append_right _ (by simp [h]))
    unfold crashW
    split
    · rw [hgd, List.getElem?_set_ne h2, crashW_other is was l keep k (by omega) j h1]
    · exact crashW_other is was l keep k (by omega) j h1
theorem nodup_take {l : List Nat} (hn : l.Nodup) (k : Nat) (hk : k < l.length) : l[k] ∉ l.take k := by
  intro h
  obtain ⟨j, hj, e⟩ := List.mem_iff_getElem.1 h
  rw [List.getElem_take] at e
  have hjk : j < k := by simpa using (show j < (l.take k).length from hj) |> fun h => by rw [List.length_take] at h; omega
  have := (List.getElem_inj hn).1 e
  omega
section
variable {is was ri : List ByteArray} {l : List Nat} {keep : Int} {k : Nat}
theorem Mid.start (h : is.length = 256) : Mid is was l keep 0 is := ⟨h, fun j => by simp⟩
theorem mem_take_succ (hk : k < l.length) (j : Nat) : j ∈ l.take (k + 1) ↔ j ∈ l.take k ∨ j = l[k] := by
  rw [List.take_succ_eq_append_getElem hk, List.mem_append, List.mem_singleton]
/-- One that is kept. -/
theorem Mid.on (h : Mid is was l keep k ri) (hk : k < l.length) (hn : l.Nodup) (hw : was.length = 256) (his : is.length = 256) (hl : ∀ i ∈ l, i < 256) (hb : bitOn keep k = true) :
    Mid is was l keep (k + 1) ri ∧ crashW is was l keep (k + 1) = (crashW is was l keep k).set l[k] (ri.getD l[k] ⟨#[]⟩) := by
  have hgd : l.getD k 0 = l[k] := by simp [List.getD, List.getElem?_eq_getElem hk]
  have hi := hl _ (List.getElem_mem hk)
  have hri : ri[l[k]]? = is[l[k]]? := by rw [h.at', if_neg (nodup_take hn k hk)]
  have hst : crashW is was l keep (k + 1) = (crashW is was l keep k).set l[k] (is.getD l[k] ⟨#[]⟩) := by
    conv => lhs; unfold crashW
    rw [if_pos hb, hgd]
  refine ⟨⟨h.len, fun j => ?_⟩, by rw [hst]; simp [List.getD, hri]⟩
  rw [hst]
  by_cases hj : j = l[k]
  · rw [if_pos ((mem_take_succ hk j).2 (.inr hj)), hj, hri, List.getElem?_set_self (by rw [crashW_len, hw]; exact hi)]
    simp [List.getD, List.getElem?_eq_getElem (show l[k] < is.length by omega)]
  · rw [h.at', List.getElem?_set_ne (fun e => hj e.symm)]
    by_cases h1 : j ∈ l.take k
    · rw [if_pos h1, if_pos ((mem_take_succ hk j).2 (.inl h1))]
    · rw [if_neg h1, if_neg (fun e => ((mem_take_succ hk j).1 e).elim h1 hj)]
/-- One that is lost. -/
theorem Mid.off (h : Mid is was l keep k ri) (hk : k < l.length) (hw : was.length = 256) (hl : ∀ i ∈ l, i < 256) (hb : bitOn keep k = false) :
    Mid is was l keep (k + 1) (ri.set l[k] ((crashW is was l keep k).getD l[k] ⟨#[]⟩)) ∧ crashW is was l keep (k + 1) = crashW is was l keep k := by
  have hi := hl _ (List.getElem_mem hk)
  have hst : crashW is was l keep (k + 1) = crashW is was l keep k := by
    conv => lhs; unfold crashW
    rw [if_neg (by simp [hb])]
  refine ⟨⟨by simp [h.len], fun j => ?_⟩, hst⟩
  rw [hst]
  by_cases hj : j = l[k]
  · rw [if_pos ((mem_take_succ hk j).2 (.inr hj)), hj, List.getElem?_set_self (by rw [h.len]; exact hi)]
    simp [List.getD, List.getElem?_eq_getElem (show l[k] < (crashW is was l keep k).length by rw [crashW_len, hw]; exact hi)]
  · rw [List.getElem?_set_ne (fun e => hj e.symm), h.at']
    by_cases h1 : j ∈ l.take k
    · rw [if_pos h1, if_pos ((mem_take_succ hk j).2 (.inl h1))]
    · rw [if_neg h1, if_neg (fun e => ((mem_take_succ hk j).1 e).elim h1 hj)]
theorem Mid.end (h : Mid is was l keep l.length ri) (far : ∀ i, i ∉ l → is[i]? = was[i]?) : ri = crashW is was l keep l.length := by
  refine List.ext_getElem? fun j => ?_
  rw [h.at', List.take_length]
  by_cases h1 : j ∈ l
  · rw [if_pos h1]
  · rw [if_neg h1, far j h1, crashW_other is was l keep l.length (Nat.le_refl _) j (by rw [List.take_length]; exact h1)]
end
section
variable {w w' : World} {p : Nat} {F S : Nat → Prop} {d : DS} {l : List Nat}
theorem Rel.crash {r : RS} (h : Rel d l r) (hd : d.dead = false) (keep : Int) (hk0 : 0 ≤ keep) (hk1 : keep < 18446744073709551616) :
    Rel (crashD d l keep) [] { r with was := crashW d.is d.was l keep l.length, is := crashW d.is d.was l keep l.length, cached := [], ci := false, cl := 0, fi := false, fl := 0, gone := true } := by
  have e : crashD d l keep = { d with is := crashW d.is d.was l keep l.length, was := crashW d.is d.was l keep l.length, cut := -1, fail := -1, dead := true } := by
    unfold crashD; rw [hd]; rfl
  rw [e]
  have ho := h.o0
  exact { h with was := rfl, is := rfl, cached := rfl, cut := rfl, fail := rfl, c0 := nofun, f0 := nofun, c1 := by show -d.ops ≤ 0; omega, f1 := by show -d.ops ≤ 0; omega, c2 := by show (0 : Int) ≤ _; decide, f2 := by show (0 : Int) ≤ _; decide, gone := rfl, l1 := by show (crashW _ _ _ _ _).length = _; rw [crashW_len]; exact h.l2, l2 := by show (crashW _ _ _ _ _).length = _; rw [crashW_len]; exact h.l2, hl := by simp, len := by show ((0 : Nat) : Int) ≤ d.ops; omega, nd := List.nodup_nil, far := fun _ _ => rfl }
set_option maxHeartbeats 1000000 in
theorem rcrash_dead (h : RQ w p F d l) (hd : d.dead = true) (keep : Int) : Calls Try.prog 30 #[.pointer (some ⟨p, 0, none⟩), .int .u64 keep] w fun e w' => e = .returned (.tuple #[]) ∧ w = w' := by
  obtain ⟨r, a, b, c, h1, h2⟩ := h
  have k9 : w.cell? ⟨p, 9, none⟩ = _ := h1.cell 9
  simp only [rcells, List.getElem?_cons_succ, List.getElem?_cons_zero, h2.gone, hd] at k9
  clear h1 h2
  go_enter Try.func30, Try.ntmps30
  go_wp2
  refine bodyPost_ret (results_none rfl _ _ _) rfl ?_
  exact ⟨rfl, rfl⟩
set_option maxRecDepth 100000 in
set_option maxHeartbeats 4000000 in
theorem rcrash_live (h : RQ w p F d l) (hd : d.dead = false) (ho : d.ops ≤ 1000000) (keep : Int) (hk0 : 0 ≤ keep) (hk1 : keep < 18446744073709551616) : Calls Try.prog 30 #[.pointer (some ⟨p, 0, none⟩), .int .u64 keep] w fun e w' => e = .returned (.tuple #[]) ∧ RQ w' p F (crashD d l keep) [] ∧ But F w w' := by
  obtain ⟨r, a, b, c, h1, h2⟩ := h
  obtain rfl : r.cached = l := h2.cached
  obtain ⟨ga, ca, gb, cb, rfl, rfl, z1, z2, z3, z4, z5, z6⟩ := h1.rows (by rw [h2.was]; exact h2.l2) (by rw [h2.is]; exact h2.l1)
  have k9 : w.cell? ⟨p, 9, none⟩ = _ := h1.cell 9
  simp only [rcells, List.getElem?_cons_succ, List.getElem?_cons_zero, h2.gone, hd] at k9
  have HQ := Lib.hid (h2.crash hd keep hk0 hk1)
  obtain ⟨D, hD⟩ : ∃ D, D = crashD d r.cached keep := ⟨_, rfl⟩
  rw [← hD] at HQ ⊢
  clear hD
  have H0 : Hid (Rdk w p F { r with was := crashW d.is d.was r.cached keep 0, is := d.is } (.slice (some ⟨ga, 0, none⟩) 256 ca) (.slice (some ⟨gb, 0, none⟩) 256 cb) c) := by
    have e : { r with was := crashW d.is d.was r.cached keep 0, is := d.is } = r := by
      have e1 : crashW d.is d.was r.cached keep 0 = r.was := h2.was.symm
      rw [e1, ← h2.is]
    rw [e]
    exact Lib.hid h1
  have HM0 := Lib.hid (Mid.start (was := d.was) (l := r.cached) (keep := keep) h2.l1)
  have H2 := Lib.hid h2
  have hcl : (r.cached.length : Int) ≤ 1000000 := by have := h2.len; omega
  obtain ⟨gc, cc, rfl⟩ := h1.cached.form
  clear h1 h2
  unfold maxLen at *
  go_enter Try.func30, Try.ntmps30
  go_wp2
  go_loopw [4] (fun v4 w' => ∃ (k : Nat) (ri : List ByteArray), v4 = .int .i64 (k : Int) ∧ k ≤ r.cached.length ∧ Hid (Rdk w' p F { r with was := crashW d.is d.was r.cached keep k, is := ri } (.slice (some ⟨ga, 0, none⟩) 256 ca) (.slice (some ⟨gb, 0, none⟩) 256 cb) (.slice gc r.cached.length cc)) ∧ Hid (Mid d.is d.was r.cached keep k ri) ∧ Hid (But F w w')) (fun v4 _ => r.cached.length - (intOf v4).toNat)
  case atStart => exact ⟨0, d.is, rfl, Nat.zero_le _, H0.out, HM0.out, But.refl _ _⟩
  case round =>
    obtain ⟨k, ri, rfl, hk, HR, HM, HB⟩ := hrel
    have k2 : wr.cell? ⟨p, 2, none⟩ = _ := HR.out.cell 2
    have k0 : wr.cell? ⟨p, 0, none⟩ = _ := HR.out.cell 0
    have k1 : wr.cell? ⟨p, 1, none⟩ = _ := HR.out.cell 1
    simp only [rcells, List.getElem?_cons_succ, List.getElem?_cons_zero] at k0 k1 k2
    by_cases hkl : k < r.cached.length
    · have hoc := HR.out.cached
      simp only at hoc
      obtain ⟨g, c', e0, q1, q2, _, ⟨cur, hcur⟩, hcells⟩ := hoc.at (by intro h; rw [h] at hkl; cases hkl)
      obtain ⟨rfl, rfl⟩ : gc = some ⟨g, 0, none⟩ ∧ cc = c' := by simpa using e0
      have hcell := hcells k hkl
      have hi := H2.out.hl _ (List.getElem_mem hkl)
      unfold iE at hcell
      clear hcells e0 hcur hoc
      unfold maxLen at q2
      by_cases hbit : bitOn keep k = true
      · obtain ⟨hm1, hm2⟩ := HM.out.on hkl H2.out.nd H2.out.l2 H2.out.l1 H2.out.hl hbit
        obtain ⟨i, hli⟩ : ∃ i, i = r.cached[k] := ⟨_, rfl⟩
        rw [← hli] at hm2 hi hcell
        have hisc := (own_cell HR.out.is i (by rw [HM.out.len]; exact hi)).1
        have hwl : (crashW d.is d.was r.cached keep k).length = 256 := by rw [crashW_len]; exact H2.out.l2
        have hfz := (own_cell HR.out.was i (by show i < (crashW d.is d.was r.cached keep k).length; rw [hwl]; exact hi)).2
        have hwas := (own_cell HR.out.was i (by show i < (crashW d.is d.was r.cached keep k).length; rw [hwl]; exact hi)).1
        have HPW := Lib.hid (HR.out.putWas i (by show i < (crashW d.is d.was r.cached keep k).length; rw [hwl]; exact hi) (ri.getD i ⟨#[]⟩))
        simp only at HPW hisc hwas
        rw [← hm2] at HPW
        have HM3 := Lib.hid hm1
        have HB3 := Lib.hid ((HB.out.set (p := ga) (i := i) z5 (.string (ri.getD i ⟨#[]⟩))).drew)
        have HR3 := Lib.hid HPW.out.drew
        have b0 : (wr.setCell ⟨ga, i, none⟩ (.string (ri.getD i ⟨#[]⟩))).cell? ⟨p, 0, none⟩ = _ := HPW.out.cell 0
        have b1 : (wr.setCell ⟨ga, i, none⟩ (.string (ri.getD i ⟨#[]⟩))).cell? ⟨p, 1, none⟩ = _ := HPW.out.cell 1
        have bi := (own_cell HPW.out.is i (by show i < ri.length; rw [HM.out.len]; exact hi)).1
        simp only [rcells, List.getElem?_cons_succ, List.getElem?_cons_zero] at b0 b1 bi
        clear hm1 hm2 hli
        generalize ri.getD i ⟨#[]⟩ = si at *
        generalize (crashW d.is d.was r.cached keep k).getD i ⟨#[]⟩ = wi at *
        unfold bitOn at hbit
        have q0 : (0 : Int) ≤ (i : Int) := by omega
        have q3 : (i : Int) < 256 := by omega
        clear HPW
        go_wp2
        go_region_held3 (fun V => V.cell? ⟨p, 0, none⟩ = some (.slice (some ⟨ga, 0, none⟩) 256 ca) ∧ V.cell? ⟨p, 1, none⟩ = some (.slice (some ⟨gb, 0, none⟩) 256 cb) ∧ V.cell? ⟨gb, i, none⟩ = some (.string si)) (first | exact ⟨k0, k1, hisc⟩ | exact ⟨b0, b1, bi⟩) (fail)
        rename_i hh
        clear hh
        generalize (wr.setCell ⟨ga, i, none⟩ (.string si)).drew = w3 at *
        clear hisc hwas hfz hcell b0 b1 bi k0 k1 k2
        go_wp2
        go_roundw
        case rel => exact ⟨k + 1, ri, by go_num, by omega, HR3.out, HM3.out, HB3.out⟩
        case measure => simp [intOf]; omega
      · have hbit : bitOn keep k = false := by simpa using hbit
        obtain ⟨hm1, hm2⟩ := HM.out.off hkl H2.out.l2 H2.out.hl hbit
        obtain ⟨i, hli⟩ : ∃ i, i = r.cached[k] := ⟨_, rfl⟩
        rw [← hli] at hm1 hi hcell
        have hwl : (crashW d.is d.was r.cached keep k).length = 256 := by rw [crashW_len]; exact H2.out.l2
        have hisc := (own_cell HR.out.is i (by rw [HM.out.len]; exact hi)).1
        have hfz := (own_cell HR.out.is i (by rw [HM.out.len]; exact hi)).2
        have hwas := (own_cell HR.out.was i (by show i < (crashW d.is d.was r.cached keep k).length; rw [hwl]; exact hi)).1
        have HPW := Lib.hid (HR.out.putIs i (by show i < ri.length; rw [HM.out.len]; exact hi) ((crashW d.is d.was r.cached keep k).getD i ⟨#[]⟩))
        simp only at HPW hisc hwas
        rw [← hm2] at HPW
        obtain ⟨si, hsi⟩ : ∃ si, si = (crashW d.is d.was r.cached keep k).getD i ⟨#[]⟩ := ⟨_, rfl⟩
        rw [hm2] at HPW
        rw [← hsi] at HPW hwas hm1
        rw [← hm2] at HPW
        have HM3 := Lib.hid hm1
        have HB3 := Lib.hid ((HB.out.set (p := gb) (i := i) z6 (.string si)).drew)
        have HR3 := Lib.hid HPW.out.drew
        have b0 : (wr.setCell ⟨gb, i, none⟩ (.string si)).cell? ⟨p, 0, none⟩ = _ := HPW.out.cell 0
        have b1 : (wr.setCell ⟨gb, i, none⟩ (.string si)).cell? ⟨p, 1, none⟩ = _ := HPW.out.cell 1
        have bi := (own_cell HPW.out.was i (by show i < (crashW d.is d.was r.cached keep (k + 1)).length; rw [crashW_len, H2.out.l2]; exact hi)).1
        simp only [rcells, List.getElem?_cons_succ, List.getElem?_cons_zero] at b0 b1 bi
        rw [hm2, ← hsi] at bi
        obtain ⟨ri2, hri2⟩ : ∃ x, x = ri.set i si := ⟨_, rfl⟩
        rw [← hri2] at HM3 HR3
        clear hm1 hm2 hli hsi hri2
        generalize ri.getD i ⟨#[]⟩ = wi at *
        unfold bitOn at hbit
        have q0 : (0 : Int) ≤ (i : Int) := by omega
        have q3 : (i : Int) < 256 := by omega
        clear HPW
        go_wp2
        go_region_held3 (fun V => V.cell? ⟨p, 0, none⟩ = some (.slice (some ⟨ga, 0, none⟩) 256 ca) ∧ V.cell? ⟨p, 1, none⟩ = some (.slice (some ⟨gb, 0, none⟩) 256 cb) ∧ V.cell? ⟨ga, i, none⟩ = some (.string si)) (first | exact ⟨k0, k1, hwas⟩ | exact ⟨b0, b1, bi⟩) (fail)
        rename_i hh
        clear hh
        generalize (wr.setCell ⟨gb, i, none⟩ (.string si)).drew = w3 at *
        clear hisc hwas hfz hcell b0 b1 bi k0 k1 k2
        go_wp2
        go_roundw
        case rel => exact ⟨k + 1, ri2, by go_num, by omega, HR3.out, HM3.out, HB3.out⟩
        case measure => simp [intOf]; omega
    · obtain rfl : k = r.cached.length := by omega
      have he := HM.out.end H2.out.far
      subst he
      generalize crashW d.is d.was r.cached keep r.cached.length = cw at *
      have k4 : wr.cell? ⟨p, 4, none⟩ = _ := HR.out.cell 4
      have k5 : wr.cell? ⟨p, 5, none⟩ = _ := HR.out.cell 5
      have k6 : wr.cell? ⟨p, 6, none⟩ = _ := HR.out.cell 6
      have k7 : wr.cell? ⟨p, 7, none⟩ = _ := HR.out.cell 7
      have k9 : wr.cell? ⟨p, 9, none⟩ = _ := HR.out.cell 9
      simp only [rcells, List.getElem?_cons_succ, List.getElem?_cons_zero] at k4 k5 k6 k7 k9
      have f2 := HR.out.frozen 2
      have f4 := HR.out.frozen 4
      have f5 := HR.out.frozen 5
      have f6 := HR.out.frozen 6
      have f7 := HR.out.frozen 7
      have f9 := HR.out.frozen 9
      have HR4 := Lib.hid ((((((HR.out.putNil.put 4 (.bool false) (r' := { r with was := cw, is := cw, cached := [], ci := false }) rfl rfl rfl rfl).put 5 (.int .i64 0) (r' := { r with was := cw, is := cw, cached := [], ci := false, cl := 0 }) rfl rfl rfl rfl).put 6 (.bool false) (r' := { r with was := cw, is := cw, cached := [], ci := false, cl := 0, fi := false }) rfl rfl rfl rfl).put 7 (.int .i64 0) (r' := { r with was := cw, is := cw, cached := [], ci := false, cl := 0, fi := false, fl := 0 }) rfl rfl rfl rfl)).put 9 (.bool true) (r' := { r with was := cw, is := cw, cached := [], ci := false, cl := 0, fi := false, fl := 0, gone := true }) rfl rfl rfl rfl)
      have HB4 := Lib.hid (HB.out.trans (HR.out.only ((((((((But.refl (Onl p) wr).set (p := p) (i := 2) rfl (.slice none 0 0)).set (p := p) (i := 4) rfl (.bool false)).set (p := p) (i := 5) rfl (.int .i64 0))).set (p := p) (i := 6) rfl (.bool false)).set (p := p) (i := 7) rfl (.int .i64 0)).set (p := p) (i := 9) rfl (.bool true))))
      clear HR HB HM H0 HM0 k0 k1
      go_wp2
      go_end0
      exact ⟨rfl, ⟨_, _, _, _, HR4.out, HQ.out⟩, HB4.out⟩
theorem rcrash_c (h : RQ w p F d l) (ho : d.ops ≤ 1000000) (keep : Int) (hk0 : 0 ≤ keep) (hk1 : keep < 18446744073709551616) : Calls Try.prog 30 #[.pointer (some ⟨p, 0, none⟩), .int .u64 keep] w fun e w' => e = .returned (.tuple #[]) ∧ RQ w' p F (crashD d l keep) (crL d l) ∧ But F w w' := by
  by_cases hd : d.dead = true
  · have e1 : crashD d l keep = d := by simp [crashD, hd]
    have e2 : crL d l = l := by simp [crL, hd]
    rw [e1, e2]
    refine (rcrash_dead h hd keep).mono ?_
    rintro e w1 ⟨rfl, rfl⟩
    exact ⟨rfl, h, But.refl _ _⟩
  · have e2 : crL d l = [] := by simp [crL, hd]
    rw [e2]
    exact rcrash_live h (by simpa using hd) ho keep hk0 hk1
end
end Go.Proofs.Ytjeaejeikgkcaaa
