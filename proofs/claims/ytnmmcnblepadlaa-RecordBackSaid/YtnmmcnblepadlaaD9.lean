/- Rows of records, whose numbers lie in an older world. -/
import Derived.Test.YtnmmcnblepadlaaD8
namespace Go.Proofs.Ytnmmcnblepadlaa
set_option linter.unusedSimpArgs false
set_option linter.unusedVariables false
open Go.RowKit

def OwnX (W0 w : World) (v : Value) (rs : List Rec) : Prop := ∃ ps : List (Rec × Value), ps.map (·.1) = rs ∧ w.ownsRow W0.heap.size 24 4 v rs.length (flat ps) ∧ ∀ p ∈ ps, SlE nE W0 p.2 p.1.nums ∧ ∀ n ∈ p.1.nums, i64ok n
theorem OwnX.form {W0 w : World} {v : Value} {rs : List Rec} (h : OwnX W0 w v rs) : ∃ A c, v = .slice A rs.length c := by
  obtain ⟨ps, _, h, _⟩ := h
  rcases h.2 with ⟨rfl, h0⟩ | ⟨g, cap, cur, rfl, _⟩
  · exact ⟨none, 0, by rw [h0]⟩
  · exact ⟨_, _, rfl⟩
theorem OwnX.new {W0 w w' : World} {v : Value} {rs : List Rec} (h : OwnX W0 w v rs) (hn : New w w') : OwnX W0 w' v rs := by
  obtain ⟨ps, e, h, hs⟩ := h
  refine ⟨ps, e, ⟨h.1, ?_⟩, hs⟩
  rcases h.2 with ⟨rfl, h0⟩ | ⟨g, cap, cur, rfl, h1, h2, h3⟩
  · exact .inl ⟨rfl, h0⟩
  · exact .inr ⟨g, cap, cur, rfl, h1, hn.block h2, h3⟩
theorem OwnX.kept {W0 w w' : World} {v : Value} {rs : List Rec} (h : OwnX W0 w v rs) {F : TypeId} (hk : Kept F w w') (hF : (24 : TypeId) ≠ F) : OwnX W0 w' v rs := by
  obtain ⟨ps, e, h, hs⟩ := h
  refine ⟨ps, e, ⟨h.1, ?_⟩, hs⟩
  rcases h.2 with ⟨rfl, h0⟩ | ⟨g, cap, cur, rfl, h1, h2, h3⟩
  · exact .inl ⟨rfl, h0⟩
  · exact .inr ⟨g, cap, cur, rfl, h1, hk.2 _ _ _ _ h2 hF, h3⟩
theorem OwnX.slr {W0 w : World} {v : Value} {rs : List Rec} (h : OwnX W0 w v rs) (hn : New W0 w) : SlR w v rs := by
  obtain ⟨ps, e, h, hs⟩ := h
  rcases h.2 with ⟨rfl, h0⟩ | ⟨g, cap, cur, rfl, h1, h2, h3, h4, h5, h6⟩
  · exact ⟨none, 0, by rw [h0], by omega, Nat.zero_le _, fun i hi => by omega⟩
  · refine ⟨_, _, rfl, h3, h4, fun i hi => ⟨g, 0, rfl, ?_⟩⟩
    have hi2 : i < ps.length := by rw [← e] at hi; simpa using hi
    have hc : ∀ j, j < 4 → w.cell? ⟨g, 0 + i * 4 + j, none⟩ = (rcells ps[i])[j]? := fun j hj => by
      have hj2 : j < (rcells ps[i]).length := by simpa [rcells] using hj
      have hc1 := flat_get ps i j hi2 hj
      rw [List.getElem?_eq_getElem hj2] at hc1 ⊢
      have := World.ownsRow.cells h (g := g) rfl _ _ hc1
      rw [Addr.add_lit] at this
      rw [show 0 + i * 4 + j = 0 + (i * 4 + j) by omega]
      exact this
    have er : rs[i] = ps[i].1 := by subst e; simp
    obtain ⟨s1, s2⟩ := hs _ (List.getElem_mem hi2)
    rw [er]
    exact ⟨ps[i].2, lt_of_block h2, hc 0 (by omega), hc 1 (by omega), hc 2 (by omega), hc 3 (by omega), s1.new hn, s2⟩
theorem SlR.pairs {w : World} {v : Value} {rs : List Rec} (h : SlR w v rs) : ∃ A c, v = .slice A rs.length c ∧ rs.length ≤ c ∧ c ≤ maxLen ∧ ∃ ps : List (Rec × Value), ps.map (·.1) = rs ∧ (∀ p ∈ ps, SlE nE w p.2 p.1.nums ∧ ∀ n ∈ p.1.nums, i64ok n) ∧ (rs ≠ [] → ∃ b o, A = some ⟨b, o, none⟩ ∧ ∀ j u, (flat ps)[j]? = some u → w.cell? ⟨b, o + j, none⟩ = some u) := by
  obtain ⟨A, c, rfl, h1, h2, h3⟩ := h
  refine ⟨A, c, rfl, h1, h2, ?_⟩
  have hex : ∀ i (hi : i < rs.length), ∃ u : Value, ∃ b o, A = some ⟨b, o, none⟩ ∧ (b < w.heap.size ∧ w.cell? ⟨b, o + i * 4, none⟩ = some (.int .i64 rs[i].kind) ∧ w.cell? ⟨b, o + i * 4 + 1, none⟩ = some (.string rs[i].who) ∧ w.cell? ⟨b, o + i * 4 + 2, none⟩ = some u ∧ w.cell? ⟨b, o + i * 4 + 3, none⟩ = some (.string rs[i].text) ∧ SlE nE w u rs[i].nums ∧ ∀ n ∈ rs[i].nums, i64ok n) := fun i hi => by
    obtain ⟨b, o, e, u, hr⟩ := h3 i hi
    exact ⟨u, b, o, e, hr⟩
  have hx : ∃ us : List Value, us.length = rs.length ∧ ∀ i (h : i < us.length), ∀ (hi : i < rs.length), ∃ b o, A = some ⟨b, o, none⟩ ∧ (b < w.heap.size ∧ w.cell? ⟨b, o + i * 4, none⟩ = some (.int .i64 rs[i].kind) ∧ w.cell? ⟨b, o + i * 4 + 1, none⟩ = some (.string rs[i].who) ∧ w.cell? ⟨b, o + i * 4 + 2, none⟩ = some us[i] ∧ w.cell? ⟨b, o + i * 4 + 3, none⟩ = some (.string rs[i].text) ∧ SlE nE w us[i] rs[i].nums ∧ ∀ n ∈ rs[i].nums, i64ok n) := by
    refine ⟨List.ofFn fun i : Fin rs.length => Classical.choose (hex i.1 i.2), by simp, fun i h hi => ?_⟩
    have := Classical.choose_spec (hex i hi)
    simpa using this
  obtain ⟨us, hul, hus⟩ := hx
  refine ⟨rs.zip us, by rw [List.map_fst_zip]; omega, fun p hp => ?_, fun h0 => ?_⟩
  · obtain ⟨i, hi, rfl⟩ := List.getElem_of_mem hp
    have hi1 : i < rs.length := by rw [List.length_zip] at hi; omega
    obtain ⟨b, o, _, _, _, _, _, _, h8, h9⟩ := hus i (by omega) hi1
    rw [List.getElem_zip]
    exact ⟨h8, h9⟩
  · obtain ⟨b, o, e, _⟩ := h3 0 (List.length_pos_iff.2 h0)
    refine ⟨b, o, e, fun j u hj => ?_⟩
    have hjl : j < (flat (rs.zip us)).length := (List.getElem?_eq_some_iff.1 hj).1
    rw [flat_length, List.length_zip] at hjl
    have hi1 : j / 4 < rs.length := by omega
    have hdm : j = j / 4 * 4 + j % 4 := by omega
    have hiz : j / 4 < (rs.zip us).length := by rw [List.length_zip]; omega
    rw [hdm, flat_get _ _ _ hiz (Nat.mod_lt _ (by omega)), List.getElem_zip] at hj
    obtain ⟨b', o', e', hb, c0, c1, c2, c3, _⟩ := hus (j / 4) (by omega) hi1
    rw [e'] at e
    injection e with e; injection e with e1 e2
    subst e1; subst e2
    rw [hdm, ← Nat.add_assoc]
    have h4 : j % 4 < 4 := Nat.mod_lt _ (by omega)
    generalize j % 4 = q at *
    match q, h4, hj with
    | 0, _, hj => rw [← hj]; exact c0
    | 1, _, hj => rw [← hj]; exact c1
    | 2, _, hj => rw [← hj]; exact c2
    | 3, _, hj => rw [← hj]; exact c3
/-- append(own, ..), the cells at an address. -/
theorem app_cells (W0 w : World) {ops : Array Oper} {rest : List Oper} {o : Oper} {a : Act} {Q : Exit → Act → World → Prop} (hgd : o.guard = none) (s x : Operand)
    (ho : o.op = .call { callee := .builtin .append, args := #[s, x], argTypes := #[25, 25] })
    (v : Value) (rs : List Rec) (hs : a.eval s = v) (hn : New W0 w) (hown : OwnX W0 w v rs)
    (b i c : Nat) (qs : List (Rec × Value)) (hx : a.eval x = .slice (some ⟨b, i, none⟩) qs.length c) (hc : ∀ j u, (flat qs)[j]? = some u → w.cell? ⟨b, i + j, none⟩ = some u) (hq : ∀ p ∈ qs, SlE nE W0 p.2 p.1.nums ∧ ∀ n ∈ p.1.nums, i64ok n) (hl : rs.length + qs.length ≤ 1073741824)
    (h : ∀ A c' w', OwnX W0 w' (.slice A (rs.length + qs.length) c') (rs ++ qs.map (·.1)) → New W0 w' → Kept 24 w w' → wpList Try.prog ops Q rest (a.put o.dst (.slice A (rs.length + qs.length) c')) w') : wpList Try.prog ops Q (o :: rest) a w := by
  obtain ⟨i0, hi, hz0, hz1, hz2⟩ := info_parts info24
  obtain ⟨ps, e, hrow, hps⟩ := hown
  refine wpList_append_own w hgd s x 25 ho W0.heap.size 24 i0 _ 4 64 (by kernel_rfl) hi hz0 hz1 hz2 rfl (by decide) v rs.length (flat ps) hs hrow ⟨b, i, none⟩ qs.length c (flat qs) hx (flat_length qs) ?_ ?_ (by unfold maxLen; omega) (by omega) hn.le ?_
  · intro j y hj
    rw [Addr.add_lit]
    exact hc j y hj
  · intro y hy
    obtain ⟨p, hp, hy⟩ := List.mem_flatMap.1 hy
    have hu1 : p.2.oneCell' = true := by obtain ⟨A, c, e, _⟩ := (hq p hp).1; rw [e]; rfl
    simp only [rcells, List.mem_cons, List.not_mem_nil, or_false] at hy
    rcases hy with rfl | rfl | rfl | rfl
    · rfl
    · rfl
    · exact hu1
    · rfl
  · intro v' w' hrow' hg _
    have hkept : Kept 24 w w' := by
      refine ⟨hg.size, fun p C T fr hp hT => ?_⟩
      rw [hg.block p (lt_of_block hp) ?_]
      · exact hp
      · intro hk
        rcases hrow.2 with ⟨rfl, _⟩ | ⟨g, cap, cur, rfl, _, hh, _⟩
        · simp [Value.ownBlock] at hk
        · simp [Value.ownBlock] at hk
          subst hk
          rw [hp] at hh
          injection hh with hh; injection hh with _ hh _
          exact hT hh
    have hn' : New W0 w' := Below.grown hn hg hn.le fun k hk => by
      rcases hrow.2 with ⟨rfl, _⟩ | ⟨g, cap, cur, rfl, hB, _⟩
      · simp [Value.ownBlock] at hk
      · simp [Value.ownBlock] at hk; omega
    have hown' : OwnX W0 w' v' (rs ++ qs.map (·.1)) := by
      refine ⟨ps ++ qs, by simp [e], ?_, fun p hp => ?_⟩
      · rw [flat_append, List.length_append, List.length_map]; exact hrow'
      · rcases List.mem_append.1 hp with hp | hp
        · exact hps p hp
        · exact hq p hp
    obtain ⟨A, c', rfl⟩ := hown'.form
    rw [List.length_append, List.length_map] at *
    exact h A c' w' hown' hn' hkept
/-- append(own, xs...), xs a slice of records of the older world. -/
theorem app_recs (W0 w : World) {ops : Array Oper} {rest : List Oper} {o : Oper} {a : Act} {Q : Exit → Act → World → Prop} (hgd : o.guard = none) (s x : Operand)
    (ho : o.op = .call { callee := .builtin .append, args := #[s, x], argTypes := #[25, 25] })
    (v : Value) (rs : List Rec) (hs : a.eval s = v) (hn : New W0 w) (hown : OwnX W0 w v rs)
    (u : Value) (rs' : List Rec) (hx : a.eval x = u) (hy : SlR W0 u rs') (hl : rs.length + rs'.length ≤ 1073741824)
    (h : ∀ A c' w', OwnX W0 w' (.slice A (rs.length + rs'.length) c') (rs ++ rs') → New W0 w' → Kept 24 w w' → wpList Try.prog ops Q rest (a.put o.dst (.slice A (rs.length + rs'.length) c')) w') : wpList Try.prog ops Q (o :: rest) a w := by
  obtain ⟨A, c, rfl, h1, h2, qs, e, hq, hc⟩ := hy.pairs
  by_cases h0 : rs' = []
  · subst h0
    obtain ⟨B, d, rfl⟩ := hown.form
    refine wpList_plain hgd fun K hK => ?_
    obtain ⟨i0, hi, hz0, hz1, hz2⟩ := info_parts info24
    have ht : Try.prog.underlying 25 = some (.slice 24) := by kernel_rfl
    have hrun : (Builtin.append_ #[25, 25] o.type #[.slice B rs.length d, .slice A 0 c]).run Try.prog w = .ok (.slice B rs.length d) w := by
      obtain ⟨ps, _, hrow, _⟩ := hown
      rcases hrow.2 with ⟨e, h0⟩ | ⟨g, cap, cur, e, _, hh, hnc, _⟩
      · injection e with e1 e2 e3
        subst e1; subst e3
        rcases A with _ | ad <;> simp [Builtin.append_, run_underlying ht, sizeOf, typeInfo, hi, Builtin.lenOf, Builtin.firstCells, h0, loadCells, loadCellsFrom]
      · injection e with e1 e2 e3
        subst e1; subst e3
        rcases A with _ | ad <;> simp [Builtin.append_, run_underlying ht, sizeOf, typeInfo, hi, Builtin.lenOf, Builtin.firstCells, hnc, storeCells, loadCells, loadCellsFrom]
    unfold Oper.wp execOp
    simp only [ho, resolve, invoke, builtin, Sem.run_bind, Sem.run_pure, Result.andThen_ok, List.map_toArray, List.map_cons, List.map_nil, hs, hx, List.length_nil, hrun]
    exact hK _ _ (h B d w (by simpa using hown) hn (Kept.refl _ _))
  · obtain ⟨b, o', rfl, hcell⟩ := hc h0
    have hlen : qs.length = rs'.length := by rw [← e, List.length_map]
    subst e
    rw [List.length_map] at *
    exact app_cells W0 w hgd s x ho v rs hs hn hown b o' c qs hx (fun j u hj => hn.still (hcell j u hj)) hq (by omega) h
end Go.Proofs.Ytnmmcnblepadlaa
