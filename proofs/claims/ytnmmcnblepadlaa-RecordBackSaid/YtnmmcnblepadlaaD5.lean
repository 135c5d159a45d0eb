/- record.Decode, walked. -/
import Derived.Test.YtnmmcnblepadlaaD4
namespace Go.Proofs.Ytnmmcnblepadlaa
set_option linter.unusedSimpArgs false
set_option linter.unusedVariables false
open Go.RowKit

theorem drop_data (s : ByteArray) (k : Nat) : (s.extract k s.size).data.toList = s.data.toList.drop k := by
  have := congrArg (fun t : ByteArray => t.data.toList) (mkS_drop s.data.toList k)
  rw [mkS_of] at this
  exact this
def rcells (p : Rec × Value) : List Value := [.int .i64 p.1.kind, .string p.1.who, p.2, .string p.1.text]
def flat (ps : List (Rec × Value)) : List Value := ps.flatMap rcells
theorem flat_length (ps : List (Rec × Value)) : (flat ps).length = ps.length * 4 := by
  induction ps with
  | nil => rfl
  | cons p ps ih => unfold flat at *; rw [List.flatMap_cons, List.length_append, ih, List.length_cons]; simp [rcells]; omega
theorem flat_append (ps qs : List (Rec × Value)) : flat (ps ++ qs) = flat ps ++ flat qs := by unfold flat; exact List.flatMap_append
theorem flat_get (ps : List (Rec × Value)) (i j : Nat) (hi : i < ps.length) (hj : j < 4) : (flat ps)[i * 4 + j]? = (rcells ps[i])[j]? := by
  induction ps generalizing i with
  | nil => cases hi
  | cons p ps ih =>
    have e : flat (p :: ps) = rcells p ++ flat ps := rfl
    cases i with
    | zero => rw [e, List.getElem?_append_left (by simp [rcells]; omega)]; simp
    | succ i =>
      rw [e, List.getElem?_append_right (by simp [rcells]; omega)]
      have := ih i (by simpa using hi)
      simp only [List.getElem_cons_succ]
      rw [← this]
      congr 1
      simp [rcells]; omega
/-- v is a slice, of a block at or behind B, that owns the records rs. -/
def OwnR (B : Nat) (w : World) (v : Value) (rs : List Rec) : Prop := ∃ ps : List (Rec × Value), ps.map (·.1) = rs ∧ w.ownsRow B 24 4 v rs.length (flat ps) ∧ ∀ p ∈ ps, SlT nE 3 w p.2 p.1.nums ∧ ∀ n ∈ p.1.nums, i64ok n
theorem OwnR.nil (B : Nat) (w : World) : OwnR B w (.slice none 0 0) [] := ⟨[], rfl, ⟨rfl, .inl ⟨rfl, rfl⟩⟩, fun p hp => absurd hp List.not_mem_nil⟩
theorem OwnR.form {B : Nat} {w : World} {v : Value} {rs : List Rec} (h : OwnR B w v rs) : ∃ A c, v = .slice A rs.length c := by
  obtain ⟨ps, _, h, _⟩ := h
  rcases h.2 with ⟨rfl, h0⟩ | ⟨g, cap, cur, rfl, _⟩
  · exact ⟨none, 0, by rw [h0]⟩
  · exact ⟨_, _, rfl⟩
theorem OwnR.new {B : Nat} {w w' : World} {v : Value} {rs : List Rec} (h : OwnR B w v rs) (hn : New w w') : OwnR B w' v rs := by
  obtain ⟨ps, e, h, hs⟩ := h
  refine ⟨ps, e, ⟨h.1, ?_⟩, fun p hp => ⟨(hs p hp).1.new hn, (hs p hp).2⟩⟩
  rcases h.2 with ⟨rfl, h0⟩ | ⟨g, cap, cur, rfl, h1, h2, h3⟩
  · exact .inl ⟨rfl, h0⟩
  · exact .inr ⟨g, cap, cur, rfl, h1, hn.block h2, h3⟩
theorem OwnR.slr {B : Nat} {w : World} {v : Value} {rs : List Rec} (h : OwnR B w v rs) : SlR w v rs := by
  obtain ⟨ps, e, h, hs⟩ := h
  rcases h.2 with ⟨rfl, h0⟩ | ⟨g, cap, cur, rfl, h1, h2, h3, h4, h5, h6⟩
  · exact ⟨none, 0, by rw [h0], by omega, Nat.zero_le _, fun i hi => by omega⟩
  · refine ⟨_, _, rfl, h3, h4, fun i hi => ⟨g, 0, rfl, ?_⟩⟩
    have hi2 : i < ps.length := by rw [← e] at hi; simpa using hi
    have hc : ∀ j, j < 4 → w.cell? ⟨g, 0 + i * 4 + j, none⟩ = (rcells ps[i])[j]? := fun j hj => by
      have hj2 : j < (rcells ps[i]).length := by simpa [rcells] using hj
      have hc1 := flat_get ps i j hi2 hj
      rw [List.getElem?_eq_getElem hj2] at hc1 ⊢
      have := World.ownsRow.cells h (g := g) rfl _ _ hc1
      rw [Addr.add_lit] at this
      rw [show 0 + i * 4 + j = 0 + (i * 4 + j) by omega]
      exact this
    have er : rs[i] = ps[i].1 := by subst e; simp
    obtain ⟨s1, s2⟩ := hs _ (List.getElem_mem hi2)
    rw [er]
    exact ⟨ps[i].2, lt_of_block h2, hc 0 (by omega), hc 1 (by omega), hc 2 (by omega), hc 3 (by omega), s1.sl, s2⟩
theorem info24 : (Try.prog.info? 24).map (fun i => (i.zero, i.size, i.bytes)) = some (some (.agg #[.int .i64 0, .string ⟨#[]⟩, .slice none 0 0, .string ⟨#[]⟩]), 4, 64) := by kernel_rfl
/-- append(own, r), r a record that lies in a block of its own. -/
theorem app_rec (w0 w : World) {ops : Array Oper} {rest : List Oper} {o : Oper} {a : Act} {Q : Exit → Act → World → Prop} (hgd : o.guard = none) (s x : Operand)
    (ho : o.op = .call { callee := .builtin .append, args := #[s, x], argTypes := #[25, 25] })
    (v : Value) (rs : List Rec) (hs : a.eval s = v) (hn : New w0 w) (hown : OwnR w0.heap.size w v rs)
    (b c : Nat) (r : Rec) (u : Value) (hx : a.eval x = .slice (some ⟨b, 0, none⟩) 1 c) (hb : Box w b #[.int .i64 r.kind, .string r.who, u, .string r.text] 24) (hT : SlT nE 3 w u r.nums) (hk : ∀ n ∈ r.nums, i64ok n) (hl : rs.length ≤ 1073741824)
    (h : ∀ A c' w', OwnR w0.heap.size w' (.slice A (rs.length + 1) c') (rs ++ [r]) → New w0 w' → Kept 24 w w' → wpList Try.prog ops Q rest (a.put o.dst (.slice A (rs.length + 1) c')) w') : wpList Try.prog ops Q (o :: rest) a w := by
  obtain ⟨i0, hi, hz0, hz1, hz2⟩ := info_parts info24
  obtain ⟨ps, e, hrow, hps⟩ := hown
  have hu1 : u.oneCell' = true := by obtain ⟨A, c, rfl, _⟩ := hT; rfl
  refine wpList_append_own w hgd s x 25 ho w0.heap.size 24 i0 _ 4 64 (by kernel_rfl) hi hz0 hz1 hz2 rfl (by decide) v rs.length (flat ps) hs hrow ⟨b, 0, none⟩ 1 c (rcells (r, u)) hx rfl ?_ ?_ (by unfold maxLen; omega) (by omega) hn.le ?_
  · intro j y hj
    rw [Addr.add_lit, Nat.zero_add, hb.cell, ← hj]
    simp [rcells]
  · intro y hy
    simp only [rcells, List.mem_cons, List.not_mem_nil, or_false] at hy
    rcases hy with rfl | rfl | rfl | rfl
    · rfl
    · rfl
    · exact hu1
    · rfl
  · intro v' w' hrow' hg _
    have hkept : Kept 24 w w' := by
      refine ⟨hg.size, fun p C T fr hp hT => ?_⟩
      rw [hg.block p (lt_of_block hp) ?_]
      · exact hp
      · intro hk
        rcases hrow.2 with ⟨rfl, _⟩ | ⟨g, cap, cur, rfl, _, hh, _⟩
        · simp [Value.ownBlock] at hk
        · simp [Value.ownBlock] at hk
          subst hk
          rw [hp] at hh
          injection hh with hh; injection hh with _ hh _
          exact hT hh
    have hn' : New w0 w' := Below.grown hn hg hn.le fun k hk => by
      rcases hrow.2 with ⟨rfl, _⟩ | ⟨g, cap, cur, rfl, hB, _⟩
      · simp [Value.ownBlock] at hk
      · simp [Value.ownBlock] at hk; omega
    have hown' : OwnR w0.heap.size w' v' (rs ++ [r]) := by
      refine ⟨ps ++ [(r, u)], by simp [e], ?_, fun p hp => ?_⟩
      · rw [flat_append, List.length_append]; exact hrow'
      · rcases List.mem_append.1 hp with hp | hp
        · exact ⟨(hps p hp).1.kept hkept (by decide), (hps p hp).2⟩
        · rw [List.mem_singleton.1 hp]; exact ⟨hT.kept hkept (by decide), hk⟩
    obtain ⟨A, c', rfl⟩ := hown'.form
    rw [List.length_append] at *
    exact h A c' w' hown' hn' hkept

set_option maxHeartbeats 4000000 in
theorem decode_c (s : ByteArray) (w : World) (hs : s.size ≤ 1000000) :
    Calls Try.prog 13 #[.string s] w fun e w' => ∃ v n rs, e = .returned (.tuple #[v, .int .i64 (n : Nat)]) ∧ SlR w' v rs ∧ Dec s.data.toList rs n ∧ New w w' := by
  go_enter Try.func13, Try.ntmps13
  go_wp2
  go_loopw [4, 5] (fun v4 v5 w' => ∃ (k : Nat) (rs : List Rec) (A : Option Addr) (c : Nat), v5 = .int .i64 (k : Int) ∧ v4 = .slice A rs.length c ∧ k ≤ s.size ∧ Hid (OwnR w.heap.size w' (.slice A rs.length c) rs) ∧ Hid (DecTo s.data.toList rs k) ∧ Hid (New w w')) (fun _ v5 _ => s.size - (intOf v5).toNat)
  case atStart => exact ⟨0, [], none, 0, rfl, rfl, by omega, OwnR.nil _ _, DecTo.start _, New.refl _⟩
  case round =>
    obtain ⟨k, rs, A, c, rfl, rfl, hk, HO, HD, HN⟩ := hrel
    have HF := Lib.hid (fun W => first_c (s.extract k s.size) W (by rw [← size_data, Lib.extract_data, List.length_take]; omega))
    go_wp2_with fail
    refine (HF.out _).mono ?_
    rintro e w1 ⟨v, n, rfl, hF, hn1⟩
    obtain ⟨kk, xx, AA, ll, cc, yy, rfl⟩ := hF.form
    have hdr : (s.extract k s.size).data.toList = s.data.toList.drop k := drop_data s k
    rw [hdr] at hF
    clear hdr HF
    have hb1 := Box.last w1 #[.int .i64 kk, .string xx, .slice AA ll cc, .string yy] 24
    have HN1 := Lib.hid (HN.out.trans hn1)
    rcases hF with ⟨r, hr, rfl, hT⟩ | ⟨rfl, hno, _⟩
    · obtain ⟨u, e, hsl, hok⟩ := hT
      obtain ⟨kind, who, nums, text⟩ := r
      simp only [Value.agg.injEq, Array.mk.injEq, List.cons.injEq, and_true, Value.int.injEq, Value.string.injEq, true_and] at e
      obtain ⟨rfl, rfl, rfl, rfl⟩ := e
      have hst := HD.out.step hr
      have hbl := body_len ⟨kk, xx, nums, yy⟩
      have hle : k + (body ⟨kk, xx, nums, yy⟩).length ≤ s.size := by rw [← size_data]; exact hst.2.2
      have hrl := hst.len
      generalize (body ⟨kk, xx, nums, yy⟩).length = n at *
      have HST := Lib.hid hst
      have hne : ((n : Int) == 0) = false := by rw [beq_eq_false_iff_ne]; omega
      obtain ⟨W2, hW2⟩ : ∃ W2, W2 = (w1.alloc (.cells #[.int .i64 kk, .string xx, .slice AA ll cc, .string yy] 24)).alloc (.cells #[.int .i64 kk, .string xx, .slice AA ll cc, .string yy] 24) := ⟨_, rfl⟩
      have hn12 : New w1 W2 := by rw [hW2]; exact ((New.refl w1).alloc _).alloc _
      have hb2 : Box W2 (w1.heap.size + 1) #[.int .i64 kk, .string xx, .slice AA ll cc, .string yy] 24 := by rw [hW2]; exact Box.last2 _ _ _ _
      have HB2 := Lib.hid hb2
      have HN2 := Lib.hid (HN1.out.trans hn12)
      have HO2 := Lib.hid ((HO.out.new hn1).new hn12)
      have HS2 := Lib.hid (hsl.new hn12)
      have HK := Lib.hid hok
      have HW2 := Lib.hid hW2
      have hrl2 : rs.length ≤ 1000000 := by rw [List.length_append] at hrl; omega
      clear hst hr hb1 hb2 hn12 hsl hok hW2 hrl HO HD HN HN1 hn1
      go_wp2_with (at_builtin; refine app_rec w _ rfl _ _ rfl _ rs rfl (by rw [← HW2.out]; exact HN2.out) (by rw [← HW2.out]; exact HO2.out) _ _ ⟨kk, xx, nums, yy⟩ (.slice AA ll cc) rfl (by rw [← HW2.out]; exact HB2.out) (by rw [← HW2.out]; exact HS2.out) HK.out (by omega) ?_)
      intro A5 c5 w5 ho5 hn5 _
      have HO5 := Lib.hid ho5
      have HN5 := Lib.hid hn5
      clear ho5 hn5
      go_wp2
      go_roundw
      case rel => exact ⟨k + n, rs ++ [(⟨kk, xx, nums, yy⟩ : Rec)], A5, c5, by go_num, by simp, by omega, (by rw [List.length_append]; exact HO5.out : OwnR _ _ (.slice A5 (rs ++ [(⟨kk, xx, nums, yy⟩ : Rec)]).length c5) _), HST.out, HN5.out⟩
      case measure => simp [intOf]; omega
    · have HDEC := Lib.hid (HD.out.stop hno)
      have HO1 := Lib.hid (HO.out.new hn1)
      clear hno hn1
      go_wp2
      go_ret2
      exact ⟨_, k, rs, rfl, (HO1.out.new ((New.refl w1).alloc _)).slr, HDEC.out, HN1.out.alloc _⟩
end Go.Proofs.Ytnmmcnblepadlaa
