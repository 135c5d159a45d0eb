/- The reference's disk as the program's is: its stores; Cut, Fail, Power, Read walked. -/
import Derived.Test.YtjeaejeikgkcaaaN3
namespace Go.Proofs.Ytjeaejeikgkcaaa
set_option linter.unusedSimpArgs false
set_option linter.unusedVariables false
open Go.RowKit
/-- The reference's disk r tells the program's disk. -/
structure Rel (d : DS) (l : List Nat) (r : RS) : Prop where
  was : r.was = d.was
  is : r.is = d.is
  cached : r.cached = l
  n : r.n = d.ops
  cut : d.cut = if r.ci then r.cl else -1
  fail : d.fail = if r.fi then r.fl else -1
  c0 : r.ci = true → 0 ≤ r.cl
  f0 : r.fi = true → 0 ≤ r.fl
  c1 : -d.ops ≤ r.cl
  f1 : -d.ops ≤ r.fl
  c2 : r.cl ≤ 9223372036854775807
  f2 : r.fl ≤ 9223372036854775807
  keep : r.keep = d.keep
  gone : r.gone = d.dead
  broken : r.broken = d.failing
  l1 : d.is.length = 256
  l2 : d.was.length = 256
  hl : ∀ i ∈ l, i < 256
  o0 : 0 ≤ d.ops
  len : (l.length : Int) ≤ d.ops
  k0 : 0 ≤ d.keep
  k1 : d.keep < 18446744073709551616
  nd : l.Nodup
  far : ∀ i, i ∉ l → d.is[i]? = d.was[i]?
/-- The reference's disk in memory tells the program's disk d. -/
def RQ (w : World) (p : Nat) (F : Nat → Prop) (d : DS) (l : List Nat) : Prop := ∃ r a b c, Rdk w p F r a b c ∧ Rel d l r
theorem OwnE.put {α : Type} {enc : α → Value} {E : TypeId} {B : Nat} {w : World} {g n cap : Nat} {xs : List α} (h : OwnE enc E B w (.slice (some ⟨g, 0, none⟩) n cap) xs) (i : Nat) (hi : i < xs.length) (y : α) :
    OwnE enc E B (w.setCell ⟨g, i, none⟩ (enc y)) (.slice (some ⟨g, 0, none⟩) n cap) (xs.set i y) := by
  obtain ⟨h0, h⟩ := h
  rcases h with ⟨e, _⟩ | ⟨g', cap', cur, e, h1, h2, h3, h4, h5, h6⟩
  · cases e
  · injection e with e1 e2 e3
    injection e1 with e1
    injection e1 with e1 _ _
    subst e1
    refine ⟨by simp, .inr ⟨g, cap', cur.setIfInBounds i (enc y), by rw [e3, e2]; simp, h1, ?_, by simpa using h3, h4, by simpa using h5, ?_⟩⟩
    · exact Box.set (show Box w g cur E from h2) i (enc y)
    · rw [Array.toList_setIfInBounds, List.take_set, List.length_set, h6, List.map_set]
section
variable {w w' : World} {p : Nat} {F S : Nat → Prop} {r : RS} {a b c : Value}
/-- A cell of the disk itself. -/
theorem Rdk.put (h : Rdk w p F r a b c) (i : Nat) (u : Value) {r' : RS} (hr : (rcells r a b c).set i u = rcells r' a b c) (e1 : r'.was = r.was) (e2 : r'.is = r.is) (e3 : r'.cached = r.cached) : Rdk (w.setCell ⟨p, i, none⟩ u) p F r' a b c := by
  refine ⟨?_, by rw [e1]; exact h.was.apart h.box (by decide), by rw [e2]; exact h.is.apart h.box (by decide), by rw [e3]; exact h.cached.apart h.box (by decide), h.fp, h.fa, h.fb, h.fc, h.ab, fun k hk => by simpa [World.setCell] using h.lt k hk⟩
  have := h.box.set i u
  rw [List.setIfInBounds_toArray, hr] at this
  exact this
theorem Rdk.putNil (h : Rdk w p F r a b c) : Rdk (w.setCell ⟨p, 2, none⟩ (.slice none 0 0)) p F { r with cached := [] } a b (.slice none 0 0) := by
  refine ⟨?_, h.was.apart h.box (by decide), h.is.apart h.box (by decide), OwnE.nil _ _ _ _, h.fp, h.fa, h.fb, fun k hk => absurd hk (nil_foot k), h.ab, fun k hk => by simpa [World.setCell] using h.lt k hk⟩
  have := h.box.set 2 (.slice none 0 0)
  rw [List.setIfInBounds_toArray] at this
  exact this
theorem foot_self (g n c : Nat) : Foot (.slice (some ⟨g, 0, none⟩) n c) g := by simp [Foot, Value.ownBlock]
theorem foot_is {g n c k : Nat} (h : Foot (.slice (some ⟨g, 0, none⟩) n c) k) : k = g := by simpa [Foot, Value.ownBlock, eq_comm] using h
/-- A sector as it lasted. -/
theorem Rdk.putWas {g n m : Nat} (h : Rdk w p F r (.slice (some ⟨g, 0, none⟩) n m) b c) (i : Nat) (hi : i < r.was.length) (s : ByteArray) : Rdk (w.setCell ⟨g, i, none⟩ (.string s)) p F { r with was := r.was.set i s } (.slice (some ⟨g, 0, none⟩) n m) b c := by
  have hg := foot_self g n m
  have hb : But (Onl g) w (w.setCell ⟨g, i, none⟩ (.string s)) := setOther
  refine ⟨hb.box h.box fun e => foot_no h.was h.box (by decide) (by rw [show p = g from e]; exact hg), h.was.put i hi s, h.is.frame hb fun k hk e => h.ab g hg ((show k = g from e) ▸ hk), h.cached.frame hb fun k hk e => foot_two h.was h.cached (by decide) hg ((show k = g from e) ▸ hk), h.fp, h.fa, h.fb, h.fc, h.ab, fun k hk => by simpa [World.setCell] using h.lt k hk⟩
/-- A sector as it is. -/
theorem Rdk.putIs {g n m : Nat} (h : Rdk w p F r a (.slice (some ⟨g, 0, none⟩) n m) c) (i : Nat) (hi : i < r.is.length) (s : ByteArray) : Rdk (w.setCell ⟨g, i, none⟩ (.string s)) p F { r with is := r.is.set i s } a (.slice (some ⟨g, 0, none⟩) n m) c := by
  have hg := foot_self g n m
  have hb : But (Onl g) w (w.setCell ⟨g, i, none⟩ (.string s)) := setOther
  refine ⟨hb.box h.box fun e => foot_no h.is h.box (by decide) (by rw [show p = g from e]; exact hg), h.was.frame hb fun k hk e => h.ab k hk ((show k = g from e) ▸ hg), h.is.put i hi s, h.cached.frame hb fun k hk e => foot_two h.is h.cached (by decide) hg ((show k = g from e) ▸ hk), h.fp, h.fa, h.fb, h.fc, h.ab, fun k hk => by simpa [World.setCell] using h.lt k hk⟩
theorem Rdk.drew (h : Rdk w p F r a b c) : Rdk w.drew p F r a b c := ⟨h.box, h.was.new (New.refl _).drew, h.is.new (New.refl _).drew, h.cached.new (New.refl _).drew, h.fp, h.fa, h.fb, h.fc, h.ab, h.lt⟩
/-- Its rows are blocks. -/
theorem Rdk.rows (h : Rdk w p F r a b c) (l1 : r.was.length = 256) (l2 : r.is.length = 256) : ∃ ga ca gb cb, a = .slice (some ⟨ga, 0, none⟩) 256 ca ∧ b = .slice (some ⟨gb, 0, none⟩) 256 cb ∧ 256 ≤ ca ∧ ca ≤ maxLen ∧ 256 ≤ cb ∧ cb ≤ maxLen ∧ F ga ∧ F gb := by
  obtain ⟨ga, ca, e1, h1, h2, _⟩ := h.was.at (by intro e; rw [e] at l1; cases l1)
  obtain ⟨gb, cb, e2, h3, h4, _⟩ := h.is.at (by intro e; rw [e] at l2; cases l2)
  rw [l1] at e1 h1
  rw [l2] at e2 h3
  subst e1 e2
  exact ⟨ga, ca, gb, cb, rfl, rfl, h1, h2, h3, h4, h.fa _ (foot_self _ _ _), h.fb _ (foot_self _ _ _)⟩
theorem own_cell {E B g n m : Nat} {xs : List ByteArray} (h : OwnE Value.string E B w (.slice (some ⟨g, 0, none⟩) n m) xs) (i : Nat) (hi : i < xs.length) : w.cell? ⟨g, i, none⟩ = some (.string (xs.getD i ⟨#[]⟩)) ∧ w.frozen? ⟨g, i, none⟩ = false := by
  obtain ⟨g', c', e, _, _, _, ⟨cur, hcur⟩, hc⟩ := h.at (by intro e; rw [e] at hi; cases hi)
  injection e with e1 e2 e3
  injection e1 with e1
  injection e1 with e1 _ _
  subst e1
  refine ⟨by rw [hc i hi]; simp [List.getD, List.getElem?_eq_getElem hi], ?_⟩
  exact (show Box w g cur E from hcur).frozen i
end
section
variable {w w' : World} {p : Nat} {F S : Nat → Prop} {d : DS} {l : List Nat}
theorem RQ.frame (h : RQ w p F d l) (hb : But S w w') (hS : ∀ k, F k → ¬ S k) : RQ w' p F d l := by
  obtain ⟨r, a, b, c, h1, h2⟩ := h
  exact ⟨r, a, b, c, h1.frame hb hS, h2⟩
theorem RQ.drew (h : RQ w p F d l) : RQ w.drew p F d l := by
  obtain ⟨r, a, b, c, h1, h2⟩ := h
  exact ⟨r, a, b, c, h1.drew, h2⟩
theorem RQ.lt (h : RQ w p F d l) : ∀ k, F k → k < w.heap.size := by
  obtain ⟨r, a, b, c, h1, h2⟩ := h
  exact h1.lt
set_option maxRecDepth 100000 in
set_option maxHeartbeats 1000000 in
theorem rread_c (h : RQ w p F d l) (i : Int) : Calls Try.prog 32 #[.pointer (some ⟨p, 0, none⟩), .int .i64 i] w fun e w' => e = .returned (.tuple #[.string (if fitB i then d.is.getD i.toNat ⟨#[]⟩ else ⟨#[]⟩), .int .i64 (if fitB i then 0 else 40)]) ∧ w = w' := by
  obtain ⟨r, a, b, c, h1, h2⟩ := h
  by_cases hi : 0 ≤ i ∧ i < 256
  · obtain ⟨n, rfl⟩ : ∃ n : Nat, i = (n : Int) := ⟨i.toNat, by omega⟩
    have hn : n < 256 := by omega
    have hf : fitB (n : Int) = true := fitB_yes hi.1 hi.2
    obtain ⟨ga, ca, gb, cb, rfl, rfl, z1, z2, z3, z4, z5, z6⟩ := h1.rows (by rw [h2.was]; exact h2.l2) (by rw [h2.is]; exact h2.l1)
    have k1 : w.cell? ⟨p, 1, none⟩ = _ := h1.cell 1
    have k2 := (own_cell h1.is n (by rw [h2.is, h2.l1]; exact hn)).1
    rw [h2.is] at k2
    have HF := Lib.hid hf
    have q0 := hi.1
    have q1 := hi.2
    unfold maxLen at *
    simp only [rcells, List.getElem?_cons_succ, List.getElem?_cons_zero] at k1
    simp only [hf, if_true, Int.toNat_natCast]
    generalize d.is.getD n ⟨#[]⟩ = sn at *
    clear h1 h2 hf hi HF
    go_enter Try.func32, Try.ntmps32
    go_wp2
    go_ret2
    exact ⟨rfl, rfl⟩
  · have hf := fitB_no hi
    simp only [hf, if_false, Bool.false_eq_true]
    clear h1 h2 hf
    rcases Int.lt_or_le i 0 with h0 | h0
    · clear hi
      go_enter Try.func32, Try.ntmps32
      go_wp2
      go_ret2
      exact ⟨rfl, rfl⟩
    · have h3 : 256 ≤ i := by omega
      clear hi
      go_enter Try.func32, Try.ntmps32
      go_wp2
      go_ret2
      exact ⟨rfl, rfl⟩
end
end Go.Proofs.Ytjeaejeikgkcaaa
