/- What DiskSynced asks, in plain words; the disks and a row of marks beside them. -/
import Derived.Test.YtjeaejeikgkcaaaN12
namespace Go.Proofs.Ytjeaejeikgkcaaa
set_option linter.unusedSimpArgs false
set_option linter.unusedVariables false
open Go.RowKit
theorem plSt {d : DS} (h : Pl d) (l : List Nat) (o : Stp) (hk : o.kind < 2) : Pl (stD d l o) := by
  unfold stD
  split
  · exact h.wr l _ _
  split
  · exact plSy h l
  rw [if_neg (by omega), if_neg (by omega), if_neg (by omega), if_neg (by omega)]
  exact h
/-- The program's disk, the reference's as it was at the Sync, and marks of what was written since. -/
structure LX (w0 w : World) (p : Nat) (F : Nat → Prop) (q : Nat) (G : Nat → Prop) (D : DS) (d : DS) (l : List Nat) (g : Nat) (W : List Bool) : Prop where
  ld : LD w0 w p F d l
  rq : RQ w q G D []
  lo : ∀ k, G k → w0.heap.size ≤ k
  ap : ∀ k, F k → ¬ G k
  box : Box w g (W.map Value.bool).toArray 4
  nf : ¬ F g
  ng : ¬ G g
  hg : w0.heap.size ≤ g
section
variable {w0 w w' w1 : World} {p q g : Nat} {F G F1 : Nat → Prop} {d d1 D : DS} {l l1 : List Nat} {W : List Bool}
theorem LX.start (h : LT w0 w p F q G D []) (hn : New w w') (hb : Box w' w.heap.size (List.replicate 256 (Value.bool false)).toArray 4) : LX w0 w' p F q G D D [] w.heap.size (List.replicate 256 false) :=
  ⟨(h.new hn).ld, (h.new hn).rq, h.lo, h.ap, by rwa [List.map_replicate], fun hf => by have := h.ld.dsk.lt _ hf; omega, fun hf => by have := h.rq.lt _ hf; omega, h.ld.nw.le⟩
theorem LX.step (h : LX w0 w p F q G D d l g W) (hd : Dsk w1 p F1 d1 l1) (hb : But F w w1) (hs : Sprout w F F1) : LX w0 w1 p F1 q G D d1 l1 g W :=
  ⟨h.ld.step hd hb hs, h.rq.frame hb (fun k hk hf => h.ap k hf hk), h.lo, fun k hk hg => by
    rcases hs k hk with h1 | h1
    · exact h.ap k h1 hg
    · have := h.rq.lt k hg; omega, hb.box h.box h.nf, fun hf => by
    rcases hs _ hf with h1 | h1
    · exact h.nf h1
    · have := h.box.lt; omega, h.ng, h.hg⟩
theorem LX.same (h : LX w0 w p F q G D d l g W) (hd : Dsk w1 p F d1 l1) (hb : But F w w1) : LX w0 w1 p F q G D d1 l1 g W := h.step hd hb (Sprout.same _ _)
theorem LX.drew (h : LX w0 w p F q G D d l g W) : LX w0 w.drew p F q G D d l g W := ⟨h.ld.new (New.refl _).drew, h.rq.drew, h.lo, h.ap, h.box.drew, h.nf, h.ng, h.hg⟩
theorem LX.store (h : LX w0 w p F q G D d l g W) (i : Nat) (b : Bool) : LX w0 (w.setCell ⟨g, i, none⟩ (.bool b)) p F q G D d l g (W.set i b) := by
  have hb : But (Onl g) w (w.setCell ⟨g, i, none⟩ (.bool b)) := setOther
  refine ⟨⟨h.ld.dsk.frame hb fun k hk e => h.nf ((show k = g from e) ▸ hk), h.ld.nw.setCell h.hg _, h.ld.hi⟩, h.rq.frame hb fun k hk e => h.ng ((show k = g from e) ▸ hk), h.lo, h.ap, ?_, h.nf, h.ng, h.hg⟩
  have := h.box.set i (.bool b)
  rw [List.setIfInBounds_toArray, ← List.map_set] at this
  exact this
theorem LX.cell (h : LX w0 w p F q G D d l g W) {i : Nat} (hi : i < W.length) : w.cell? ⟨g, i, none⟩ = some (.bool W[i]) := by
  rw [h.box.cell]
  simp [List.getElem?_eq_getElem hi]
theorem RQ.row {l : List Nat} (h : RQ w q G D l) : ∃ gb cb, w.cell? ⟨q, 1, none⟩ = some (.slice (some ⟨gb, 0, none⟩) 256 cb) ∧ 256 ≤ cb ∧ cb ≤ maxLen ∧ ∀ i, i < 256 → w.cell? ⟨gb, i, none⟩ = some (.string (D.is.getD i ⟨#[]⟩)) := by
  obtain ⟨r, a, b, c, h1, h2⟩ := h
  obtain ⟨ga, ca, gb, cb, rfl, rfl, z1, z2, z3, z4, z5, z6⟩ := h1.rows (by rw [h2.was]; exact h2.l2) (by rw [h2.is]; exact h2.l1)
  refine ⟨gb, cb, h1.cell 1, z3, z4, fun i hi => ?_⟩
  have := (own_cell h1.is i (by rw [h2.is, h2.l1]; exact hi)).1
  rw [h2.is] at this
  exact this
end
/-- Behind a Sync: what is cached is marked. -/
structure SY (B : List ByteArray) (d : DS) (l : List Nat) (W : List Bool) : Prop where
  pl : Pl d
  was : d.was = B
  mark : ∀ j ∈ l, W[j]? = some true
  len : W.length = 256
theorem SY.start {d : DS} (h : Pl d) (l : List Nat) : SY (syD d l).is (syD d l) (syL d l) (List.replicate 256 false) := by
  refine ⟨plSy h l, ?_, ?_, List.length_replicate⟩
  · rw [h.syD]
  · rw [h.syL]; exact nofun
section
variable {B : List ByteArray} {d : DS} {l : List Nat} {W : List Bool}
/-- One write: refused, or put and marked. -/
theorem SY.write (h : SY B d l W) (i : Int) (s : ByteArray) :
    (fitB i = false ∧ wrE d i s = 40 ∧ wrD d l i s = d ∧ wrL d l i s = l) ∨ (fitB i = true ∧ ¬ (s.size : Int) ≤ 256 ∧ wrE d i s = 41 ∧ wrD d l i s = d ∧ wrL d l i s = l) ∨
    (fitB i = true ∧ (s.size : Int) ≤ 256 ∧ wrE d i s = 0 ∧ SY B (wrD d l i s) (wrL d l i s) (W.set i.toNat true)) := by
  by_cases hf : fitB i = true
  · by_cases hs : s.size ≤ 256
    · have hok : wrOk d i s := ⟨hf, hs⟩
      refine .inr (.inr ⟨hf, by omega, ?_, h.pl.wr l i s, ?_, ?_, ?_⟩)
      · rw [h.pl.wrE]; simp [hf, show ¬ 256 < s.size by omega]
      · rw [h.pl.wrWas]; exact h.was
      · have hi : i.toNat < 256 := by unfold fitB at hf; simp at hf; omega
        rw [h.pl.wrL, if_pos hok]
        intro j hj
        by_cases hji : j = i.toNat
        · rw [hji, List.getElem?_set_self (by rw [h.len]; exact hi)]
        · rw [List.getElem?_set_ne (fun e => hji e.symm)]
          refine h.mark j ?_
          split at hj
          · exact hj
          · rcases List.mem_append.1 hj with hj | hj
            · exact hj
            · exact absurd (List.mem_singleton.1 hj) hji
      · rw [List.length_set]; exact h.len
    · have hno : ¬ wrOk d i s := fun h => hs h.2
      refine .inr (.inl ⟨hf, by omega, ?_, Pl.wrD_no hno, ?_⟩)
      · rw [h.pl.wrE]; simp [hf, show 256 < s.size by omega]
      · rw [h.pl.wrL, if_neg hno]
  · have hf' : fitB i = false := by simpa using hf
    have hno : ¬ wrOk d i s := fun h => hf h.1
    refine .inl ⟨hf', ?_, Pl.wrD_no hno, ?_⟩
    · rw [h.pl.wrE]; simp [hf']
    · rw [h.pl.wrL, if_neg hno]
/-- Behind a crash: what is not marked is as it was. -/
theorem SY.end (h : SY B d l W) (keep : Int) (j : Nat) (hj : W[j]? = some false) : (crashD d l keep).is.getD j ⟨#[]⟩ = B.getD j ⟨#[]⟩ ∧ (crashD d l keep).dead = true := by
  rw [h.pl.crash]
  refine ⟨?_, rfl⟩
  have hn : j ∉ l := fun hh => by rw [h.mark j hh] at hj; cases hj
  show (crashW d.is d.was l keep l.length).getD j ⟨#[]⟩ = _
  simp only [List.getD]
  rw [crashW_other d.is d.was l keep l.length (Nat.le_refl _) j (by rw [List.take_length]; exact hn), h.was]
theorem SY.dead (h : SY B d l W) (keep : Int) : (crashD d l keep).dead = true := by rw [h.pl.crash]
end
theorem dead_wr {d : DS} (h : d.dead = true) (s : ByteArray) (hs : s.size ≤ 256) : wrE d 0 s = 43 ∧ rawE d = 43 := by
  have e : rawE d = 43 := by simp [rawE, h]
  refine ⟨?_, e⟩
  unfold wrE
  rw [fitB_yes (by omega) (by omega), e]
  simp [show ¬ 256 < s.size by omega]
end Go.Proofs.Ytjeaejeikgkcaaa
