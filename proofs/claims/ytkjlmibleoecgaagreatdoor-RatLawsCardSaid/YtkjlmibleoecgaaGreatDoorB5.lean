/- A region that draws its order, each operation for itself: of no program. -/
import Derived.Test.YtkjlmibleoecgaaGreatDoorM0
import Derived.BigQuiet
namespace Go.Proofs.YtkjlmibleoecgaaGreatDoor
set_option linter.unusedSimpArgs false
set_option linter.unusedVariables false
open Go.RowKit
/-- Letters in the slots that a region writes. -/
def fill (s : Nat → Value) : List Value → List Bool → Nat → List Value
  | [], _, _ => []
  | c :: cs, [], p => c :: fill s cs [] (p + 1)
  | _ :: cs, true :: bs, p => s p :: fill s cs bs (p + 1)
  | c :: cs, false :: bs, p => c :: fill s cs bs (p + 1)
def upd (s : Nat → Value) (p : Nat) (v : Value) : Nat → Value := fun q => if q = p then v else s q
theorem fill_get (s : Nat → Value) : ∀ (cs : List Value) (bs : List Bool) (p q : Nat), (fill s cs bs p)[q]? = if bs.getD q false then (if q < cs.length then some (s (p + q)) else none) else cs[q]?
  | [], bs, p, q => by simp [fill]
  | c :: cs, [], p, 0 => by simp [fill]
  | c :: cs, [], p, q + 1 => by have := fill_get s cs [] (p + 1) q; simp [fill] at this ⊢; exact this
  | c :: cs, true :: bs, p, 0 => by simp [fill]
  | c :: cs, true :: bs, p, q + 1 => by
    have := fill_get s cs bs (p + 1) q
    simp only [fill, List.getElem?_cons_succ, List.getD_cons_succ, List.length_cons]
    rw [this, show p + 1 + q = p + (q + 1) by omega]
    simp
  | c :: cs, false :: bs, p, 0 => by simp [fill]
  | c :: cs, false :: bs, p, q + 1 => by
    have := fill_get s cs bs (p + 1) q
    simp only [fill, List.getElem?_cons_succ, List.getD_cons_succ, List.length_cons]
    rw [this, show p + 1 + q = p + (q + 1) by omega]
    simp
theorem fill_self (cs : List Value) (bs : List Bool) : fill (fun p => cs.getD p undef) cs bs 0 = cs := by
  apply List.ext_getElem?
  intro q
  rw [fill_get]
  split
  · split
    · rename_i h
      rw [Nat.zero_add, List.getD_eq_getElem?_getD, List.getElem?_eq_getElem h]; rfl
    · rw [List.getElem?_eq_none (by omega)]
  · rfl
theorem fill_put (s : Nat → Value) (cs : List Value) (bs : List Bool) (p : Nat) (v : Value) (h : bs.getD p false = true) : (fill s cs bs 0).set p v = fill (upd s p v) cs bs 0 := by
  apply List.ext_getElem?
  intro q
  have hl : (fill s cs bs 0)[p]? = if p < cs.length then some (s (0 + p)) else none := by rw [fill_get, if_pos h]
  rw [List.getElem?_set]
  by_cases e : p = q
  · subst e
    rw [if_pos rfl, fill_get, if_pos h, Nat.zero_add]
    by_cases hc : p < cs.length
    · have hlt : p < (fill s cs bs 0).length := by
        rw [if_pos hc] at hl
        exact (List.getElem?_eq_some_iff.1 hl).1
      rw [if_pos hlt, if_pos hc]; simp [upd]
    · have hlt : ¬ p < (fill s cs bs 0).length := by
        rw [if_neg hc] at hl
        have := List.getElem?_eq_none_iff.1 hl
        omega
      rw [if_neg hlt, if_neg hc]
  · rw [if_neg e, fill_get, fill_get]
    have : ¬ 0 + q = p := by omega
    simp only [upd, if_neg this]
/-- The frame with its letters. -/
def fr (s : Nat → Value) (cs : List Value) (bs : List Bool) (dfs : List Deferred) : Act := ⟨(fill s cs bs 0).toArray, dfs⟩
theorem fr_put (s : Nat → Value) (cs : List Value) (bs : List Bool) (dfs : List Deferred) (p : Nat) (v : Value) (h : bs.getD p false = true) : (fr s cs bs dfs).put (some p) v = fr (upd s p v) cs bs dfs := by
  unfold fr Act.put
  simp only [List.setIfInBounds_toArray, fill_put s cs bs p v h]
/-- Under which number an operation's fact is kept: its slot; else 1000 and its place. -/
def key (d : Option Tmp) (i : Nat) : Nat := match d with
  | none => 1000 + i
  | some p => p
def keyOk (bs : List Bool) (d : Option Tmp) (i : Nat) : Bool := match d with
  | none => !bs.getD (1000 + i) false
  | some p => bs.getD p false
theorem fr_key (s : Nat → Value) (cs : List Value) (bs : List Bool) (dfs : List Deferred) (d : Option Tmp) (i : Nat) (v : Value) (h : keyOk bs d i = true) : (fr s cs bs dfs).put d v = fr (upd s (key d i) v) cs bs dfs := by
  cases d with
  | some p => exact fr_put s cs bs dfs p v h
  | none =>
    have h' : bs.getD (1000 + i) false = false := by simpa [keyOk] using h
    show fr s cs bs dfs = fr (upd s (1000 + i) v) cs bs dfs
    unfold fr
    congr 2
    apply List.ext_getElem?
    intro q
    rw [fill_get, fill_get]
    split
    · rename_i hq
      have : ¬ 0 + q = 1000 + i := fun e => by rw [show q = 1000 + i by omega, h'] at hq; cases hq
      simp only [upd, if_neg this]
    · rfl
/-- What waits for what. -/
def ons (md : Region.Mode) (o : Oper) : List Nat := (o.after.toList.filter fun e => Region.binds md e).map (·.on)
def close (md : Region.Mode) (l : List Oper) : Nat → List Nat → List Nat
  | 0, m => m
  | k + 1, m => if m.contains k then close md l k (m ++ ((l[k]?).map (ons md)).getD []) else close md l k m
def reach (md : Region.Mode) (l : List Oper) (i : Nat) : List Nat := close md l i (((l[i]?).map (ons md)).getD [])
def relB (md : Region.Mode) (l : List Oper) (mk fk bs : List Bool) (ds : List (List Nat)) (ps : List Nat) : Bool :=
  mk.length == l.length && (List.range l.length).all (fun i => match l[i]? with
    | none => false
    | some o => (ons md o).all (fun k => decide (k < i)) &&
      (if mk.getD i false then
        (keyOk bs o.dst i && (List.range l.length).all (fun j => j == i || !mk.getD j false || ((l[j]?).map (fun oj => key oj.dst j)).getD 5000 != key o.dst i)) &&
        (ds.getD i []).all (fun p => (reach md l i).any (fun j => ((l[j]?).map (fun oj => key oj.dst j)) == some p))
      else (List.range l.length).all (fun j => !mk.getD j false || fk.getD j false || (reach md l i).contains j)) &&
      (!fk.getD i false || (mk.getD i false && (ons md o).all (fun k => mk.getD k false) && (List.range l.length).all (fun j => j == i || (match l[j]? with
        | none => true
        | some oj => (reach md l i).contains j || ((ons md oj).contains i || o.apart l.toArray oj))))))  &&
  ps.all (fun p => (List.range l.length).any (fun j => mk.getD j false && ((l[j]?).map (fun oj => key oj.dst j)) == some p))
/-- What is known of the slots named. -/
def Know (V : Nat → World → Value → Prop) (w : World) (s : Nat → Value) : List Nat → Prop
  | [] => True
  | p :: ps => V p w (s p) ∧ Know V w s ps
theorem Know.here {V : Nat → World → Value → Prop} {w : World} {s : Nat → Value} {p : Nat} {ps : List Nat} (h : Know V w s (p :: ps)) : V p w (s p) := h.1
theorem Know.next {V : Nat → World → Value → Prop} {w : World} {s : Nat → Value} {p : Nat} {ps : List Nat} (h : Know V w s (p :: ps)) : Know V w s ps := h.2
/-- What is known, as a list. -/
def VL : List (Nat × (World → Value → Prop)) → Nat → World → Value → Prop
  | [], _, _, _ => True
  | (q, f) :: r, p, w, v => if p = q then f w v else VL r p w v
def Monos : List (Nat × (World → Value → Prop)) → Prop
  | [] => True
  | (_, f) :: r => (∀ w w' v, f w v → New w w' → f w' v) ∧ Monos r
theorem VL_mono : ∀ {L : List (Nat × (World → Value → Prop))}, Monos L → ∀ p w w' v, VL L p w v → New w w' → VL L p w' v
  | [], _, _, _, _, _, h, _ => h
  | (q, f) :: r, hm, p, w, w', v, h, hn => by
    unfold VL at h ⊢
    split
    · rename_i e; rw [if_pos e] at h; exact hm.1 w w' v h hn
    · rename_i e; rw [if_neg e] at h; exact VL_mono hm.2 p w w' v h hn
def MonosR (R : World → World → Prop) : List (Nat × (World → Value → Prop)) → Prop
  | [] => True
  | (_, f) :: r => (∀ w w' v, f w v → R w w' → f w' v) ∧ MonosR R r
theorem VL_monoR {R : World → World → Prop} : ∀ {L : List (Nat × (World → Value → Prop))}, MonosR R L → ∀ p w w' v, VL L p w v → R w w' → VL L p w' v
  | [], _, _, _, _, _, h, _ => h
  | (q, f) :: r, hm, p, w, w', v, h, hn => by
    unfold VL at h ⊢
    split
    · rename_i e; rw [if_pos e] at h; exact hm.1 w w' v h hn
    · rename_i e; rw [if_neg e] at h; exact VL_monoR hm.2 p w w' v h hn
theorem Know.of {V : Nat → World → Value → Prop} {w : World} {s : Nat → Value} : ∀ {ps : List Nat}, (∀ p ∈ ps, V p w (s p)) → Know V w s ps
  | [], _ => trivial
  | p :: ps, h => ⟨h p (by simp), Know.of fun q hq => h q (by simp [hq])⟩
/-- What one operation owes. -/
def Ob (P : Program) (ops : Array Oper) (Q : Exit → Act → World → Prop) (V : Nat → World → Value → Prop) (R : World → World → Prop) (W0 : World) (F : (Nat → Value) → Act) (i : Nat) (o : Oper) (d : List Nat) : Prop :=
  ∀ s w (K : Act → World → Prop), R W0 w → Know V w s d → (∀ v w', R w w' → V (key o.dst i) w' v → K ((F s).put o.dst v) w') → ∃ b, Region.wanted o (yielded ops (F s).tmps) = b ∧ cond b (o.wp P (F s) w K Q) (V (key o.dst i) w undef)
def ObF (P : Program) (ops : Array Oper) (V : Nat → World → Value → Prop) (R : World → World → Prop) (W0 : World) (F : (Nat → Value) → Act) (i : Nat) (o : Oper) (d : List Nat) : Prop :=
  ∀ s w, R W0 w → Know V w s d → ∃ v, Yields P ops o v (F s) ∧ V (key o.dst i) w v
def Obs (P : Program) (ops : Array Oper) (Q : Exit → Act → World → Prop) (V : Nat → World → Value → Prop) (R : World → World → Prop) (W0 : World) (F : (Nat → Value) → Act) : Nat → List Oper → List Bool → List Bool → List (List Nat) → Prop
  | i, o :: os, true :: ms, true :: fs, d :: ds => ObF P ops V R W0 F i o d ∧ Obs P ops Q V R W0 F (i + 1) os ms fs ds
  | i, o :: os, true :: ms, false :: fs, d :: ds => Ob P ops Q V R W0 F i o d ∧ Obs P ops Q V R W0 F (i + 1) os ms fs ds
  | i, _ :: os, false :: ms, _ :: fs, _ :: ds => Obs P ops Q V R W0 F (i + 1) os ms fs ds
  | _, _, _, _, _ => True
section
variable {P : Program} {md : Region.Mode} {l : List Oper} {Q : Exit → Act → World → Prop} {V : Nat → World → Value → Prop} {R : World → World → Prop} {W0 : World}
theorem Obs.get {ops : Array Oper} {F : (Nat → Value) → Act} : ∀ {l : List Oper} {mk fk : List Bool} {ds : List (List Nat)} {k i : Nat} {o : Oper}, Obs P ops Q V R W0 F k l mk fk ds → mk.length = l.length → fk.length = l.length → ds.length = l.length → l[i]? = some o → mk.getD i false = true →
    (fk.getD i false = false → Ob P ops Q V R W0 F (k + i) o (ds.getD i [])) ∧ (fk.getD i false = true → ObF P ops V R W0 F (k + i) o (ds.getD i []))
  | [], _, _, _, k, i, o, _, _, _, _, ho, _ => by simp at ho
  | _ :: _, [], _, _, k, i, o, _, hl, _, _, ho, _ => by simp at hl
  | _ :: _, _ :: _, [], _, k, i, o, _, _, hl, _, ho, _ => by simp at hl
  | _ :: _, _ :: _, _ :: _, [], k, i, o, _, _, _, hl, ho, _ => by simp at hl
  | o' :: os, b :: ms, g :: fs, d :: ds, k, i, o, h, hl, hf, hd, ho, hm => by
    simp only [List.length_cons, Nat.add_right_cancel_iff] at hl hf hd
    cases i with
    | zero =>
      simp at ho hm
      subst ho hm
      cases g with
      | true => exact ⟨fun e => by simp at e, fun _ => h.1⟩
      | false => exact ⟨fun _ => h.1, fun e => by simp at e⟩
    | succ i =>
      simp at ho
      have hm' : ms.getD i false = true := by simpa using hm
      have h' : Obs P ops Q V R W0 F (k + 1) os ms fs ds := by
        cases b with
        | true => cases g with
          | true => exact h.2
          | false => exact h.2
        | false => exact h
      have := Obs.get h' hl hf hd ho hm'
      rw [show k + 1 + i = k + (i + 1) by omega] at this
      simpa using this
theorem close_sub {listed : Array Bool} (hd : ∀ i o, l[i]? = some o → listed.getD i false = true → ∀ k ∈ ons md o, listed.getD k false = true) : ∀ (k : Nat) (m : List Nat), (∀ j ∈ m, listed.getD j false = true) → ∀ j ∈ close md l k m, listed.getD j false = true
  | 0, m, hm, j, hj => hm j hj
  | k + 1, m, hm, j, hj => by
    unfold close at hj
    split at hj
    · rename_i hc
      refine close_sub hd k _ (fun q hq => ?_) j hj
      rcases List.mem_append.1 hq with hq | hq
      · exact hm q hq
      · cases ho : l[k]? with
        | none => rw [ho] at hq; simp at hq
        | some o =>
          rw [ho] at hq
          exact hd k o ho (hm k (by simpa using hc)) q (by simpa using hq)
    · exact close_sub hd k m hm j hj
theorem reach_sub {listed : Array Bool} (hd : ∀ i o, l[i]? = some o → listed.getD i false = true → ∀ k ∈ ons md o, listed.getD k false = true) {i : Nat} {o : Oper} (ho : l[i]? = some o) (h0 : ∀ k ∈ ons md o, listed.getD k false = true) : ∀ j ∈ reach md l i, listed.getD j false = true := by
  unfold reach
  rw [ho]
  exact close_sub hd i _ (by simpa using h0)
theorem count_set : ∀ (L : List Bool) (i : Nat), L[i]? = some false → (L.set i true).count true = L.count true + 1
  | [], i, h => by simp at h
  | b :: L, 0, h => by simp at h; subst h; simp
  | b :: L, i + 1, h => by
    have := count_set L i (by simpa using h)
    simp only [List.set_cons_succ, List.count_cons, this]
    omega
/-- The state between two operations. -/
structure Mid (md : Region.Mode) (l : List Oper) (mk : List Bool) (listed : Array Bool) : Prop where
  size : listed.size = l.length
  sub : ∀ i, listed.getD i false = true → mk.getD i false = true
  down : ∀ i o, l[i]? = some o → listed.getD i false = true → ∀ k ∈ ons md o, listed.getD k false = true
theorem ons_ready {listed : Array Bool} {i : Nat} (h : i ∈ Region.ready md l.toArray listed) : listed.getD i true = false ∧ ∃ o, l[i]? = some o ∧ ∀ k ∈ ons md o, listed.getD k false = true := by
  obtain ⟨h0, o, ho, ha⟩ := mem_ready.1 h
  refine ⟨h0, o, by simpa using ho, fun k hk => ?_⟩
  unfold ons at hk
  obtain ⟨e, he, rfl⟩ := List.mem_map.1 hk
  obtain ⟨he1, he2⟩ := List.mem_filter.1 he
  exact ha e (by simpa using he1) he2
theorem ready_of {listed : Array Bool} {i : Nat} {o : Oper} (h0 : listed.getD i true = false) (ho : l[i]? = some o) (ha : ∀ k ∈ ons md o, listed.getD k false = true) : i ∈ Region.ready md l.toArray listed :=
  mem_ready.2 ⟨h0, o, by simpa using ho, fun e he hb => ha e.on (List.mem_map.2 ⟨e, List.mem_filter.2 ⟨by simpa using he, hb⟩, rfl⟩)⟩
theorem getD_tf {a : Array Bool} {i : Nat} (hi : i < a.size) : a.getD i true = a.getD i false := by simp [hi]
theorem getD_set_same {a : Array Bool} {i : Nat} (hi : i < a.size) (d : Bool) : (a.setIfInBounds i true).getD i d = true := by simp [hi]
theorem rep_false (n i : Nat) : (Array.replicate n false).getD i false = false := by
  simp only [Array.getD_eq_getD_getElem?, Array.getElem?_replicate]
  split <;> rfl
theorem wpAny_rel (hR0 : ∀ w, R w w) (hRt : ∀ {a b c}, R a b → R b c → R a c) (hV : ∀ p w w' v, V p w v → R w w' → V p w' v) (cs : List Value) (bs : List Bool) (dfs : List Deferred) (mk fk : List Bool) (ds : List (List Nat)) (ps : List Nat) (hB : relB md l mk fk bs ds ps = true) (hds : ds.length = l.length) (hfk : fk.length = l.length) (hsel : Region.noSelect l.toArray = true) (hQp : ∀ (p : Tmp) (v : Value) c a w, Q (.panic c) (a.put (some p) v) w → Q (.panic c) a w)
    (hobs : Obs P l.toArray Q V R W0 (fun s => fr s cs bs dfs) 0 l mk fk ds)
    (hfin : ∀ s w, R W0 w → Know V w s ps → wpAny P md l.toArray Q (l.length - mk.count true) mk.toArray (fr s cs bs dfs) w) :
    ∀ (fuel : Nat) (listed : Array Bool) (s : Nat → Value) (w : World), Mid md l mk listed → fuel + listed.toList.count true = l.length → R W0 w →
      (∀ i o, l[i]? = some o → listed.getD i false = true → V (key o.dst i) w (s (key o.dst i))) → wpAny P md l.toArray Q fuel listed (fr s cs bs dfs) w := by
  unfold relB at hB
  rw [Bool.and_eq_true, Bool.and_eq_true] at hB
  obtain ⟨⟨hml, hall⟩, hps⟩ := hB
  have hml : mk.length = l.length := by simpa using hml
  rw [List.all_eq_true] at hall hps
  have hop : ∀ i o, l[i]? = some o → (∀ k ∈ ons md o, k < i) ∧ (mk.getD i false = true → (keyOk bs o.dst i = true ∧ ∀ j oj, j ≠ i → l[j]? = some oj → mk.getD j false = true → key oj.dst j ≠ key o.dst i) ∧ ∀ p ∈ ds.getD i [], ∃ j oj, j ∈ reach md l i ∧ l[j]? = some oj ∧ key oj.dst j = p) ∧
      (mk.getD i false = false → ∀ j, j < l.length → mk.getD j false = true → fk.getD j false = false → j ∈ reach md l i) ∧
      (fk.getD i false = true → mk.getD i false = true ∧ (∀ k ∈ ons md o, mk.getD k false = true) ∧ ∀ j oj, l[j]? = some oj → j ≠ i → j ∈ reach md l i ∨ i ∈ ons md oj ∨ o.apart l.toArray oj = true) := by
    intro i o ho
    have hi : i < l.length := (List.getElem?_eq_some_iff.1 ho).1
    have h := hall i (List.mem_range.2 hi)
    rw [ho] at h
    simp only [Bool.and_eq_true, List.all_eq_true, decide_eq_true_eq] at h
    refine ⟨h.1.1, fun hm => ?_, fun hm j hj hmj hfj => ?_, fun hf => ?_⟩
    · have h2 := h.1.2
      rw [if_pos hm] at h2
      simp only [Bool.and_eq_true, List.all_eq_true] at h2
      refine ⟨?_, fun p hp => ?_⟩
      · have h3 := h2.1
        refine ⟨h3.1, fun j oj hne hoj hmj => ?_⟩
        have h4 := h3.2 j (List.mem_range.2 (List.getElem?_eq_some_iff.1 hoj).1)
        rw [hoj, hmj] at h4
        simpa [hne] using h4
      · have h3 := h2.2 p hp
        rw [List.any_eq_true] at h3
        obtain ⟨j, hj, hjp⟩ := h3
        cases hoj : l[j]? with
        | none => rw [hoj] at hjp; simp at hjp
        | some oj => rw [hoj] at hjp; exact ⟨j, oj, hj, hoj, by simpa using hjp⟩
    · have h2 := h.1.2
      rw [if_neg (by rw [hm]; decide), List.all_eq_true] at h2
      have h3 := h2 j (List.mem_range.2 hj)
      rw [hmj, hfj] at h3
      simpa using h3
    · have h2 := h.2
      rw [hf] at h2
      simp only [Bool.not_true, Bool.false_or, Bool.and_eq_true, List.all_eq_true] at h2
      refine ⟨h2.1.1, h2.1.2, fun j oj hoj hne => ?_⟩
      have h3 := h2.2 j (List.mem_range.2 (List.getElem?_eq_some_iff.1 hoj).1)
      rw [hoj] at h3
      simp only [Bool.or_eq_true, beq_iff_eq, hne, false_or] at h3
      exact h3.imp (fun h => by simpa using h) (fun h => h.imp (fun h => by simpa using h) id)
  intro fuel
  induction fuel with
  | zero =>
    intro listed s w hM hc hn hk
    have hlen : listed.toList.length = l.length := by simp [hM.size]
    have hat : ∀ i, i < l.length → listed.getD i false = true := by
      have hall2 : ∀ b ∈ listed.toList, b = true := by
        have := List.count_eq_length.1 (show listed.toList.count true = listed.toList.length by omega)
        intro b hb; exact (this b hb).symm
      intro i hi
      have hi2 : i < listed.size := by rw [hM.size]; exact hi
      have := hall2 listed[i] (by simp)
      simp [hi2, this]
    have heq : listed = mk.toArray := by
      apply Array.ext
      · simp [hM.size, hml]
      · intro i h1 h2
        have e1 := hat i (by rw [← hM.size]; exact h1)
        have e2 := hM.sub i e1
        simp [h1] at e1
        simp at h2
        simp [List.getD_eq_getElem?_getD, List.getElem?_eq_getElem h2] at e2
        simp [e1, e2]
    have := hfin s w hn (Know.of fun p hp => by
      have h1 := hps p hp
      rw [List.any_eq_true] at h1
      obtain ⟨j, hj, hjp⟩ := h1
      rw [Bool.and_eq_true] at hjp
      cases hoj : l[j]? with
      | none => rw [hoj] at hjp; simp at hjp
      | some oj =>
        rw [hoj] at hjp
        have e : key oj.dst j = p := by simpa using hjp.2
        rw [← e]
        exact hk j oj hoj (hat j (by simpa using hj)))
    have hz : l.length - mk.count true = 0 := by
      have : mk = listed.toList := by rw [heq]
      rw [this]; omega
    rw [hz, ← heq] at this
    exact this
  | succ fuel ih =>
    intro listed s w hM hc hn hk
    by_cases heq : listed = mk.toArray
    · have hcm : listed.toList.count true = mk.count true := by rw [heq]
      have := hfin s w hn (Know.of fun p hp => by
        have h1 := hps p hp
        rw [List.any_eq_true] at h1
        obtain ⟨j, hj, hjp⟩ := h1
        rw [Bool.and_eq_true] at hjp
        cases hoj : l[j]? with
        | none => rw [hoj] at hjp; simp at hjp
        | some oj =>
          rw [hoj] at hjp
          have e : key oj.dst j = p := by simpa using hjp.2
          rw [← e]
          refine hk j oj hoj ?_
          rw [heq]
          have hmj := hjp.1
          simpa [List.getD_eq_getElem?_getD] using hmj)
      rw [show l.length - mk.count true = fuel + 1 by omega, ← heq] at this
      exact this
    · by_cases hfree : ∃ i o, i ∈ Region.ready md l.toArray listed ∧ l[i]? = some o ∧ fk.getD i false = true
      · obtain ⟨i, o, hi, ho, hf⟩ := hfree
        obtain ⟨h0, o', ho', ha⟩ := ons_ready hi
        rw [ho] at ho'; cases ho'
        have hil : i < l.length := (List.getElem?_eq_some_iff.1 ho).1
        have his : i < listed.size := by rw [hM.size]; exact hil
        have h0' : listed.getD i false = false := by rw [← getD_tf his]; exact h0
        have hrs := reach_sub hM.down ho ha
        obtain ⟨p1, p2, p3, p4⟩ := hop i o ho
        obtain ⟨hm, _, hap⟩ := p4 hf
        obtain ⟨q1, q2⟩ := p2 hm
        have hM' : Mid md l mk (listed.setIfInBounds i true) := by
          refine ⟨by simp [hM.size], fun j hj => ?_, fun j oj hoj hj k hk => ?_⟩
          · by_cases e : i = j
            · subst e; exact hm
            · rw [Go.getD_set_ne false e] at hj; exact hM.sub j hj
          · by_cases e : i = j
            · subst e
              rw [ho] at hoj; cases hoj
              exact Go.getD_set_true (ha k hk)
            · rw [Go.getD_set_ne false e] at hj; exact Go.getD_set_true (hM.down j oj hoj hj k hk)
        have hc' : fuel + (listed.setIfInBounds i true).toList.count true = l.length := by
          rw [Array.toList_setIfInBounds, count_set _ _ (by simp [his] at h0'; simp [his, h0'])]
          omega
        have hob := (hobs.get hml hfk hds ho hm).2 hf
        rw [Nat.zero_add] at hob
        obtain ⟨v, hy, hv⟩ := hob s w hn (Know.of fun p hp => by
            obtain ⟨j, oj, hj, hoj, hjp⟩ := q2 p hp
            rw [← hjp]
            exact hk j oj hoj (hrs j hj))
        refine wpAny_first (by simpa using ho) (Region.noSelect_spec hsel) (fun c a w h => by cases hd : o.dst with | none => rw [hd] at h; exact h | some p => rw [hd] at h; exact hQp p v c a w h) fuel listed _ w (fun j oj hoj hne hun hno => ?_) hi hy ?_
        · rcases hap j oj (by simpa using hoj) hne with h | h | h
          · exfalso
            have h1 := hrs j h
            have hjs : j < listed.size := by rw [hM.size]; exact (List.getElem?_eq_some_iff.1 (show l[j]? = some oj by simpa using hoj)).1
            rw [getD_tf hjs, h1] at hun
            cases hun
          · exfalso
            obtain ⟨e, he, e2⟩ := List.mem_map.1 h
            obtain ⟨he1, he2⟩ := List.mem_filter.1 he
            exact hno e (by simpa using he1) he2 e2
          · exact h
        · rw [fr_key _ _ _ _ _ i _ q1.1]
          refine ih _ (upd s (key o.dst i) v) w hM' hc' hn fun j oj hoj hj => ?_
          by_cases e : i = j
          · subst e
            rw [ho] at hoj; cases hoj
            rw [show upd s (key o.dst i) v (key o.dst i) = v by simp [upd]]
            exact hv
          · rw [Go.getD_set_ne false e] at hj
            have hne : key oj.dst j ≠ key o.dst i := q1.2 j oj (Ne.symm e) hoj (hM.sub j hj)
            rw [show upd s (key o.dst i) v (key oj.dst j) = s (key oj.dst j) by simp [upd, hne]]
            exact hk j oj hoj hj
      refine ⟨fun hr => ?_, fun i hi => ?_⟩
      · exfalso
        -- the least that has not come up is ready
        have hex : ∃ i, i < l.length ∧ listed.getD i false = false := by
          refine Classical.byContradiction fun hno => heq ?_
          apply Array.ext
          · simp [hM.size, hml]
          · intro i h1 h2
            have e1 : listed.getD i false = true := by
              cases hg : listed.getD i false with
              | true => rfl
              | false => exact absurd ⟨i, by rw [← hM.size]; exact h1, hg⟩ hno
            have e2 := hM.sub i e1
            simp [h1] at e1
            simp at h2
            simp [List.getD_eq_getElem?_getD, List.getElem?_eq_getElem h2] at e2
            simp [e1, e2]
        obtain ⟨i, hi, hmin⟩ : ∃ i, (i < l.length ∧ listed.getD i false = false) ∧ ∀ j, j < i → ¬ (j < l.length ∧ listed.getD j false = false) := by
          obtain ⟨i, hi⟩ := hex
          induction i using Nat.strongRecOn with
          | ind i ihi =>
            by_cases h : ∃ j, j < i ∧ (j < l.length ∧ listed.getD j false = false)
            · obtain ⟨j, hj, hj2⟩ := h; exact ihi j hj hj2
            · exact ⟨i, hi, fun j hj h2 => h ⟨j, hj, h2⟩⟩
        have ho : l[i]? = some l[i] := List.getElem?_eq_getElem hi.1
        have hin := ready_of (md := md) (listed := listed) (i := i) (by rw [getD_tf (by rw [hM.size]; exact hi.1)]; exact hi.2) ho (fun k hk => by
          have hlt := (hop i _ ho).1 k hk
          cases hg : listed.getD k false with
          | true => rfl
          | false => exact absurd ⟨by omega, hg⟩ (hmin k hlt))
        rw [hr] at hin
        cases hin
      · obtain ⟨h0, o, ho, ha⟩ := ons_ready hi
        have hil : i < l.length := (List.getElem?_eq_some_iff.1 ho).1
        have his : i < listed.size := by rw [hM.size]; exact hil
        have h0' : listed.getD i false = false := by rw [← getD_tf his]; exact h0
        have hrs := reach_sub hM.down ho ha
        obtain ⟨p1, p2, p3, p4⟩ := hop i o ho
        cases hm : mk.getD i false with
        | false =>
          exfalso
          have hallM : ∀ j, j < l.length → mk.getD j false = true → listed.getD j false = true := by
            intro j
            induction j using Nat.strongRecOn with
            | ind j ihj =>
              intro hj hmj
              cases hfj : fk.getD j false with
              | false => exact hrs j (p3 hm j hj hmj hfj)
              | true =>
                cases hg : listed.getD j false with
                | true => rfl
                | false =>
                  have hoj : l[j]? = some l[j] := List.getElem?_eq_getElem hj
                  obtain ⟨s1, _, _, s4⟩ := hop j _ hoj
                  refine absurd ⟨j, _, ready_of (md := md) (listed := listed) (i := j) (by rw [getD_tf (by rw [hM.size]; exact hj)]; exact hg) hoj (fun k hk => ihj k (s1 k hk) (by have := s1 k hk; omega) ((s4 hfj).2.1 k hk)), hoj, hfj⟩ hfree
          apply heq
          apply Array.ext
          · simp [hM.size, hml]
          · intro j h1 h2
            have hj : j < l.length := by rw [← hM.size]; exact h1
            have e : listed.getD j false = mk.getD j false := by
              cases hmj : mk.getD j false with
              | true => exact hallM j hj hmj
              | false =>
                cases hg : listed.getD j false with
                | false => rfl
                | true => rw [hM.sub j hg] at hmj; cases hmj
            simp at h2
            simp [h1, List.getD_eq_getElem?_getD, List.getElem?_eq_getElem h2] at e
            simp [e]
        | true =>
          obtain ⟨q1, q2⟩ := p2 hm
          have hff : fk.getD i false = false := by
            cases hff : fk.getD i false with
            | false => rfl
            | true => exact absurd ⟨i, o, hi, ho, hff⟩ hfree
          have hob1 := (hobs.get hml hfk hds ho hm).1 hff
          rw [Nat.zero_add] at hob1
          have hob0 := hob1 s w (fun a' w' => ∃ v, a' = (fr s cs bs dfs).put o.dst v ∧ R w w' ∧ V (key o.dst i) w' v) hn (Know.of fun p hp => by
            obtain ⟨j, oj, hj, hoj, hjp⟩ := q2 p hp
            rw [← hjp]
            exact hk j oj hoj (hrs j hj)) (fun v w' h1 h2 => ⟨v, rfl, h1, h2⟩)
          have hob : if Region.wanted o (yielded l.toArray (fr s cs bs dfs).tmps) = true then o.wp P (fr s cs bs dfs) w (fun a' w' => ∃ v, a' = (fr s cs bs dfs).put o.dst v ∧ R w w' ∧ V (key o.dst i) w' v) Q else V (key o.dst i) w undef := by
            obtain ⟨bb, h1, h2⟩ := hob0
            cases bb with
            | true => rw [if_pos h1]; exact h2
            | false => rw [if_neg (by rw [h1]; decide)]; exact h2
          clear hob0 hob1
          have hM' : Mid md l mk (listed.setIfInBounds i true) := by
            refine ⟨by simp [hM.size], fun j hj => ?_, fun j oj hoj hj k hk => ?_⟩
            · by_cases e : i = j
              · subst e; exact hm
              · rw [Go.getD_set_ne false e] at hj; exact hM.sub j hj
            · by_cases e : i = j
              · subst e
                rw [ho] at hoj; cases hoj
                exact Go.getD_set_true (ha k hk)
              · rw [Go.getD_set_ne false e] at hj; exact Go.getD_set_true (hM.down j oj hoj hj k hk)
          have hc' : fuel + (listed.setIfInBounds i true).toList.count true = l.length := by
            rw [Array.toList_setIfInBounds, count_set _ _ (by simp [his] at h0'; simp [his, h0'])]
            omega
          have next : ∀ v w', R w w' → V (key o.dst i) w' v → wpAny P md l.toArray Q fuel (listed.setIfInBounds i true) ((fr s cs bs dfs).put o.dst v) w' := by
            intro v w' hn' hv
            rw [fr_key _ _ _ _ _ i _ q1.1]
            refine ih _ (upd s (key o.dst i) v) w' hM' hc' (hRt hn hn') fun j oj hoj hj => ?_
            by_cases e : i = j
            · subst e
              rw [ho] at hoj; cases hoj
              rw [show upd s (key o.dst i) v (key o.dst i) = v by simp [upd]]
              exact hv
            · rw [Go.getD_set_ne false e] at hj
              have hne : key oj.dst j ≠ key o.dst i := q1.2 j oj (Ne.symm e) hoj (hM.sub j hj)
              rw [show upd s (key o.dst i) v (key oj.dst j) = s (key oj.dst j) by simp [upd, hne]]
              exact hV _ _ _ _ (hk j oj hoj hj) hn'
          show wpOp P l.toArray Q i (wpAny P md l.toArray Q fuel (listed.setIfInBounds i true)) (fr s cs bs dfs) w
          unfold wpOp
          simp only [List.getElem?_toArray, ho]
          split
          · rename_i hw
            rw [if_pos hw] at hob
            exact .inl (Oper.wp_mono (fun a' w' ⟨v, e, hn', hv⟩ => by rw [e]; exact next v w' hn' hv) hob)
          · rename_i hw
            rw [if_neg hw] at hob
            exact next undef w (hR0 w) hob
/-- The rest comes up one behind the other. -/
def chainB (md : Region.Mode) (ops : Array Oper) : List Nat → Array Bool → Bool
  | [], listed => Region.ready md ops listed == []
  | i :: is, listed => Region.ready md ops listed == [i] && chainB md ops is (listed.setIfInBounds i true)
def restOf (l : List Oper) : List Nat → List Oper
  | [] => []
  | i :: is => match l[i]? with
    | some o => o :: restOf l is
    | none => []
theorem wpAny_chain : ∀ (is : List Nat) (listed : Array Bool) (a : Act) (w : World), chainB md l.toArray is listed = true → wpList P l.toArray Q (restOf l is) a w → wpAny P md l.toArray Q is.length listed a w
  | [], listed, a, w, hc, h => ⟨by simpa [chainB] using hc, h⟩
  | i :: is, listed, a, w, hc, h => by
    simp only [chainB, Bool.and_eq_true, beq_iff_eq] at hc
    refine ⟨fun hr => (by rw [hc.1] at hr; cases hr), fun j hj => ?_⟩
    have hij : j = i := by rw [hc.1] at hj; simpa using hj
    subst hij
    obtain ⟨_, o, ho, _⟩ := ons_ready hj
    unfold restOf at h
    rw [ho] at h
    unfold wpOp
    simp only [List.getElem?_toArray, ho]
    simp only [wpList] at h
    have key : wpOp P l.toArray Q j (wpList P l.toArray Q (restOf l is)) a w := by
      unfold wpOp
      simp only [List.getElem?_toArray, ho]
      exact h
    have := wpOp_mono (fun a w h => wpAny_chain is (listed.setIfInBounds j true) a w hc.2 h) key
    unfold wpOp at this
    simp only [List.getElem?_toArray, ho] at this
    exact this
/-- A region that draws its order: each operation of the first part for itself; the rest as it stands. -/
theorem wp_region_relR {id : Nat} {w : World} (hm : P.follows .mixedOrders = true) (R : World → World → Prop) (hR0 : ∀ w, R w w) (hRt : ∀ {a b c}, R a b → R b c → R a c) (W0 : World) (hs : R W0 w.drew) (V : Nat → World → Value → Prop) (hV : ∀ p w w' v, V p w v → R w w' → V p w' v) (cs : List Value) (dfs : List Deferred) (bs mk fk : List Bool) (ds : List (List Nat)) (ps : List Nat) (f : Nat)
    (hB : relB .any l mk fk bs ds ps = true) (hds : ds.length = l.length) (hfk : fk.length = l.length) (hsel : Region.noSelect l.toArray = true) (hI : f = l.length - mk.count true)
    (hQp : ∀ (p : Tmp) (v : Value) c a w, Q (.panic c) (a.put (some p) v) w → Q (.panic c) a w)
    (hobs : Obs P l.toArray Q V R W0 (fun s => fr s cs bs dfs) 0 l mk fk ds)
    (hfin : ∀ s V', R W0 V' → Know V V' s ps → wpAny P .any l.toArray Q f mk.toArray (fr s cs bs dfs) V') :
    (Code.region id l.toArray true).wp P Q ⟨cs.toArray, dfs⟩ w := by
  refine wp_region_any hm ?_
  have hf : (⟨cs.toArray, dfs⟩ : Act) = fr (fun p => cs.getD p undef) cs bs dfs := by unfold fr; rw [fill_self]
  rw [hf]
  have := wpAny_rel (md := .any) hR0 hRt hV cs bs dfs mk fk ds ps hB hds hfk hsel hQp hobs (fun s V' h1 h2 => by rw [← hI]; exact hfin s V' h1 h2) l.toArray.size (Array.replicate l.toArray.size false) (fun p => cs.getD p undef) w.drew ⟨by simp, fun i hi => (by rw [rep_false] at hi; cases hi), fun i o ho hi => (by rw [rep_false] at hi; cases hi)⟩
    (by simp [List.count_replicate]) hs (fun i o ho hi => (by rw [rep_false] at hi; cases hi))
  exact this
theorem wp_region_rel {id : Nat} {w : World} (hm : P.follows .mixedOrders = true) (V : Nat → World → Value → Prop) (hV : ∀ p w w' v, V p w v → New w w' → V p w' v) (cs : List Value) (dfs : List Deferred) (bs mk fk : List Bool) (ds : List (List Nat)) (ps : List Nat) (f : Nat)
    (hB : relB .any l mk fk bs ds ps = true) (hds : ds.length = l.length) (hfk : fk.length = l.length) (hsel : Region.noSelect l.toArray = true) (hI : f = l.length - mk.count true)
    (hQp : ∀ (p : Tmp) (v : Value) c a w, Q (.panic c) (a.put (some p) v) w → Q (.panic c) a w)
    (hobs : Obs P l.toArray Q V New w (fun s => fr s cs bs dfs) 0 l mk fk ds)
    (hfin : ∀ s V', New w V' → Know V V' s ps → wpAny P .any l.toArray Q f mk.toArray (fr s cs bs dfs) V') :
    (Code.region id l.toArray true).wp P Q ⟨cs.toArray, dfs⟩ w :=
  wp_region_relR hm New New.refl (fun h1 h2 => h1.trans h2) w (New.refl w).drew V hV cs dfs bs mk fk ds ps f hB hds hfk hsel hI hQp hobs hfin
end
end Go.Proofs.YtkjlmibleoecgaaGreatDoor
