/- A region that draws its order, walked once, in a class of worlds: of no program. -/
import Derived.Test.YtgamenliikbkcaaDoorB0
import Derived.BigQuiet
import Derived.Deep.MidRow
namespace Go.Proofs.YtgamenliikbkcaaDoor
set_option linter.unusedSimpArgs false
set_option linter.unusedVariables false
open Go.RowKit
section
variable {P : Program} {ops : Array Oper} {C : World → Prop} {a : Act} {o : Oper} {K : Act → Prop}
theorem quiet_val (v : Value) (h : ∀ w, C w → (execOp a.eval o).run P w = .ok (.value v) w) (hk : K (a.put o.dst v)) : o.quiet P a C K :=
  ⟨v, fun w hw => by unfold Oper.quietAt; rw [h w hw]; exact ⟨rfl, rfl⟩, hk⟩
theorem quiet_call {f : FuncId} {args : Array Value} (v : Value) (h : ∀ w, (execOp a.eval o).run P w = .ok (.enter f args) w) (hc : ∀ w, C w → Calls P f args w fun e w' => e = .returned v ∧ C w') (hk : K (a.put o.dst v)) : o.quiet P a C K :=
  ⟨v, fun w hw => by unfold Oper.quietAt; rw [h w]; exact ⟨rfl, hc w hw⟩, hk⟩
/-- The load of a whole struct out of a block. -/
theorem quiet_load (t : TypeId) (x : Operand) (ho : o.op = .load t x) (p : Nat) (A : Array Value) (hx : a.eval x = .pointer (some ⟨p, 0, none⟩)) (hb : ∀ w, C w → Box w p A t)
    (d : TypeDesc) (hu : P.underlying t = some d) (hd : d.isRow = true) (hi : (P.info? t).map (·.size) = some A.size) (hk : K (a.put o.dst (.agg A))) : o.quiet P a C K := by
  refine quiet_val (.agg A) (fun w hw => ?_) hk
  have hr : w.rangeAt p 0 A.toList := fun j v hj => by rw [Nat.zero_add, (hb w hw).cell]; simpa using hj
  unfold execOp
  simp only [ho, hx, Instr.loadAt, Instr.sureAddr, Sem.run_bind, Sem.run_pure, Result.andThen_ok, run_loadVar_mid w p 0 t A.toList d hr hu hd (by simpa using hi), Array.toArray_toList]
/-- One walk of the lexical order serves every order, in a class of worlds. -/
theorem wp_region_class (C : World → Prop) {id : Nat} {Q : Exit → Act → World → Prop} {a : Act} {w : World} {l : List Oper} (hm : P.follows .mixedOrders = true) (hB : Region.lexB .any l.toArray = true) (hC : C w.drew)
    (h : wpQuiet P l.toArray C (fun a' => ∀ w', C w' → Q .normal a' w') l a) : (Code.region id l.toArray true).wp P Q a w :=
  wp_region_quiet (C := C) hm hB hC (by simpa using h)
theorem setCells_alloc {V : World} {t : TypeId} : ∀ (vs : List Value) (o : Nat) (X : List Value), o + vs.length ≤ X.length → (V.alloc (.cells X.toArray t)).setCells V.heap.size o vs = V.alloc (.cells (X.take o ++ vs ++ X.drop (o + vs.length)).toArray t)
  | [], o, X, h => by simp [World.setCells]
  | v :: r, o, X, hl => by
    have hol : o < X.length := by simp at hl; omega
    rw [World.setCells, World.setCell_alloc_new, List.setIfInBounds_toArray, setCells_alloc r (o + 1) (X.set o v) (by simp at hl ⊢; omega)]
    have e : (X.set o v).take (o + 1) ++ r ++ (X.set o v).drop (o + 1 + r.length) = X.take o ++ (v :: r) ++ X.drop (o + (v :: r).length) := by
      rw [List.take_succ_eq_append_getElem (by simpa using hol), List.getElem_set_self, List.take_set_of_le (Nat.le_refl _), List.drop_set_of_lt (by omega)]
      simp only [List.append_assoc, List.cons_append, List.nil_append, List.length_cons]
      congr 4
      omega
    rw [e]
/-- A whole struct, loaded out of a block that was just made. -/
theorem wpList_load_new {rest : List Oper} {Q : Exit → Act → World → Prop} (V : World) (A : List Value) (t p : Nat) (hgd : o.guard = none) (x : Operand) (ho : o.op = .load t x) (hp : V.heap.size = p)
    (hx : a.eval x = .pointer (some ⟨p, 0, none⟩)) (d : TypeDesc) (hu : P.underlying t = some d) (hd : d.isRow = true) (hi : (P.info? t).map (·.size) = some A.length)
    (h : wpList P ops Q rest (a.put o.dst (.agg A.toArray)) (V.alloc (.cells A.toArray t))) : wpList P ops Q (o :: rest) a (V.alloc (.cells A.toArray t)) := by
  subst hp
  refine wpList_load_mid hgd t x ho V.heap.size 0 hx A d (fun j v hj => ?_) hu hd hi h
  rw [Nat.zero_add, (Box.last V A.toArray t).cell]
  simpa using hj
/-- A whole struct, stored into a block that was just made. -/
theorem wpList_store_new {rest : List Oper} {Q : Exit → Act → World → Prop} (V : World) (Z A : List Value) (t p : Nat) (hgd : o.guard = none) (x y : Operand) (ho : o.op = .store t x y) (hp : V.heap.size = p)
    (hx : a.eval x = .pointer (some ⟨p, 0, none⟩)) (hy : a.eval y = .agg A.toArray) (hZ : Z.length = A.length) (hi : (P.info? t).map (·.size) = some A.length) (h1 : A.all (·.oneCell') = true)
    (h : wpList P ops Q rest (a.put o.dst undef) (V.alloc (.cells A.toArray t))) : wpList P ops Q (o :: rest) a (V.alloc (.cells Z.toArray t)) := by
  subst hp
  refine wpList_store_mid hgd t x y ho V.heap.size 0 A.toArray hx hy (fun j hj => ?_) (by simpa using hi) (by simpa using h1) ?_
  · have hb := Box.last V Z.toArray t
    refine ⟨?_, hb.frozen _⟩
    rw [Nat.zero_add, hb.cell, List.getElem?_toArray, List.getElem?_eq_getElem (by simp at hj; omega)]
    rfl
  · have := setCells_alloc (V := V) (t := t) A 0 Z (by omega)
    rw [List.take_zero, List.nil_append, List.drop_eq_nil_of_le (by omega), List.append_nil] at this
    rw [List.toList_toArray, this]
    exact h
end
end Go.Proofs.YtgamenliikbkcaaDoor
