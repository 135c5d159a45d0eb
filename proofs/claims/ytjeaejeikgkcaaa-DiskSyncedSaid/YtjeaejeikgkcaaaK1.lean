/- The disk in memory: one block of 519 cells. -/
import Derived.Test.YtjeaejeikgkcaaaB0
import Derived.Test.YtjeaejeikgkcaaaProg
import Derived.Deep.MidRow
import Derived.Deep.RegionHeld3
import Derived.Laws.Tables
import Derived.Outline
namespace Go.Proofs.Ytjeaejeikgkcaaa
set_option linter.unusedSimpArgs false
set_option linter.unusedVariables false
open Go.RowKit

/-- A disk: what the program keeps. -/
structure DS where
  is : List ByteArray
  was : List ByteArray
  ops : Int
  cut : Int
  fail : Int
  keep : Int
  dead : Bool
  failing : Bool
/-- Its cells, but for the slice of what is cached. -/
def dcells (d : DS) (c : Value) : List Value := d.is.map .string ++ (d.was.map .string ++ [c, .int .i64 d.ops, .int .i64 d.cut, .int .i64 d.fail, .int .u64 d.keep, .bool d.dead, .bool d.failing])
def dsNew : DS := ⟨List.replicate 256 ⟨#[]⟩, List.replicate 256 ⟨#[]⟩, 0, -1, -1, 0, false, false⟩
def D0 : Array Value := (dcells dsNew (.slice none 0 0)).toArray
/-- Block p is the disk d, c the slice of what is cached. -/
structure DB (w : World) (p : Nat) (d : DS) (c : Value) : Prop where
  b : Box w p (dcells d c).toArray 58
  l1 : d.is.length = 256
  l2 : d.was.length = 256
section
variable {w w' : World} {p : Nat} {d : DS} {c : Value}
theorem DB.new (h : DB w p d c) (hn : New w w') : DB w' p d c := ⟨h.b.new hn, h.l1, h.l2⟩
theorem DB.far (h : DB w p d c) {q i : Nat} (hq : p ≠ q) (u : Value) : DB (w.setCell ⟨q, i, none⟩ u) p d c := ⟨h.b.far hq u, h.l1, h.l2⟩
theorem DB.drewN (h : DB w p d c) (n : Nat) : DB (w.drewN n) p d c := ⟨h.b, h.l1, h.l2⟩
theorem DB.at (h : DB w p d c) (i : Nat) : w.cell? ⟨p, i, none⟩ = (dcells d c)[i]? := by rw [h.b.cell]; simp
theorem DB.is (h : DB w p d c) {i : Nat} (hi : i < 256) : w.cell? ⟨p, i, none⟩ = some (.string (d.is[i]'(by rw [h.l1]; exact hi))) := by
  rw [h.at]
  unfold dcells
  rw [List.getElem?_append_left (by simp [h.l1]; omega)]
  simp [List.getElem?_eq_getElem (show i < d.is.length by rw [h.l1]; exact hi)]
theorem DB.was (h : DB w p d c) {i : Nat} (hi : i < 256) : w.cell? ⟨p, 256 + i, none⟩ = some (.string (d.was[i]'(by rw [h.l2]; exact hi))) := by
  rw [h.at]
  unfold dcells
  rw [List.getElem?_append_right (by simp [h.l1]), List.getElem?_append_left (by simp [h.l1, h.l2]; omega)]
  simp [h.l1, List.getElem?_eq_getElem (show i < d.was.length by rw [h.l2]; exact hi)]
theorem DB.tail (h : DB w p d c) (j : Nat) : w.cell? ⟨p, 512 + j, none⟩ = [c, Value.int .i64 d.ops, .int .i64 d.cut, .int .i64 d.fail, .int .u64 d.keep, .bool d.dead, .bool d.failing][j]? := by
  rw [h.at]
  unfold dcells
  rw [List.getElem?_append_right (by simp [h.l1]; omega), List.getElem?_append_right (by simp [h.l1, h.l2]; omega)]
  congr 1
  simp [h.l1, h.l2]; omega
theorem DB.cached (h : DB w p d c) : w.cell? ⟨p, 512, none⟩ = some c := h.tail 0
theorem DB.ops (h : DB w p d c) : w.cell? ⟨p, 513, none⟩ = some (.int .i64 d.ops) := h.tail 1
theorem DB.cut (h : DB w p d c) : w.cell? ⟨p, 514, none⟩ = some (.int .i64 d.cut) := h.tail 2
theorem DB.fail (h : DB w p d c) : w.cell? ⟨p, 515, none⟩ = some (.int .i64 d.fail) := h.tail 3
theorem DB.keep (h : DB w p d c) : w.cell? ⟨p, 516, none⟩ = some (.int .u64 d.keep) := h.tail 4
theorem DB.dead (h : DB w p d c) : w.cell? ⟨p, 517, none⟩ = some (.bool d.dead) := h.tail 5
theorem DB.failing (h : DB w p d c) : w.cell? ⟨p, 518, none⟩ = some (.bool d.failing) := h.tail 6
theorem DB.frozen (h : DB w p d c) (i : Nat) : w.frozen? ⟨p, i, none⟩ = false := h.b.frozen i
theorem set_tail (d : DS) (c : Value) (l1 : d.is.length = 256) (l2 : d.was.length = 256) (j : Nat) (u : Value) : (dcells d c).set (512 + j) u = d.is.map .string ++ (d.was.map .string ++ ([c, Value.int .i64 d.ops, .int .i64 d.cut, .int .i64 d.fail, .int .u64 d.keep, .bool d.dead, .bool d.failing].set j u)) := by
  unfold dcells
  rw [List.set_append_right _ _ (by simp [l1]; omega), List.set_append_right _ _ (by simp [l1, l2]; omega)]
  congr 3
  simp [l1, l2]; omega
theorem DB.put (h : DB w p d c) (j : Nat) (u : Value) : Box (w.setCell ⟨p, 512 + j, none⟩ u) p (d.is.map Value.string ++ (d.was.map Value.string ++ ([c, Value.int .i64 d.ops, .int .i64 d.cut, .int .i64 d.fail, .int .u64 d.keep, .bool d.dead, .bool d.failing].set j u))).toArray 58 := by
  have := h.b.set (512 + j) u
  rw [List.setIfInBounds_toArray, set_tail d c h.l1 h.l2] at this
  exact this
theorem DB.putCached (h : DB w p d c) (u : Value) : DB (w.setCell ⟨p, 512, none⟩ u) p d u := ⟨h.put 0 u, h.l1, h.l2⟩
theorem DB.putOps (h : DB w p d c) (n : Int) : DB (w.setCell ⟨p, 513, none⟩ (.int .i64 n)) p { d with ops := n } c := ⟨h.put 1 (.int .i64 n), h.l1, h.l2⟩
theorem DB.putCut (h : DB w p d c) (n : Int) : DB (w.setCell ⟨p, 514, none⟩ (.int .i64 n)) p { d with cut := n } c := ⟨h.put 2 (.int .i64 n), h.l1, h.l2⟩
theorem DB.putFail (h : DB w p d c) (n : Int) : DB (w.setCell ⟨p, 515, none⟩ (.int .i64 n)) p { d with fail := n } c := ⟨h.put 3 (.int .i64 n), h.l1, h.l2⟩
theorem DB.putKeep (h : DB w p d c) (n : Int) : DB (w.setCell ⟨p, 516, none⟩ (.int .u64 n)) p { d with keep := n } c := ⟨h.put 4 (.int .u64 n), h.l1, h.l2⟩
theorem DB.putDead (h : DB w p d c) (n : Bool) : DB (w.setCell ⟨p, 517, none⟩ (.bool n)) p { d with dead := n } c := ⟨h.put 5 (.bool n), h.l1, h.l2⟩
theorem DB.putFailing (h : DB w p d c) (n : Bool) : DB (w.setCell ⟨p, 518, none⟩ (.bool n)) p { d with failing := n } c := ⟨h.put 6 (.bool n), h.l1, h.l2⟩
theorem DB.putIs (h : DB w p d c) {i : Nat} (hi : i < 256) (s : ByteArray) : DB (w.setCell ⟨p, i, none⟩ (.string s)) p { d with is := d.is.set i s } c := by
  refine ⟨?_, by simp [h.l1], h.l2⟩
  have := h.b.set i (.string s)
  rw [List.setIfInBounds_toArray] at this
  unfold dcells at this ⊢
  rw [List.set_append_left _ _ (by simp [h.l1]; omega), ← List.map_set] at this
  exact this
theorem DB.putWas (h : DB w p d c) {i : Nat} (hi : i < 256) (s : ByteArray) : DB (w.setCell ⟨p, 256 + i, none⟩ (.string s)) p { d with was := d.was.set i s } c := by
  refine ⟨?_, h.l1, by simp [h.l2]⟩
  have := h.b.set (256 + i) (.string s)
  rw [List.setIfInBounds_toArray] at this
  unfold dcells at this ⊢
  rw [List.set_append_right _ _ (by simp [h.l1]), List.set_append_left _ _ (by simp [h.l1, h.l2]; omega)] at this
  rw [show 256 + i - (d.is.map Value.string).length = i by simp [h.l1], ← List.map_set] at this
  exact this
end
theorem built0 : Try.prog.built 58 [(4, .int .i64 (-1)), (5, .int .i64 (-1))] = some D0 := by kernel_rfl
theorem wpList_new {ops : Array Oper} {rest : List Oper} {o : Oper} {a : Act} {w : World} {Q : Exit → Act → World → Prop} (hgd : o.guard = none)
    (ho : o.op = .build 58 #[(4, .const (.int .i64 (-1))), (5, .const (.int .i64 (-1)))]) (h : wpList Try.prog ops Q rest (a.put o.dst (.agg D0)) w) : wpList Try.prog ops Q (o :: rest) a w :=
  wpList_plain hgd fun K hK => by
    unfold Oper.wp execOp
    have hr := run_build (P := Try.prog) w 58 #[(4, Value.int .i64 (-1)), (5, Value.int .i64 (-1))] D0 built0
    simp only [ho, Sem.run_bind]
    have e : (#[(4, Operand.const (Value.int .i64 (-1))), (5, Operand.const (Value.int .i64 (-1)))].map fun x : Nat × Operand => (x.1, a.eval x.2)) = #[(4, Value.int .i64 (-1)), (5, Value.int .i64 (-1))] := by simp [Act.eval]
    simp only [e, hr, Result.andThen_ok]
    exact hK _ _ h
set_option maxHeartbeats 400000 in
theorem new_c (w : World) : Calls Try.prog 9 #[] w fun e w' => e = .returned (.pointer (some ⟨w.heap.size, 0, none⟩)) ∧ DB w' w.heap.size dsNew (.slice none 0 0) ∧ New w w' := by
  go_enter Try.func9, Try.ntmps9
  go_wp2_with (refine wpList_new rfl rfl ?_)
  go_ret
  exact ⟨rfl, ⟨Box.last w _ _, List.length_replicate, List.length_replicate⟩, (New.refl w).alloc _⟩
end Go.Proofs.Ytjeaejeikgkcaaa
