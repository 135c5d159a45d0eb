/- The laws of 03: what they share. -/
import Derived.Test.YtkjlmibleoecgaaGreatDoorQo
import Derived.Test.YtkjlmibleoecgaaGreatDoorL0
import Derived.Shelf.Vars
namespace Go.Proofs.YtkjlmibleoecgaaGreatDoor
set_option linter.unusedSimpArgs false
set_option linter.unusedVariables false
open Go.RowKit
theorem maxLen_of {w : World} (hsh : w.ShapedOpen Tryz.prog) : ∃ m, w.cell? ⟨3, 0, none⟩ = some (.int .i64 m) :=
  cell_of_shapedOpen_int (P := Tryz.prog) (g := 3) (t := 3) (zero := #[.int .i64 0]) hsh (of_decide_eq_true (by kernel_rfl)) (by kernel_rfl) rfl (by kernel_rfl) (by kernel_rfl) Tryz.underlying3
/-- A fraction in a box. -/
structure QY (w : World) (p : Nat) (A : Option Addr) (l c : Nat) (b : Bool) (A' : Option Addr) (l' c' : Nat) (b' : Bool) (n d : Int) (k : Nat) : Prop where
  bx : Box w p #[.slice A l c, .bool b, .slice A' l' c', .bool b'] NRat
  rv : RatB w (.agg #[.slice A l c, .bool b, .slice A' l' c', .bool b']) n d k
section
variable {w w' : World} {p : Nat} {A : Option Addr} {l c : Nat} {b : Bool} {A' : Option Addr} {l' c' : Nat} {b' : Bool} {n d : Int} {k : Nat}
theorem QY.new (h : QY w p A l c b A' l' c' b' n d k) (hn : New w w') : QY w' p A l c b A' l' c' b' n d k := ⟨h.bx.new hn, h.rv.new hn⟩
theorem QY.last (h : RatB w (.agg #[.slice A l c, .bool b, .slice A' l' c', .bool b']) n d k) : QY (w.alloc (.cells #[.slice A l c, .bool b, .slice A' l' c', .bool b'] NRat)) w.heap.size A l c b A' l' c' b' n d k :=
  ⟨Box.last w _ _, h.new ((New.refl w).alloc _)⟩
theorem QY.before (h : RatB w (.agg #[.slice A l c, .bool b, .slice A' l' c', .bool b']) n d k) (o : Obj) : QY ((w.alloc (.cells #[.slice A l c, .bool b, .slice A' l' c', .bool b'] NRat)).alloc o) w.heap.size A l c b A' l' c' b' n d k :=
  (QY.last h).new ((New.refl _).alloc _)
end
theorem qcmp_w {w : World} {u v : Value} {n d n2 d2 : Int} {k : Nat} (s : Int) (hx : RatB w u n d k) (hy : RatB w v n2 d2 k) (hk : k ≤ 15000) (hk2 : 2 ≤ k) (hs : cmpZ (n * denZ d2) (n2 * denZ d) = s) :
    Calls Tryz.prog 62 #[u, v] w fun e w' => e = .returned (.int .i64 s) ∧ New w w' := hs ▸ qcmp_n hx hy hk hk2
theorem cmp_vals (x y : Int) : cmpZ x y = -1 ∨ cmpZ x y = 0 ∨ cmpZ x y = 1 := by unfold cmpZ; (repeat' split) <;> simp
end Go.Proofs.YtkjlmibleoecgaaGreatDoor
