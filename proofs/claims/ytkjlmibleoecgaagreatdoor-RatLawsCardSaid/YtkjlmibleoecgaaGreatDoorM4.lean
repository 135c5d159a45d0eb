/- The laws of 02: numbers in boxes, comparisons whose answers are known. -/
import Derived.Test.YtkjlmibleoecgaaGreatDoorqZ4
import Derived.Test.YtkjlmibleoecgaaGreatDoorqZ7
import Derived.Test.YtkjlmibleoecgaaGreatDoorM2
import Derived.Test.YtkjlmibleoecgaaGreatDoorM0
import Derived.Deep.RegionHeld3
import Derived.Test.YtkjlmibleoecgaaGreatDoorqRZ1
namespace Go.Proofs.YtkjlmibleoecgaaGreatDoor
set_option linter.unusedSimpArgs false
set_option linter.unusedVariables false
open Go.RowKit
/-- A number's box. -/
structure NY (w : World) (p : Nat) (A : Option Addr) (l c : Nat) (b : Bool) (z : Int) (k : Nat) : Prop where
  bx : Box w p #[.slice A l c, .bool b] NNum
  nx : NumB w (.agg #[.slice A l c, .bool b]) z k
theorem NY.new {w w' : World} {p : Nat} {A : Option Addr} {l c : Nat} {b : Bool} {z : Int} {k : Nat} (h : NY w p A l c b z k) (hn : New w w') : NY w' p A l c b z k := ⟨h.bx.new hn, h.nx.new hn⟩
theorem NY.cells {w : World} {p : Nat} {A : Option Addr} {l c : Nat} {b : Bool} {z : Int} {k : Nat} (h : NY w p A l c b z k) : w.cell? ⟨p, 0, none⟩ = some (.slice A l c) ∧ w.cell? ⟨p, 1, none⟩ = some (.bool b) := ⟨h.bx.cell 0, h.bx.cell 1⟩
theorem NY.last {w : World} {A : Option Addr} {l c : Nat} {b : Bool} {z : Int} {k : Nat} (o : Obj) (h : NumB w (.agg #[.slice A l c, .bool b]) z k) : NY ((w.alloc (.cells #[.slice A l c, .bool b] NNum)).alloc o) w.heap.size A l c b z k :=
  ⟨(Box.last w _ _).alloc _, h.new (((New.refl w).alloc _).alloc _)⟩
theorem NY.last2 {w : World} {A : Option Addr} {l c : Nat} {b : Bool} {z : Int} {k : Nat} (o : Obj) (h : NumB w (.agg #[.slice A l c, .bool b]) z k) : NY ((w.alloc o).alloc (.cells #[.slice A l c, .bool b] NNum)) (w.heap.size + 1) A l c b z k :=
  ⟨Box.last2 w _ _ _, h.new (((New.refl w).alloc _).alloc _)⟩
/-- The reference's number's box. -/
structure RY (w : World) (p : Nat) (b : Bool) (A : Option Addr) (l c : Nat) (z : Int) : Prop where
  bx : Box w p #[.bool b, .slice A l c] RNum
  nx : RNumV w (.agg #[.bool b, .slice A l c]) z
theorem RY.new {w w' : World} {p : Nat} {A : Option Addr} {l c : Nat} {b : Bool} {z : Int} (h : RY w p b A l c z) (hn : New w w') : RY w' p b A l c z := ⟨h.bx.new hn, h.nx.new hn⟩
theorem RY.last2 {w : World} {A : Option Addr} {l c : Nat} {b : Bool} {z : Int} (o : Obj) (h : RNumV w (.agg #[.bool b, .slice A l c]) z) : RY ((w.alloc o).alloc (.cells #[.bool b, .slice A l c] RNum)) (w.heap.size + 1) b A l c z :=
  ⟨Box.last2 w _ _ _, h.new (((New.refl w).alloc _).alloc _)⟩
section
variable {w : World} {u v : Value} {z y : Int} {k j : Nat}
theorem cmp_zero (hz : NumB w u z k) (hy : NumB w v y j) (hk : k ≤ 100000) (hj : j ≤ 100000) (h : z = y) :
    Calls Tryz.prog 34 #[u, v] w fun e w' => e = .returned (.int .i64 0) ∧ New w w' := by
  have := cmp_n hz hy hk hj
  rw [show cmpZ z y = 0 by unfold cmpZ; rw [if_neg (by omega), if_neg (by omega)]] at this
  exact this
theorem sign_v (s : Int) (hz : NumB w v z k) (hk : k ≤ 100000) (hs : sgZ z = s) :
    Calls Tryz.prog 36 #[v] w fun e w' => e = .returned (.int .i64 s) ∧ New w w' := by
  have := sign_n hz hk
  rw [hs] at this
  exact this
end
theorem data_injY {a b : ByteArray} (h : a.data.toList = b.data.toList) : a = b := by
  obtain ⟨⟨l⟩⟩ := a; obtain ⟨⟨m⟩⟩ := b
  cases h; rfl
end Go.Proofs.YtkjlmibleoecgaaGreatDoor
/- The laws of 02: texts and orders whose answers are named; the reference's. -/
namespace Go.Proofs.YtkjlmibleoecgaaGreatDoor
set_option linter.unusedSimpArgs false
set_option linter.unusedVariables false
open Go.RowKit
section
variable {w : World} {u v : Value} {z y : Int} {k j : Nat}
theorem text_nw (s : ByteArray) (hz : NumB w v z k) (hk : k ≤ 100000) (L : Lib.TabIs Tryz.prog w "internal/strconv.uint64pow10" .u64 Lib.pow10Tab) (hs : numS z = s) :
    Calls Tryz.prog 27 #[v] w fun e w' => e = .returned (.string s) ∧ New w w' := hs ▸ text_n hz hk L
theorem rtext_nw (s : ByteArray) (hz : RNumB w v z k) (hk : k ≤ 100000) (hs : numS z = s) :
    Calls Tryz.prog 29 #[v] w fun e w' => e = .returned (.string s) ∧ New w w' := hs ▸ rtext_n hz hk
theorem cmp_v (s : Int) (hz : NumB w u z k) (hy : NumB w v y j) (hk : k ≤ 100000) (hj : j ≤ 100000) (hs : cmpZ z y = s) :
    Calls Tryz.prog 34 #[u, v] w fun e w' => e = .returned (.int .i64 s) ∧ New w w' := hs ▸ cmp_n hz hy hk hj
theorem rcmp_v (s : Int) (hz : RNumB w u z k) (hy : RNumB w v y j) (hk : k ≤ 40000) (hj : j ≤ 40000) (hs : cmpZ z y = s) :
    Calls Tryz.prog 35 #[u, v] w fun e w' => e = .returned (.int .i64 s) ∧ New w w' := hs ▸ rcmp_n hz hy hk hj
theorem sign_w (s : Int) (hz : NumB w v z k) (hk : k ≤ 100000) (hs : sgZ z = s) :
    Calls Tryz.prog 36 #[v] w fun e w' => e = .returned (.int .i64 s) ∧ New w w' := hs ▸ sign_n hz hk
theorem rsign_w (s : Int) (hz : RNumB w v z k) (hs : sgZ z = s) :
    Calls Tryz.prog 43 #[v] w fun e w' => e = .returned (.int .i64 s) ∧ New w w' := hs ▸ rsign_n hz
end
end Go.Proofs.YtkjlmibleoecgaaGreatDoor
