/- DivMod, whole; Gcd. -/
import Derived.Test.YtkjlmibleoecgaaDoorDiv3
import Derived.Test.YtkjlmibleoecgaaDoorDiv4
import Derived.Test.YtkjlmibleoecgaaDoorDiv5
import Derived.BigRegion
import Derived.BigQuiet
namespace Go.Proofs.YtkjlmibleoecgaaDoor
set_option linter.unusedSimpArgs false
set_option linter.unusedVariables false
open Go.RowKit
/-- DivMod's error, its rest. -/
def divE (y : Nat) : Int := if y = 0 then 12 else 0
def remZ (x y : Nat) : Nat := if y = 0 then 0 else x % y
theorem divmod_c {x y : Nat} {u v : Value} {w : World} (hx : NatV w u x) (hy : NatV w v y) (hl : (dg B32 x).length ≤ 1000000) (hl2 : (dg B32 y).length ≤ 1000000) :
    Calls Tryd.prog 16 #[u, v] w fun e w' => ∃ q r, e = .returned (.tuple #[q, r, .int .i64 (divE y)]) ∧ NatV w' q (x / y) ∧ NatV w' r (remZ x y) ∧ New w w' := by
  by_cases h0 : y = 0
  · subst h0
    rw [Nat.div_zero]
    exact divmod_zero hx hy
  · have e1 : divE y = 0 := by unfold divE; rw [if_neg h0]
    have e2 : remZ x y = x % y := by unfold remZ; rw [if_neg h0]
    rw [e1, e2]
    by_cases h1 : x < y
    · exact divmod_less hx hy hl hl2 h1
    · by_cases h2 : (dg B32 y).length = 1
      · exact divmod_one hx hy hl (by omega) h2
      · have h3 : (dg B32 y).length ≠ 0 := fun h => h0 ((dg_nil B32_2).1 (List.length_eq_zero_iff.1 h))
        exact divmod_big hx hy hl (by omega) (by omega)
/-- What holds between Gcd's rounds. -/
structure GSt (w0 w : World) (p X Y x y : Nat) (A : Option Addr) (l c : Nat) (A' : Option Addr) (l' c' : Nat) : Prop where
  nw : New w0 w
  a : NatV w (.agg #[.slice A l c]) x
  b : NatV w (.agg #[.slice A' l' c']) y
  b0 : Box w p #[.slice A l c] 26
  b1 : Box w (p + 1) #[.slice A' l' c'] 26
  b2 : Box w (p + 1 + 1) #[.slice none 0 0] 26
  la : (dg B32 x).length ≤ 1000000
  lb : (dg B32 y).length ≤ 1000000
  g : Nat.gcd x y = Nat.gcd X Y
theorem GSt.new {w0 w w' : World} {p X Y x y : Nat} {A : Option Addr} {l c : Nat} {A' : Option Addr} {l' c' : Nat} (h : GSt w0 w p X Y x y A l c A' l' c') (hn : New w w') : GSt w0 w' p X Y x y A l c A' l' c' :=
  ⟨h.nw.trans hn, h.a.new hn, h.b.new hn, h.b0.new hn, h.b1.new hn, h.b2.new hn, h.la, h.lb, h.g⟩
/-- The exchange. -/
theorem GSt.turn {w0 w : World} {p X Y x y : Nat} {A : Option Addr} {l c : Nat} {A' : Option Addr} {l' c' : Nat} (h : GSt w0 w p X Y x y A l c A' l' c') {A2 : Option Addr} {l2 c2 : Nat} (hr : NatV w (.agg #[.slice A2 l2 c2]) (x % y)) (hy : 0 < y) (hp : w0.heap.size ≤ p) :
    GSt w0 ((w.setCell ⟨p, 0, none⟩ (.slice A' l' c')).setCell ⟨p + 1, 0, none⟩ (.slice A2 l2 c2)) p X Y y (x % y) A' l' c' A2 l2 c2 := by
  have h1' := h.b1.far (p := p) (i := 0) (by omega) (.slice A' l' c')
  obtain ⟨g0, g1⟩ := dv_two_boxes (u := .slice A' l' c') (v := .slice A2 l2 c2) h.b0 h.b1 (by omega)
  refine ⟨(h.nw.setCell (p := ⟨p, 0, none⟩) hp _).setCell (p := ⟨p + 1, 0, none⟩) (by simp; omega) _, (h.b.set h.b0 (by decide) _).set h1' (by decide) _, (hr.set h.b0 (by decide) _).set h1' (by decide) _, g0, g1, (h.b2.far (by omega) _).far (by omega) _, h.lb, ?_, ?_⟩
  · exact Nat.le_trans (dg_len_mono B32_2 (Nat.le_of_lt (Nat.mod_lt x hy))) h.lb
  · rw [← h.g, Nat.gcd_comm x y, Nat.gcd_rec y x, Nat.gcd_comm]
theorem cell_setCell {w : World} {p : Nat} {v u : Value} {T : TypeId} (h : Box w p #[v] T) : (w.setCell ⟨p, 0, none⟩ u).cell? ⟨p, 0, none⟩ = some u := (h.set 0 u).cell 0
end Go.Proofs.YtkjlmibleoecgaaDoor
