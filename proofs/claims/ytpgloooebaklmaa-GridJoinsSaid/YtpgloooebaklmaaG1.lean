/- A grid as it came in; small functions walked. -/
import Derived.Test.YtpgloooebaklmaaB1
import Derived.Test.YtpgloooebaklmaaProg
namespace Go.Proofs.Ytpgloooebaklmaa
set_option linter.unusedSimpArgs false
set_option linter.unusedVariables false
open Go.RowKit Go.ChangeShapes Go.WideShapes Go.Deep Go.Joins Go.ChangeMaps
def i64ok (x : Int) : Prop := -9223372036854775808 ≤ x ∧ x ≤ 9223372036854775807
structure Lin where
  fr : Int
  to' : Int
  cap : Int
/-- A line at an address. -/
def LinAt (w : World) (b o : Nat) (r : Lin) : Prop :=
  b < w.heap.size ∧ w.cell? ⟨b, o, none⟩ = some (.int .i64 r.fr) ∧ w.cell? ⟨b, o + 1, none⟩ = some (.int .i64 r.to') ∧ w.cell? ⟨b, o + 2, none⟩ = some (.int .i64 r.cap) ∧ i64ok r.fr ∧ i64ok r.to' ∧ i64ok r.cap
def SlLin (w : World) (v : Value) (rs : List Lin) : Prop :=
  ∃ A c, v = .slice A rs.length c ∧ rs.length ≤ c ∧ c ≤ maxLen ∧ ∀ i (h : i < rs.length), ∃ b o, A = some ⟨b, o, none⟩ ∧ LinAt w b (o + i * 3) rs[i]
theorem SlLin.new {w w' : World} {v : Value} {rs : List Lin} (h : SlLin w v rs) (hn : New w w') : SlLin w' v rs := by
  obtain ⟨A, c, e, h1, h2, h3⟩ := h
  refine ⟨A, c, e, h1, h2, fun i hi => ?_⟩
  obtain ⟨b, o, e, a1, a2, a3, a4, a5⟩ := h3 i hi
  exact ⟨b, o, e, Nat.lt_of_lt_of_le a1 hn.le, hn.still a2, hn.still a3, hn.still a4, a5⟩
structure Grd where
  zones : Int
  hours : Int
  lines : List Lin
  low : Int
  high : Int
/-- A grid's cells. -/
def gcells (g : Grd) (v : Value) : Array Value := #[.int .i64 g.zones, .int .i64 g.hours, v, .int .i64 g.low, .int .i64 g.high]
structure GrdIn (w : World) (g : Grd) (v : Value) : Prop where
  ls : SlLin w v g.lines
  z : i64ok g.zones
  h : i64ok g.hours
  l : i64ok g.low
  u : i64ok g.high
theorem GrdIn.new {w w' : World} {v : Value} {g : Grd} (h : GrdIn w g v) (hn : New w w') : GrdIn w' g v := ⟨h.ls.new hn, h.z, h.h, h.l, h.u⟩
section
variable {H : Type} {enc : TypeId × Value → H} {w : World} {P : Program} {base : Nat} {spare : Nat → Bool} {held : Bool}
theorem trod_struct5 {t : TypeId} {f0 f1 f2 f3 f4 : Field} {fuel : Nat} {cs : List Value} {x : DataW H × List MemPlace} (ht : P.underlying t = some (.struct #[f0, f1, f2, f3, f4])) (h : DataW.trod enc P w base spare held fuel t cs = some x) :
    ∃ y0 y1 y2 y3 y4 n, cs.length = P.cellsOf t ∧ DataW.trod enc P w base spare held n f0.type ((cs.drop f0.offset).take (P.cellsOf f0.type)) = some y0 ∧
      DataW.trod enc P w base spare held n f1.type ((cs.drop f1.offset).take (P.cellsOf f1.type)) = some y1 ∧ DataW.trod enc P w base spare held n f2.type ((cs.drop f2.offset).take (P.cellsOf f2.type)) = some y2 ∧
      DataW.trod enc P w base spare held n f3.type ((cs.drop f3.offset).take (P.cellsOf f3.type)) = some y3 ∧ DataW.trod enc P w base spare held n f4.type ((cs.drop f4.offset).take (P.cellsOf f4.type)) = some y4 := by
  obtain ⟨xs, n, _, rfl, hl, hlen, hf⟩ := DataW.trod_struct ht h
  match xs, hlen with
  | [y0, y1, y2, y3, y4], _ => exact ⟨y0, y1, y2, y3, y4, n, hl, by simpa using hf 0 f0 rfl, by simpa using hf 1 f1 rfl, by simpa using hf 2 f2 rfl, by simpa using hf 3 f3 rfl, by simpa using hf 4 f4 rfl⟩
theorem array5 {α : Type} {cs : Array α} (h : cs.size = 5) : ∃ c0 c1 c2 c3 c4, cs = #[c0, c1, c2, c3, c4] := by
  obtain ⟨l⟩ := cs
  match l, h with
  | [c0, c1, c2, c3, c4], _ => exact ⟨c0, c1, c2, c3, c4, rfl⟩
theorem open_lines {fuel : Nat} {v : Value} {x : DataW H × List MemPlace} (hf : DataW.trod enc Try.prog w base (fun _ => true) held fuel 22 [v] = some x) : ∃ rs, SlLin w v rs := by
  obtain ⟨A, n, c, rfl, h1, h2, h3⟩ := trod_slice_at (t := 22) (e := 31) (sz := 3) (by kernel_rfl) (by kernel_rfl) (by omega) hf
  obtain ⟨rs, hl, hp⟩ := list_choose (p := fun i (r : Lin) => ∃ b o, A = some ⟨b, o, none⟩ ∧ LinAt w b (o + i * 3) r) n (fun i hi => by
    obtain ⟨b, o, cs, m, y, e, hb, hlen, hc, ht⟩ := h3 i hi
    obtain ⟨y0, y1, y2, m', _, _, hy0, hy1, hy2⟩ := trod_struct3 (t := 31) Try.underlying31 ht
    obtain ⟨c0, c1, c2, rfl⟩ : ∃ c0 c1 c2, cs = [c0, c1, c2] := by
      match cs, hlen with
      | [c0, c1, c2], _ => exact ⟨c0, c1, c2, rfl⟩
    obtain ⟨a0, e0, -, w0⟩ := DataW.trod_int (k := .i64) (by kernel_rfl) hy0
    obtain ⟨a1, e1, -, w1⟩ := DataW.trod_int (k := .i64) (by kernel_rfl) hy1
    obtain ⟨a2, e2, -, w2⟩ := DataW.trod_int (k := .i64) (by kernel_rfl) hy2
    have e0' : c0 = .int .i64 a0 := by have : [c0] = [Value.int .i64 a0] := e0; simpa using this
    have e1' : c1 = .int .i64 a1 := by have : [c1] = [Value.int .i64 a1] := e1; simpa using this
    have e2' : c2 = .int .i64 a2 := by have : [c2] = [Value.int .i64 a2] := e2; simpa using this
    subst e0'; subst e1'; subst e2'
    refine ⟨⟨a0, a1, a2⟩, b, o, e, hb, hc 0 (by omega), hc 1 (by omega), hc 2 (by omega), ?_, ?_, ?_⟩
    · unfold i64ok; simpa [Lit.wf, IntKind.min, IntKind.max, IntKind.signed, IntKind.bits] using w0
    · unfold i64ok; simpa [Lit.wf, IntKind.min, IntKind.max, IntKind.signed, IntKind.bits] using w1
    · unfold i64ok; simpa [Lit.wf, IntKind.min, IntKind.max, IntKind.signed, IntKind.bits] using w2)
  subst hl
  exact ⟨rs, A, c, rfl, h1, h2, hp⟩
theorem open_grid {r : Reach} {b0 : Nat} {v : Value} {d : DataW H} {p : List MemPlace} (hv : Value.okWide Try.prog w r b0 24 v)
    (h : DataW.Trod enc Try.prog w base (fun _ => true) held 24 v d p) : ∃ g : Grd × Value, v = .agg (gcells g.1 g.2) ∧ GrdIn w g.1 g.2 := by
  obtain ⟨cs, rfl, hc⟩ := okWide_struct Try.underlying24 hv
  obtain ⟨c0, c1, c2, c3, c4, rfl⟩ := array5 (show cs.size = 5 from hc)
  obtain ⟨fuel, hf⟩ := h
  obtain ⟨y0, y1, y2, y3, y4, n, hl, h0, h1, h2, h3, h4⟩ := trod_struct5 (t := 24) Try.underlying24 hf
  obtain ⟨a0, e0, -, w0⟩ := DataW.trod_int (k := .i64) (by kernel_rfl) h0
  obtain ⟨a1, e1, -, w1⟩ := DataW.trod_int (k := .i64) (by kernel_rfl) h1
  obtain ⟨a3, e3, -, w3⟩ := DataW.trod_int (k := .i64) (by kernel_rfl) h3
  obtain ⟨a4, e4, -, w4⟩ := DataW.trod_int (k := .i64) (by kernel_rfl) h4
  have e0' : c0 = .int .i64 a0 := by have : [c0] = [Value.int .i64 a0] := e0; simpa using this
  have e1' : c1 = .int .i64 a1 := by have : [c1] = [Value.int .i64 a1] := e1; simpa using this
  have e3' : c3 = .int .i64 a3 := by have : [c3] = [Value.int .i64 a3] := e3; simpa using this
  have e4' : c4 = .int .i64 a4 := by have : [c4] = [Value.int .i64 a4] := e4; simpa using this
  subst e0'; subst e1'; subst e3'; subst e4'
  obtain ⟨rs, hrs⟩ := open_lines (v := c2) (show DataW.trod enc Try.prog w base (fun _ => true) held n 22 [c2] = some y2 from h2)
  refine ⟨⟨⟨a0, a1, rs, a3, a4⟩, c2⟩, rfl, hrs, ?_, ?_, ?_, ?_⟩
  · unfold i64ok; simpa [Lit.wf, IntKind.min, IntKind.max, IntKind.signed, IntKind.bits] using w0
  · unfold i64ok; simpa [Lit.wf, IntKind.min, IntKind.max, IntKind.signed, IntKind.bits] using w1
  · unfold i64ok; simpa [Lit.wf, IntKind.min, IntKind.max, IntKind.signed, IntKind.bits] using w3
  · unfold i64ok; simpa [Lit.wf, IntKind.min, IntKind.max, IntKind.signed, IntKind.bits] using w4
end
def fitI (n lo hi : Int) : Bool := decide (lo ≤ n ∧ n ≤ hi)
theorem ret_bool {a b : Bool} (h : a = b) : Ending.returned (.bool a) = .returned (.bool b) := by rw [h]
set_option maxHeartbeats 1000000 in
theorem fits_c (n lo hi : Int) (w : World) : Calls Try.prog 10 #[.int .i64 n, .int .i64 lo, .int .i64 hi] w fun e w' => e = .returned (.bool (fitI n lo hi)) ∧ w = w' := by
  have hc : n < lo ∨ (lo ≤ n ∧ n ≤ hi) ∨ (lo ≤ n ∧ hi < n) := by omega
  rcases hc with h1 | ⟨h1, h2⟩ | ⟨h1, h2⟩
  · have e : fitI n lo hi = false := by unfold fitI; exact decide_eq_false (by omega)
    rw [e]
    go_enter Try.func10, Try.ntmps10
    go_wp2
    go_ret
    exact ⟨rfl, rfl⟩
  · have e : fitI n lo hi = true := by unfold fitI; exact decide_eq_true ⟨h1, h2⟩
    rw [e]
    go_enter Try.func10, Try.ntmps10
    go_wp2
    go_ret
    exact ⟨ret_bool (by first | rfl | (simp; omega)), rfl⟩
  · have e : fitI n lo hi = false := by unfold fitI; exact decide_eq_false (by omega)
    rw [e]
    go_enter Try.func10, Try.ntmps10
    go_wp2
    go_ret
    exact ⟨ret_bool (by first | rfl | (simp; omega)), rfl⟩
set_option maxHeartbeats 1000000 in
theorem within_c (n lo hi : Int) (w : World) : Calls Try.prog 8 #[.int .i64 n, .int .i64 lo, .int .i64 hi] w fun e w' => e = .returned (.bool (fitI n lo hi)) ∧ w = w' := by
  have hc : n < lo ∨ (lo ≤ n ∧ n ≤ hi) ∨ (lo ≤ n ∧ hi < n) := by omega
  rcases hc with h1 | ⟨h1, h2⟩ | ⟨h1, h2⟩
  · have e : fitI n lo hi = false := by unfold fitI; exact decide_eq_false (by omega)
    rw [e]
    go_enter Try.func8, Try.ntmps8
    go_wp2
    go_ret
    exact ⟨rfl, rfl⟩
  · have e : fitI n lo hi = true := by unfold fitI; exact decide_eq_true ⟨h1, h2⟩
    rw [e]
    go_enter Try.func8, Try.ntmps8
    go_wp2
    go_ret
    exact ⟨ret_bool (by first | rfl | (simp; omega)), rfl⟩
  · have e : fitI n lo hi = false := by unfold fitI; exact decide_eq_false (by omega)
    rw [e]
    go_enter Try.func8, Try.ntmps8
    go_wp2
    go_ret
    exact ⟨ret_bool (by first | rfl | (simp; omega)), rfl⟩
/-- Too many lines? -/
def heavyB (g : Grd) : Bool := decide (256 < (g.lines.length : Int))
set_option maxHeartbeats 1000000 in
theorem heavy_c (g : Grd) (v : Value) (w : World) (h : GrdIn w g v) : Calls Try.prog 4 #[.agg (gcells g v), .slice none 0 0] w fun e w' => e = .returned (.bool (heavyB g)) ∧ New w w' := by
  obtain ⟨A, c, rfl, h1, h2, _⟩ := h.ls
  have hl : (g.lines.length : Int) ≤ 9223372036854775807 := by unfold maxLen at h2; omega
  unfold gcells heavyB
  go_enter Try.func4, Try.ntmps4
  go_wp2
  go_loopw [5, 6] (fun v5 v6 w' => v5 = .int .i64 0 ∧ v6 = .int .i64 0 ∧ Hid (w' = w.alloc (.cells #[.int .i64 g.zones, .int .i64 g.hours, .slice A g.lines.length c, .int .i64 g.low, .int .i64 g.high] 24))) (fun _ _ _ => 0)
  case atStart => exact ⟨rfl, rfl, rfl⟩
  case round =>
    obtain ⟨rfl, rfl, HW⟩ := hrel
    obtain rfl := HW.out
    go_wp2
    go_ret
    exact ⟨ret_bool (by first | rfl | simp), (New.refl w).alloc _⟩
end Go.Proofs.Ytpgloooebaklmaa
