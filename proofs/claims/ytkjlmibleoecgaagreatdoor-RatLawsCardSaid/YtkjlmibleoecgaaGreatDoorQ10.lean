/- The program's rat: Parse. (Printed by mkq10.py.) -/
import Derived.Test.YtkjlmibleoecgaaGreatDoorQt
import Derived.Test.YtkjlmibleoecgaaGreatDoorM4
namespace Go.Proofs.YtkjlmibleoecgaaGreatDoor
set_option linter.unusedSimpArgs false
set_option linter.unusedVariables false
open Go.RowKit
theorem q_lens (l : List UInt8) : (qa l).length ≤ l.length ∧ (qb l).length ≤ l.length := by
  rcases cut_cases l with ⟨-, h1, h2, -⟩ | ⟨-, h1, -⟩
  · rw [h1, h2]; exact ⟨Nat.le_refl _, Nat.zero_le _⟩
  · have := congrArg List.length h1
    rw [List.length_append, List.length_cons] at this
    omega
theorem NY.last1 {w : World} {A : Option Addr} {l c : Nat} {b : Bool} {z : Int} {k : Nat} (h : NumB w (.agg #[.slice A l c, .bool b]) z k) : NY (w.alloc (.cells #[.slice A l c, .bool b] NNum)) w.heap.size A l c b z k :=
  ⟨Box.last w _ _, h.new ((New.refl w).alloc _)⟩
/-- The result's box of Parse. -/
structure PB (w0 w : World) (p : Nat) : Prop where
  nw : New w0 w
  br : Box w p #[.slice none 0 0, .bool false, .slice none 0 0, .bool false] NRat
  p0 : w0.heap.size ≤ p
theorem PB.new {w0 w w' : World} {p : Nat} (h : PB w0 w p) (hn : New w w') : PB w0 w' p := ⟨h.nw.trans hn, h.br.new hn, h.p0⟩
theorem PB.done {w0 w : World} {p : Nat} (h : PB w0 w p) (a0 a1 a2 a3 : Value) : New w0 ((((w.setCell ⟨p, 0, none⟩ a0).setCell ⟨p, 1, none⟩ a1).setCell ⟨p, 2, none⟩ a2).setCell ⟨p, 3, none⟩ a3) := by
  have hp := h.p0
  exact (((h.nw.setCell (p := ⟨p, 0, none⟩) hp a0).setCell (p := ⟨p, 1, none⟩) hp a1).setCell (p := ⟨p, 2, none⟩) hp a2).setCell (p := ⟨p, 3, none⟩) hp a3
theorem PB.turn {w0 w : World} {p q : Nat} {a0 a1 : Value} (h : PB w0 w p) (hb : Box w q #[a0, a1] NNum) (hq : p < q) (x y : Value) : PB w0 ((w.setCell ⟨q, 0, none⟩ x).setCell ⟨q, 1, none⟩ y) p :=
  ⟨New.set2 h.nw (by have := h.p0; omega) x y, (h.br.far (by omega) _).far (by omega) _, h.p0⟩
theorem NY.turn {w : World} {p q : Nat} {A : Option Addr} {l c : Nat} {b : Bool} {z : Int} {k : Nat} {a0 a1 : Value} (h : NY w p A l c b z k) (hb : Box w q #[a0, a1] NNum) (hq : p < q) (x y : Value) : NY ((w.setCell ⟨q, 0, none⟩ x).setCell ⟨q, 1, none⟩ y) p A l c b z k :=
  ⟨(h.bx.far (by omega) _).far (by omega) _, h.nx.lay2 hb x y⟩
theorem NY.turned {w : World} {q : Nat} {A : Option Addr} {l c : Nat} {b : Bool} {z : Int} {k : Nat} {a0 a1 : Value} (hb : Box w q #[a0, a1] NNum) (h : NumB w (.agg #[.slice A l c, .bool b]) z k) : NY ((w.setCell ⟨q, 0, none⟩ (.slice A l c)).setCell ⟨q, 1, none⟩ (.bool b)) q A l c b z k :=
  ⟨hb.lay2 _ _, h.lay2 hb _ _⟩
theorem qtext_w {w : World} {v : Value} {n d : Int} {k : Nat} (s : ByteArray) (hx : RatB w v n d k) (hk : k ≤ 15000) (hk2 : 2 ≤ k) (L : Lib.TabIs Tryz.prog w "internal/strconv.uint64pow10" .u64 Lib.pow10Tab) (hs : ratS n d = s) :
    Calls Tryz.prog 54 #[v] w fun e w' => e = .returned (.string s) ∧ New w w' := hs ▸ qtext_n hx hk hk2 L
/-- A number parsed, of as many limbs as it has letters. -/
theorem parse_q (b : ByteArray) (l : List UInt8) (hb : b.data.toList = l) (hl : l.length ≤ 256) (W : World) :
    Calls Tryz.prog 50 #[.string b] W fun e w' => ∃ v, e = .returned (.tuple #[v, .int .i64 (errZ l)]) ∧ NumB w' v (zNum l) 256 ∧ New W w' := by
  have := parse_n b W (by rw [Lib.size_eq, hb]; omega)
  rw [hb] at this
  exact this.mono fun e w' h => h.elim fun v h => ⟨v, h.1, ⟨h.2.1.v, Nat.le_trans (zNum_len (by decide)) hl⟩, h.2.2⟩
section
variable {w : World} {m : Int}
set_option maxRecDepth 1000000 in
set_option maxHeartbeats 8000000 in
theorem qp_A (s : ByteArray) (hs : s.size ≤ 256) (hm : w.cell? ⟨3, 0, none⟩ = some (.int .i64 m)) (ha : isZ (qa s.data.toList) = false) :
    Calls Tryz.prog 102 #[.string s] w fun e w' => ∃ v, e = .returned (.tuple #[v, .int .i64 (10)]) ∧ RatB w' v (0) (0) 256 ∧ New w w' := by
  obtain ⟨ba, hba⟩ : ∃ x : ByteArray, x = ⟨(qa s.data.toList).toArray⟩ := ⟨_, rfl⟩
  obtain ⟨bb, hbb⟩ : ∃ x : ByteArray, x = ⟨(qb s.data.toList).toArray⟩ := ⟨_, rfl⟩
  have hln := q_lens s.data.toList
  rw [← Lib.size_eq] at hln
  have hcut := fun W (hn : New w W) => (Tryz.strings_Cut s ⟨#[47]⟩ m W (by omega) (hn.still hm)).mono (R' := fun e w' => e = .returned (.tuple #[.string ba, .string bb, .bool (qi s.data.toList)]) ∧ New W w') (by
    rintro e w' ⟨rfl, n, rfl⟩
    exact ⟨by rw [hba, hbb]; rfl, (New.refl W).drewN n⟩)
  have hpa := parse_q ba (qa s.data.toList) (by rw [hba]) (by omega)
  have hpb := parse_q bb (qb s.data.toList) (by rw [hbb]) (by omega)
  rw [show errZ (qa s.data.toList) = 10 by unfold errZ; rw [ha]; rfl] at hpa
  generalize qi s.data.toList = q at *
  generalize zNum (qa s.data.toList) = x at *
  generalize zNum (qb s.data.toList) = y at *
  have HCUT := Lib.hid hcut
  have HPA := Lib.hid hpa
  have HPB := Lib.hid hpb
  have HON := Lib.hid one_n
  have HD : Hid (decide ((1 : Int) < 0) = false) := Lib.hid rfl
  have B0 := Lib.hid (show PB w (w.alloc (.cells #[.slice none 0 0, .bool false, .slice none 0 0, .bool false] NRat)) w.heap.size from ⟨(New.refl w).alloc _, Box.last _ _ _, Nat.le_refl _⟩)
  clear hcut hpa hpb hba hbb hln hm
  go_enter Tryz.func102, Tryz.ntmps102
  go_wp2_with fail
  refine (HCUT.out _ B0.out.nw).mono ?_
  rintro e w1 ⟨rfl, hn⟩
  have B1 := Lib.hid (B0.out.new hn)
  clear hn B0 HCUT
  go_wp2_with fail
  refine (HPA.out _).mono ?_
  rintro e w2 ⟨v1, rfl, hv, hn⟩
  obtain ⟨A1, l1, c1, rfl, -⟩ := hv.form
  generalize decide (x < 0) = b1 at *
  have hnn := hn.alloc (.cells #[.slice A1 l1 c1, .bool b1] NNum)
  have B2 := Lib.hid (B1.out.new hnn)
  have T1 := Lib.hid (NY.last1 hv)
  clear hn hnn hv B1 HPA
  go_wp2_with fail
  refine (HON.out _).mono ?_
  rintro e w3 ⟨v2, rfl, hv, hn⟩
  obtain ⟨A2, l2, c2, rfl, -⟩ := hv.form
  rw [HD.out] at *
  have HLT := Lib.hid (B2.out.new hn).br.lt
  have HLT1 := Lib.hid (T1.out.bx.new hn).lt
  have hnn := hn.alloc (.cells #[.slice A2 l2 c2, .bool false] NNum)
  have B3 := Lib.hid (B2.out.new hnn)
  have T2 := Lib.hid (NY.last1 hv)
  replace T1 := Lib.hid (T1.out.new hnn)
  clear hn hnn hv B2 HON
  clear T1 T2
  cases q
  all_goals
    have hFR := B3.out.br
    have c20 := hFR.cells4.1
    have c21 := hFR.cells4.2.1
    have c22 := hFR.cells4.2.2.1
    have c23 := hFR.cells4.2.2.2
    have f20 := hFR.frozen 0
    have f21 := hFR.frozen 1
    have f22 := hFR.frozen 2
    have f23 := hFR.frozen 3
    have GN := Lib.hid (B3.out.done (.slice none 0 0) (.bool false) (.slice none 0 0) (.bool false))
    obtain ⟨y0, y1, y2, y3⟩ := (hFR.lay4 (.slice none 0 0) (.bool false) (.slice none 0 0) (.bool false)).cells4
    clear hFR B3
    go_wp2
    refine bodyPost_ret (v := .tuple #[.agg #[.slice none 0 0, .bool false, .slice none 0 0, .bool false], .int .i64 10]) (by simp [results, Tryz.results102, go_sem, y0, y1, y2, y3]) rfl ⟨_, rfl, RatB.zero _ _, GN.out⟩
set_option maxRecDepth 1000000 in
set_option maxHeartbeats 8000000 in
theorem qp_C (s : ByteArray) (hs : s.size ≤ 256) (hm : w.cell? ⟨3, 0, none⟩ = some (.int .i64 m)) (ha : isZ (qa s.data.toList) = true) (hq : qi s.data.toList = true) (hb : isZ (qb s.data.toList) = false) :
    Calls Tryz.prog 102 #[.string s] w fun e w' => ∃ v, e = .returned (.tuple #[v, .int .i64 (10)]) ∧ RatB w' v (0) (0) 256 ∧ New w w' := by
  obtain ⟨ba, hba⟩ : ∃ x : ByteArray, x = ⟨(qa s.data.toList).toArray⟩ := ⟨_, rfl⟩
  obtain ⟨bb, hbb⟩ : ∃ x : ByteArray, x = ⟨(qb s.data.toList).toArray⟩ := ⟨_, rfl⟩
  have hln := q_lens s.data.toList
  rw [← Lib.size_eq] at hln
  have hcut := fun W (hn : New w W) => (Tryz.strings_Cut s ⟨#[47]⟩ m W (by omega) (hn.still hm)).mono (R' := fun e w' => e = .returned (.tuple #[.string ba, .string bb, .bool (qi s.data.toList)]) ∧ New W w') (by
    rintro e w' ⟨rfl, n, rfl⟩
    exact ⟨by rw [hba, hbb]; rfl, (New.refl W).drewN n⟩)
  have hpa := parse_q ba (qa s.data.toList) (by rw [hba]) (by omega)
  have hpb := parse_q bb (qb s.data.toList) (by rw [hbb]) (by omega)
  rw [show errZ (qa s.data.toList) = 0 by unfold errZ; rw [ha]; rfl] at hpa
  rw [hq] at hcut
  rw [show errZ (qb s.data.toList) = 10 by unfold errZ; rw [hb]; rfl] at hpb
  generalize zNum (qa s.data.toList) = x at *
  generalize zNum (qb s.data.toList) = y at *
  have HCUT := Lib.hid hcut
  have HPA := Lib.hid hpa
  have HPB := Lib.hid hpb
  have HON := Lib.hid one_n
  have HD : Hid (decide ((1 : Int) < 0) = false) := Lib.hid rfl
  have B0 := Lib.hid (show PB w (w.alloc (.cells #[.slice none 0 0, .bool false, .slice none 0 0, .bool false] NRat)) w.heap.size from ⟨(New.refl w).alloc _, Box.last _ _ _, Nat.le_refl _⟩)
  clear hcut hpa hpb hba hbb hln hm
  go_enter Tryz.func102, Tryz.ntmps102
  go_wp2_with fail
  refine (HCUT.out _ B0.out.nw).mono ?_
  rintro e w1 ⟨rfl, hn⟩
  have B1 := Lib.hid (B0.out.new hn)
  clear hn B0 HCUT
  go_wp2_with fail
  refine (HPA.out _).mono ?_
  rintro e w2 ⟨v1, rfl, hv, hn⟩
  obtain ⟨A1, l1, c1, rfl, -⟩ := hv.form
  generalize decide (x < 0) = b1 at *
  have hnn := hn.alloc (.cells #[.slice A1 l1 c1, .bool b1] NNum)
  have B2 := Lib.hid (B1.out.new hnn)
  have T1 := Lib.hid (NY.last1 hv)
  clear hn hnn hv B1 HPA
  go_wp2_with fail
  refine (HON.out _).mono ?_
  rintro e w3 ⟨v2, rfl, hv, hn⟩
  obtain ⟨A2, l2, c2, rfl, -⟩ := hv.form
  rw [HD.out] at *
  have HLT := Lib.hid (B2.out.new hn).br.lt
  have HLT1 := Lib.hid (T1.out.bx.new hn).lt
  have hnn := hn.alloc (.cells #[.slice A2 l2 c2, .bool false] NNum)
  have B3 := Lib.hid (B2.out.new hnn)
  have T2 := Lib.hid (NY.last1 hv)
  replace T1 := Lib.hid (T1.out.new hnn)
  clear hn hnn hv B2 HON
  go_wp2_with fail
  refine (HPB.out _).mono ?_
  rintro e w4 ⟨v3, rfl, hv, hn⟩
  obtain ⟨A3, l3, c3, rfl, -⟩ := hv.form
  generalize decide (y < 0) = b3 at *
  have hbx := T2.out.bx.new hn
  have hlt := HLT.out
  have hlt1 := HLT1.out
  have HB4 := Lib.hid (B3.out.new hn)
  have B5 := Lib.hid (HB4.out.turn hbx (by omega) (.slice A3 l3 c3) (.bool b3))
  have t1 := T1.out.new hn
  obtain ⟨hx1, hy1⟩ := t1.cells
  have T1n := Lib.hid (t1.turn hbx (by omega) (.slice A3 l3 c3) (.bool b3))
  have T2n := Lib.hid (NY.turned hbx hv)
  obtain ⟨k20, k21, k22, k23⟩ := hbx.two
  have hne : ¬ w3.heap.size = w2.heap.size := by omega
  have hne2 : ¬ w3.heap.size = w.heap.size := by omega
  clear hn hv T1 T2 hbx B3 HPB hlt hlt1 HLT HLT1 t1
  clear hx1 hy1 T1n T2n
  have hFR := B5.out.br
  have hFR4 := HB4.out.br
  have c20 := hFR4.cells4.1
  have c21 := hFR4.cells4.2.1
  have c22 := hFR4.cells4.2.2.1
  have c23 := hFR4.cells4.2.2.2
  have f20 := hFR4.frozen 0
  have f21 := hFR4.frozen 1
  have f22 := hFR4.frozen 2
  have f23 := hFR4.frozen 3
  have GN := Lib.hid (B5.out.done (.slice none 0 0) (.bool false) (.slice none 0 0) (.bool false))
  obtain ⟨y0, y1, y2, y3⟩ := (hFR.lay4 (.slice none 0 0) (.bool false) (.slice none 0 0) (.bool false)).cells4
  clear hFR hFR4 B5 HB4
  go_wp2
  refine bodyPost_ret (v := .tuple #[.agg #[.slice none 0 0, .bool false, .slice none 0 0, .bool false], .int .i64 10]) (by simp [results, Tryz.results102, go_sem, y0, y1, y2, y3]) rfl ⟨_, rfl, RatB.zero _ _, GN.out⟩
set_option maxRecDepth 1000000 in
set_option maxHeartbeats 8000000 in
theorem qp_D0 (s : ByteArray) (hs : s.size ≤ 256) (hm : w.cell? ⟨3, 0, none⟩ = some (.int .i64 m)) (ha : isZ (qa s.data.toList) = true) (hq : qi s.data.toList = true) (hb : isZ (qb s.data.toList) = true) (h0 : zNum (qb s.data.toList) = 0) :
    Calls Tryz.prog 102 #[.string s] w fun e w' => ∃ v, e = .returned (.tuple #[v, .int .i64 (10)]) ∧ RatB w' v (0) (0) 256 ∧ New w w' := by
  obtain ⟨ba, hba⟩ : ∃ x : ByteArray, x = ⟨(qa s.data.toList).toArray⟩ := ⟨_, rfl⟩
  obtain ⟨bb, hbb⟩ : ∃ x : ByteArray, x = ⟨(qb s.data.toList).toArray⟩ := ⟨_, rfl⟩
  have hln := q_lens s.data.toList
  rw [← Lib.size_eq] at hln
  have hcut := fun W (hn : New w W) => (Tryz.strings_Cut s ⟨#[47]⟩ m W (by omega) (hn.still hm)).mono (R' := fun e w' => e = .returned (.tuple #[.string ba, .string bb, .bool (qi s.data.toList)]) ∧ New W w') (by
    rintro e w' ⟨rfl, n, rfl⟩
    exact ⟨by rw [hba, hbb]; rfl, (New.refl W).drewN n⟩)
  have hpa := parse_q ba (qa s.data.toList) (by rw [hba]) (by omega)
  have hpb := parse_q bb (qb s.data.toList) (by rw [hbb]) (by omega)
  rw [show errZ (qa s.data.toList) = 0 by unfold errZ; rw [ha]; rfl] at hpa
  rw [hq] at hcut
  rw [show errZ (qb s.data.toList) = 0 by unfold errZ; rw [hb]; rfl] at hpb
  have hdiv : divI (zNum (qb s.data.toList)) = 12 := by unfold divI; rw [if_pos h0]
  clear h0
  generalize zNum (qa s.data.toList) = x at *
  generalize zNum (qb s.data.toList) = y at *
  have HCUT := Lib.hid hcut
  have HPA := Lib.hid hpa
  have HPB := Lib.hid hpb
  have HON := Lib.hid one_n
  have HD : Hid (decide ((1 : Int) < 0) = false) := Lib.hid rfl
  have B0 := Lib.hid (show PB w (w.alloc (.cells #[.slice none 0 0, .bool false, .slice none 0 0, .bool false] NRat)) w.heap.size from ⟨(New.refl w).alloc _, Box.last _ _ _, Nat.le_refl _⟩)
  clear hcut hpa hpb hba hbb hln hm
  have HMK := Lib.hid (fun W u v (h : NumB W u x 256) (h2 : NumB W v y 256) => qmake_n h h2 (by omega))
  rw [hdiv] at HMK
  clear hdiv
  go_enter Tryz.func102, Tryz.ntmps102
  go_wp2_with fail
  refine (HCUT.out _ B0.out.nw).mono ?_
  rintro e w1 ⟨rfl, hn⟩
  have B1 := Lib.hid (B0.out.new hn)
  clear hn B0 HCUT
  go_wp2_with fail
  refine (HPA.out _).mono ?_
  rintro e w2 ⟨v1, rfl, hv, hn⟩
  obtain ⟨A1, l1, c1, rfl, -⟩ := hv.form
  generalize decide (x < 0) = b1 at *
  have hnn := hn.alloc (.cells #[.slice A1 l1 c1, .bool b1] NNum)
  have B2 := Lib.hid (B1.out.new hnn)
  have T1 := Lib.hid (NY.last1 hv)
  clear hn hnn hv B1 HPA
  go_wp2_with fail
  refine (HON.out _).mono ?_
  rintro e w3 ⟨v2, rfl, hv, hn⟩
  obtain ⟨A2, l2, c2, rfl, -⟩ := hv.form
  rw [HD.out] at *
  have HLT := Lib.hid (B2.out.new hn).br.lt
  have HLT1 := Lib.hid (T1.out.bx.new hn).lt
  have hnn := hn.alloc (.cells #[.slice A2 l2 c2, .bool false] NNum)
  have B3 := Lib.hid (B2.out.new hnn)
  have T2 := Lib.hid (NY.last1 hv)
  replace T1 := Lib.hid (T1.out.new hnn)
  clear hn hnn hv B2 HON
  go_wp2_with fail
  refine (HPB.out _).mono ?_
  rintro e w4 ⟨v3, rfl, hv, hn⟩
  obtain ⟨A3, l3, c3, rfl, -⟩ := hv.form
  generalize decide (y < 0) = b3 at *
  have hbx := T2.out.bx.new hn
  have hlt := HLT.out
  have hlt1 := HLT1.out
  have HB4 := Lib.hid (B3.out.new hn)
  have B5 := Lib.hid (HB4.out.turn hbx (by omega) (.slice A3 l3 c3) (.bool b3))
  have t1 := T1.out.new hn
  obtain ⟨hx1, hy1⟩ := t1.cells
  have T1n := Lib.hid (t1.turn hbx (by omega) (.slice A3 l3 c3) (.bool b3))
  have T2n := Lib.hid (NY.turned hbx hv)
  obtain ⟨k20, k21, k22, k23⟩ := hbx.two
  have hne : ¬ w3.heap.size = w2.heap.size := by omega
  have hne2 : ¬ w3.heap.size = w.heap.size := by omega
  clear hn hv T1 T2 hbx B3 HPB hlt hlt1 HLT HLT1 t1
  obtain ⟨hx2, hy2⟩ := T2n.out.cells
  go_wp2_with fail
  refine (HMK.out _ _ _ T1n.out.nx T2n.out.nx).mono ?_
  rintro e w5 ⟨r, rfl, hv, hn⟩
  obtain ⟨R, rl, rc, R', rl', rc', rfl⟩ := RatB.form hv
  generalize decide (mkN x y < 0) = rb at *
  generalize decide (mkD x y < 0) = rb' at *
  have hnn := hn.alloc (.cells #[.slice R rl rc, .bool rb, .slice R' rl' rc', .bool rb'] NRat)
  have B6 := Lib.hid (B5.out.new hnn)
  have hbr := Box.last w5 #[.slice R rl rc, .bool rb, .slice R' rl' rc', .bool rb'] NRat
  have T6 := Lib.hid (hv.new ((New.refl w5).alloc (.cells #[.slice R rl rc, .bool rb, .slice R' rl' rc', .bool rb'] NRat)))
  clear hn hnn hv B5 T1n T2n hx1 hy1 hx2 hy2 hbr T6 HB4
  have hFR := B6.out.br
  have c20 := hFR.cells4.1
  have c21 := hFR.cells4.2.1
  have c22 := hFR.cells4.2.2.1
  have c23 := hFR.cells4.2.2.2
  have f20 := hFR.frozen 0
  have f21 := hFR.frozen 1
  have f22 := hFR.frozen 2
  have f23 := hFR.frozen 3
  have GN := Lib.hid (B6.out.done (.slice none 0 0) (.bool false) (.slice none 0 0) (.bool false))
  obtain ⟨y0, y1, y2, y3⟩ := (hFR.lay4 (.slice none 0 0) (.bool false) (.slice none 0 0) (.bool false)).cells4
  clear hFR B6
  go_wp2
  refine bodyPost_ret (v := .tuple #[.agg #[.slice none 0 0, .bool false, .slice none 0 0, .bool false], .int .i64 10]) (by simp [results, Tryz.results102, go_sem, y0, y1, y2, y3]) rfl ⟨_, rfl, RatB.zero _ _, GN.out⟩
set_option maxRecDepth 1000000 in
set_option maxHeartbeats 8000000 in
theorem qp_B (s : ByteArray) (hs : s.size ≤ 256) (hm : w.cell? ⟨3, 0, none⟩ = some (.int .i64 m)) (ha : isZ (qa s.data.toList) = true) (hq : qi s.data.toList = false) (htx : ratS (mkN (zNum (qa s.data.toList)) 1) (mkD (zNum (qa s.data.toList)) 1) = s) (L : Lib.TabIs Tryz.prog w "internal/strconv.uint64pow10" .u64 Lib.pow10Tab) :
    Calls Tryz.prog 102 #[.string s] w fun e w' => ∃ v, e = .returned (.tuple #[v, .int .i64 (0)]) ∧ RatB w' v (mkN (zNum (qa s.data.toList)) 1) (mkD (zNum (qa s.data.toList)) 1) 256 ∧ New w w' := by
  have HTAB := Lib.hid L
  clear L
  obtain ⟨ba, hba⟩ : ∃ x : ByteArray, x = ⟨(qa s.data.toList).toArray⟩ := ⟨_, rfl⟩
  obtain ⟨bb, hbb⟩ : ∃ x : ByteArray, x = ⟨(qb s.data.toList).toArray⟩ := ⟨_, rfl⟩
  have hln := q_lens s.data.toList
  rw [← Lib.size_eq] at hln
  have hcut := fun W (hn : New w W) => (Tryz.strings_Cut s ⟨#[47]⟩ m W (by omega) (hn.still hm)).mono (R' := fun e w' => e = .returned (.tuple #[.string ba, .string bb, .bool (qi s.data.toList)]) ∧ New W w') (by
    rintro e w' ⟨rfl, n, rfl⟩
    exact ⟨by rw [hba, hbb]; rfl, (New.refl W).drewN n⟩)
  have hpa := parse_q ba (qa s.data.toList) (by rw [hba]) (by omega)
  have hpb := parse_q bb (qb s.data.toList) (by rw [hbb]) (by omega)
  rw [show errZ (qa s.data.toList) = 0 by unfold errZ; rw [ha]; rfl] at hpa
  rw [hq] at hcut
  have hdiv : divI 1 = 0 := by unfold divI; rw [if_neg (by decide)]
  have htb : (s.toList != s.toList) = false := by simp
  generalize zNum (qa s.data.toList) = x at *
  obtain ⟨y, hy⟩ : ∃ y : Int, y = 1 := ⟨_, rfl⟩
  rw [← hy] at hdiv htx ⊢
  have HTX := Lib.hid htx
  clear htx
  have HCUT := Lib.hid hcut
  have HPA := Lib.hid hpa
  have HPB := Lib.hid hpb
  have HON := Lib.hid one_n
  have HD : Hid (decide ((1 : Int) < 0) = false) := Lib.hid rfl
  have B0 := Lib.hid (show PB w (w.alloc (.cells #[.slice none 0 0, .bool false, .slice none 0 0, .bool false] NRat)) w.heap.size from ⟨(New.refl w).alloc _, Box.last _ _ _, Nat.le_refl _⟩)
  clear hcut hpa hpb hba hbb hln hm
  have HMK := Lib.hid (fun W u v (h : NumB W u x 256) (h2 : NumB W v y 256) => qmake_n h h2 (by omega))
  rw [hdiv] at HMK
  clear hdiv
  go_enter Tryz.func102, Tryz.ntmps102
  go_wp2_with fail
  refine (HCUT.out _ B0.out.nw).mono ?_
  rintro e w1 ⟨rfl, hn⟩
  have B1 := Lib.hid (B0.out.new hn)
  clear hn B0 HCUT
  go_wp2_with fail
  refine (HPA.out _).mono ?_
  rintro e w2 ⟨v1, rfl, hv, hn⟩
  obtain ⟨A1, l1, c1, rfl, -⟩ := hv.form
  generalize decide (x < 0) = b1 at *
  have hnn := hn.alloc (.cells #[.slice A1 l1 c1, .bool b1] NNum)
  have B2 := Lib.hid (B1.out.new hnn)
  have T1 := Lib.hid (NY.last1 hv)
  clear hn hnn hv B1 HPA
  go_wp2_with fail
  refine (HON.out _).mono ?_
  rintro e w3 ⟨v2, rfl, hv, hn⟩
  obtain ⟨A2, l2, c2, rfl, -⟩ := hv.form
  rw [HD.out] at *
  have HLT := Lib.hid (B2.out.new hn).br.lt
  have HLT1 := Lib.hid (T1.out.bx.new hn).lt
  have hnn := hn.alloc (.cells #[.slice A2 l2 c2, .bool false] NNum)
  have B3 := Lib.hid (B2.out.new hnn)
  have T2 := Lib.hid (NY.last1 (show NumB w3 _ y 256 from hy ▸ NumB.more hv (by omega)))
  replace T1 := Lib.hid (T1.out.new hnn)
  clear hn hnn hv B2 HON
  clear HPB HLT HLT1 hy
  obtain ⟨hx1, hy1⟩ := T1.out.cells
  obtain ⟨hx2, hy2⟩ := T2.out.cells
  go_wp2_with fail
  refine (HMK.out _ _ _ T1.out.nx T2.out.nx).mono ?_
  rintro e w5 ⟨r, rfl, hv, hn⟩
  obtain ⟨R, rl, rc, R', rl', rc', rfl⟩ := RatB.form hv
  generalize decide (mkN x y < 0) = rb at *
  generalize decide (mkD x y < 0) = rb' at *
  have hnn := hn.alloc (.cells #[.slice R rl rc, .bool rb, .slice R' rl' rc', .bool rb'] NRat)
  have B6 := Lib.hid (B3.out.new hnn)
  have hbr := Box.last w5 #[.slice R rl rc, .bool rb, .slice R' rl' rc', .bool rb'] NRat
  have T6 := Lib.hid (hv.new ((New.refl w5).alloc (.cells #[.slice R rl rc, .bool rb, .slice R' rl' rc', .bool rb'] NRat)))
  obtain ⟨z0, z1, z2, z3⟩ := hbr.cells4
  have HBR := Lib.hid hbr
  clear hn hnn hv B3 T1 T2 hx1 hy1 hx2 hy2 hbr
  go_wp2_with fail
  refine (qtext_w _ T6.out (by omega) (by omega) (tabIs_new B6.out.nw HTAB.out) HTX.out).mono ?_
  rintro e w6 ⟨rfl, hn⟩
  have B7 := Lib.hid (B6.out.new hn)
  have T7 := Lib.hid (T6.out.new hn)
  clear z0 z1 z2 z3
  obtain ⟨z0, z1, z2, z3⟩ := (HBR.out.new hn).cells4
  clear hn B6 T6 HBR
  have hFR := B7.out.br
  have c20 := hFR.cells4.1
  have c21 := hFR.cells4.2.1
  have c22 := hFR.cells4.2.2.1
  have c23 := hFR.cells4.2.2.2
  have f20 := hFR.frozen 0
  have f21 := hFR.frozen 1
  have f22 := hFR.frozen 2
  have f23 := hFR.frozen 3
  have GN := Lib.hid (B7.out.done (.slice R rl rc) (.bool rb) (.slice R' rl' rc') (.bool rb'))
  have GR := Lib.hid (T7.out.lay4 hFR (.slice R rl rc) (.bool rb) (.slice R' rl' rc') (.bool rb'))
  obtain ⟨y0, y1, y2, y3⟩ := (hFR.lay4 (.slice R rl rc) (.bool rb) (.slice R' rl' rc') (.bool rb')).cells4
  clear hFR B7 T7
  go_wp2
  refine bodyPost_ret (v := .tuple #[.agg #[.slice R rl rc, .bool rb, .slice R' rl' rc', .bool rb'], .int .i64 0]) (by simp [results, Tryz.results102, go_sem, y0, y1, y2, y3]) rfl ⟨_, rfl, GR.out, GN.out⟩
set_option maxRecDepth 1000000 in
set_option maxHeartbeats 8000000 in
theorem qp_D (s : ByteArray) (hs : s.size ≤ 256) (hm : w.cell? ⟨3, 0, none⟩ = some (.int .i64 m)) (ha : isZ (qa s.data.toList) = true) (hq : qi s.data.toList = true) (hb : isZ (qb s.data.toList) = true) (h0 : zNum (qb s.data.toList) ≠ 0) (htx : ratS (mkN (zNum (qa s.data.toList)) (zNum (qb s.data.toList))) (mkD (zNum (qa s.data.toList)) (zNum (qb s.data.toList))) = s) (L : Lib.TabIs Tryz.prog w "internal/strconv.uint64pow10" .u64 Lib.pow10Tab) :
    Calls Tryz.prog 102 #[.string s] w fun e w' => ∃ v, e = .returned (.tuple #[v, .int .i64 (0)]) ∧ RatB w' v (mkN (zNum (qa s.data.toList)) (zNum (qb s.data.toList))) (mkD (zNum (qa s.data.toList)) (zNum (qb s.data.toList))) 256 ∧ New w w' := by
  have HTAB := Lib.hid L
  clear L
  obtain ⟨ba, hba⟩ : ∃ x : ByteArray, x = ⟨(qa s.data.toList).toArray⟩ := ⟨_, rfl⟩
  obtain ⟨bb, hbb⟩ : ∃ x : ByteArray, x = ⟨(qb s.data.toList).toArray⟩ := ⟨_, rfl⟩
  have hln := q_lens s.data.toList
  rw [← Lib.size_eq] at hln
  have hcut := fun W (hn : New w W) => (Tryz.strings_Cut s ⟨#[47]⟩ m W (by omega) (hn.still hm)).mono (R' := fun e w' => e = .returned (.tuple #[.string ba, .string bb, .bool (qi s.data.toList)]) ∧ New W w') (by
    rintro e w' ⟨rfl, n, rfl⟩
    exact ⟨by rw [hba, hbb]; rfl, (New.refl W).drewN n⟩)
  have hpa := parse_q ba (qa s.data.toList) (by rw [hba]) (by omega)
  have hpb := parse_q bb (qb s.data.toList) (by rw [hbb]) (by omega)
  rw [show errZ (qa s.data.toList) = 0 by unfold errZ; rw [ha]; rfl] at hpa
  rw [hq] at hcut
  rw [show errZ (qb s.data.toList) = 0 by unfold errZ; rw [hb]; rfl] at hpb
  have hdiv : divI (zNum (qb s.data.toList)) = 0 := by unfold divI; rw [if_neg h0]
  have htb : (s.toList != s.toList) = false := by simp
  generalize zNum (qa s.data.toList) = x at *
  generalize zNum (qb s.data.toList) = y at *
  have HTX := Lib.hid htx
  clear htx
  have HCUT := Lib.hid hcut
  have HPA := Lib.hid hpa
  have HPB := Lib.hid hpb
  have HON := Lib.hid one_n
  have HD : Hid (decide ((1 : Int) < 0) = false) := Lib.hid rfl
  have B0 := Lib.hid (show PB w (w.alloc (.cells #[.slice none 0 0, .bool false, .slice none 0 0, .bool false] NRat)) w.heap.size from ⟨(New.refl w).alloc _, Box.last _ _ _, Nat.le_refl _⟩)
  clear hcut hpa hpb hba hbb hln hm
  have HMK := Lib.hid (fun W u v (h : NumB W u x 256) (h2 : NumB W v y 256) => qmake_n h h2 (by omega))
  rw [hdiv] at HMK
  clear hdiv
  go_enter Tryz.func102, Tryz.ntmps102
  go_wp2_with fail
  refine (HCUT.out _ B0.out.nw).mono ?_
  rintro e w1 ⟨rfl, hn⟩
  have B1 := Lib.hid (B0.out.new hn)
  clear hn B0 HCUT
  go_wp2_with fail
  refine (HPA.out _).mono ?_
  rintro e w2 ⟨v1, rfl, hv, hn⟩
  obtain ⟨A1, l1, c1, rfl, -⟩ := hv.form
  generalize decide (x < 0) = b1 at *
  have hnn := hn.alloc (.cells #[.slice A1 l1 c1, .bool b1] NNum)
  have B2 := Lib.hid (B1.out.new hnn)
  have T1 := Lib.hid (NY.last1 hv)
  clear hn hnn hv B1 HPA
  go_wp2_with fail
  refine (HON.out _).mono ?_
  rintro e w3 ⟨v2, rfl, hv, hn⟩
  obtain ⟨A2, l2, c2, rfl, -⟩ := hv.form
  rw [HD.out] at *
  have HLT := Lib.hid (B2.out.new hn).br.lt
  have HLT1 := Lib.hid (T1.out.bx.new hn).lt
  have hnn := hn.alloc (.cells #[.slice A2 l2 c2, .bool false] NNum)
  have B3 := Lib.hid (B2.out.new hnn)
  have T2 := Lib.hid (NY.last1 hv)
  replace T1 := Lib.hid (T1.out.new hnn)
  clear hn hnn hv B2 HON
  go_wp2_with fail
  refine (HPB.out _).mono ?_
  rintro e w4 ⟨v3, rfl, hv, hn⟩
  obtain ⟨A3, l3, c3, rfl, -⟩ := hv.form
  generalize decide (y < 0) = b3 at *
  have hbx := T2.out.bx.new hn
  have hlt := HLT.out
  have hlt1 := HLT1.out
  have HB4 := Lib.hid (B3.out.new hn)
  have B5 := Lib.hid (HB4.out.turn hbx (by omega) (.slice A3 l3 c3) (.bool b3))
  have t1 := T1.out.new hn
  obtain ⟨hx1, hy1⟩ := t1.cells
  have T1n := Lib.hid (t1.turn hbx (by omega) (.slice A3 l3 c3) (.bool b3))
  have T2n := Lib.hid (NY.turned hbx hv)
  obtain ⟨k20, k21, k22, k23⟩ := hbx.two
  have hne : ¬ w3.heap.size = w2.heap.size := by omega
  have hne2 : ¬ w3.heap.size = w.heap.size := by omega
  clear hn hv T1 T2 hbx B3 HPB hlt hlt1 HLT HLT1 t1
  obtain ⟨hx2, hy2⟩ := T2n.out.cells
  go_wp2_with fail
  refine (HMK.out _ _ _ T1n.out.nx T2n.out.nx).mono ?_
  rintro e w5 ⟨r, rfl, hv, hn⟩
  obtain ⟨R, rl, rc, R', rl', rc', rfl⟩ := RatB.form hv
  generalize decide (mkN x y < 0) = rb at *
  generalize decide (mkD x y < 0) = rb' at *
  have hnn := hn.alloc (.cells #[.slice R rl rc, .bool rb, .slice R' rl' rc', .bool rb'] NRat)
  have B6 := Lib.hid (B5.out.new hnn)
  have hbr := Box.last w5 #[.slice R rl rc, .bool rb, .slice R' rl' rc', .bool rb'] NRat
  have T6 := Lib.hid (hv.new ((New.refl w5).alloc (.cells #[.slice R rl rc, .bool rb, .slice R' rl' rc', .bool rb'] NRat)))
  obtain ⟨z0, z1, z2, z3⟩ := hbr.cells4
  have HBR := Lib.hid hbr
  clear hn hnn hv B5 T1n T2n hx1 hy1 hx2 hy2 HB4 hne hne2 k20 k21 k22 k23 hbr
  go_wp2_with fail
  refine (qtext_w _ T6.out (by omega) (by omega) (tabIs_new B6.out.nw HTAB.out) HTX.out).mono ?_
  rintro e w6 ⟨rfl, hn⟩
  have B7 := Lib.hid (B6.out.new hn)
  have T7 := Lib.hid (T6.out.new hn)
  clear z0 z1 z2 z3
  obtain ⟨z0, z1, z2, z3⟩ := (HBR.out.new hn).cells4
  clear hn B6 T6 HBR
  have hFR := B7.out.br
  have c20 := hFR.cells4.1
  have c21 := hFR.cells4.2.1
  have c22 := hFR.cells4.2.2.1
  have c23 := hFR.cells4.2.2.2
  have f20 := hFR.frozen 0
  have f21 := hFR.frozen 1
  have f22 := hFR.frozen 2
  have f23 := hFR.frozen 3
  have GN := Lib.hid (B7.out.done (.slice R rl rc) (.bool rb) (.slice R' rl' rc') (.bool rb'))
  have GR := Lib.hid (T7.out.lay4 hFR (.slice R rl rc) (.bool rb) (.slice R' rl' rc') (.bool rb'))
  obtain ⟨y0, y1, y2, y3⟩ := (hFR.lay4 (.slice R rl rc) (.bool rb) (.slice R' rl' rc') (.bool rb')).cells4
  clear hFR B7 T7
  go_wp2
  refine bodyPost_ret (v := .tuple #[.agg #[.slice R rl rc, .bool rb, .slice R' rl' rc', .bool rb'], .int .i64 0]) (by simp [results, Tryz.results102, go_sem, y0, y1, y2, y3]) rfl ⟨_, rfl, GR.out, GN.out⟩
set_option maxRecDepth 1000000 in
set_option maxHeartbeats 8000000 in
theorem qp_E (s : ByteArray) (hs : s.size ≤ 256) (hm : w.cell? ⟨3, 0, none⟩ = some (.int .i64 m)) (ha : isZ (qa s.data.toList) = true) (hq : qi s.data.toList = true) (hb : isZ (qb s.data.toList) = true) (h0 : zNum (qb s.data.toList) ≠ 0) (htx : ratS (mkN (zNum (qa s.data.toList)) (zNum (qb s.data.toList))) (mkD (zNum (qa s.data.toList)) (zNum (qb s.data.toList))) ≠ s) (L : Lib.TabIs Tryz.prog w "internal/strconv.uint64pow10" .u64 Lib.pow10Tab) :
    Calls Tryz.prog 102 #[.string s] w fun e w' => ∃ v, e = .returned (.tuple #[v, .int .i64 (10)]) ∧ RatB w' v (0) (0) 256 ∧ New w w' := by
  have HTAB := Lib.hid L
  clear L
  obtain ⟨ba, hba⟩ : ∃ x : ByteArray, x = ⟨(qa s.data.toList).toArray⟩ := ⟨_, rfl⟩
  obtain ⟨bb, hbb⟩ : ∃ x : ByteArray, x = ⟨(qb s.data.toList).toArray⟩ := ⟨_, rfl⟩
  have hln := q_lens s.data.toList
  rw [← Lib.size_eq] at hln
  have hcut := fun W (hn : New w W) => (Tryz.strings_Cut s ⟨#[47]⟩ m W (by omega) (hn.still hm)).mono (R' := fun e w' => e = .returned (.tuple #[.string ba, .string bb, .bool (qi s.data.toList)]) ∧ New W w') (by
    rintro e w' ⟨rfl, n, rfl⟩
    exact ⟨by rw [hba, hbb]; rfl, (New.refl W).drewN n⟩)
  have hpa := parse_q ba (qa s.data.toList) (by rw [hba]) (by omega)
  have hpb := parse_q bb (qb s.data.toList) (by rw [hbb]) (by omega)
  rw [show errZ (qa s.data.toList) = 0 by unfold errZ; rw [ha]; rfl] at hpa
  rw [hq] at hcut
  rw [show errZ (qb s.data.toList) = 0 by unfold errZ; rw [hb]; rfl] at hpb
  have hdiv : divI (zNum (qb s.data.toList)) = 0 := by unfold divI; rw [if_neg h0]
  obtain ⟨tx, htx0⟩ : ∃ tx, tx = ratS (mkN (zNum (qa s.data.toList)) (zNum (qb s.data.toList))) (mkD (zNum (qa s.data.toList)) (zNum (qb s.data.toList))) := ⟨_, rfl⟩
  rw [← htx0] at htx
  have htb : (tx.toList != s.toList) = true := by
    rw [bne_iff_ne]
    intro e
    rw [Lib.toList_data, Lib.toList_data] at e
    exact htx (data_injY e)
  have htb2 : ¬ tx.toList = s.toList := by simpa using htb
  have htb3 : (tx.toList == s.toList) = false := by rw [beq_eq_false_iff_ne]; exact htb2
  have htx := htx0.symm
  generalize zNum (qa s.data.toList) = x at *
  generalize zNum (qb s.data.toList) = y at *
  have HTX := Lib.hid htx
  clear htx htx0
  have HCUT := Lib.hid hcut
  have HPA := Lib.hid hpa
  have HPB := Lib.hid hpb
  have HON := Lib.hid one_n
  have HD : Hid (decide ((1 : Int) < 0) = false) := Lib.hid rfl
  have B0 := Lib.hid (show PB w (w.alloc (.cells #[.slice none 0 0, .bool false, .slice none 0 0, .bool false] NRat)) w.heap.size from ⟨(New.refl w).alloc _, Box.last _ _ _, Nat.le_refl _⟩)
  clear hcut hpa hpb hba hbb hln hm
  have HMK := Lib.hid (fun W u v (h : NumB W u x 256) (h2 : NumB W v y 256) => qmake_n h h2 (by omega))
  rw [hdiv] at HMK
  clear hdiv
  go_enter Tryz.func102, Tryz.ntmps102
  go_wp2_with fail
  refine (HCUT.out _ B0.out.nw).mono ?_
  rintro e w1 ⟨rfl, hn⟩
  have B1 := Lib.hid (B0.out.new hn)
  clear hn B0 HCUT
  go_wp2_with fail
  refine (HPA.out _).mono ?_
  rintro e w2 ⟨v1, rfl, hv, hn⟩
  obtain ⟨A1, l1, c1, rfl, -⟩ := hv.form
  generalize decide (x < 0) = b1 at *
  have hnn := hn.alloc (.cells #[.slice A1 l1 c1, .bool b1] NNum)
  have B2 := Lib.hid (B1.out.new hnn)
  have T1 := Lib.hid (NY.last1 hv)
  clear hn hnn hv B1 HPA
  go_wp2_with fail
  refine (HON.out _).mono ?_
  rintro e w3 ⟨v2, rfl, hv, hn⟩
  obtain ⟨A2, l2, c2, rfl, -⟩ := hv.form
  rw [HD.out] at *
  have HLT := Lib.hid (B2.out.new hn).br.lt
  have HLT1 := Lib.hid (T1.out.bx.new hn).lt
  have hnn := hn.alloc (.cells #[.slice A2 l2 c2, .bool false] NNum)
  have B3 := Lib.hid (B2.out.new hnn)
  have T2 := Lib.hid (NY.last1 hv)
  replace T1 := Lib.hid (T1.out.new hnn)
  clear hn hnn hv B2 HON
  go_wp2_with fail
  refine (HPB.out _).mono ?_
  rintro e w4 ⟨v3, rfl, hv, hn⟩
  obtain ⟨A3, l3, c3, rfl, -⟩ := hv.form
  generalize decide (y < 0) = b3 at *
  have hbx := T2.out.bx.new hn
  have hlt := HLT.out
  have hlt1 := HLT1.out
  have HB4 := Lib.hid (B3.out.new hn)
  have B5 := Lib.hid (HB4.out.turn hbx (by omega) (.slice A3 l3 c3) (.bool b3))
  have t1 := T1.out.new hn
  obtain ⟨hx1, hy1⟩ := t1.cells
  have T1n := Lib.hid (t1.turn hbx (by omega) (.slice A3 l3 c3) (.bool b3))
  have T2n := Lib.hid (NY.turned hbx hv)
  obtain ⟨k20, k21, k22, k23⟩ := hbx.two
  have hne : ¬ w3.heap.size = w2.heap.size := by omega
  have hne2 : ¬ w3.heap.size = w.heap.size := by omega
  clear hn hv T1 T2 hbx B3 HPB hlt hlt1 HLT HLT1 t1
  obtain ⟨hx2, hy2⟩ := T2n.out.cells
  go_wp2_with fail
  refine (HMK.out _ _ _ T1n.out.nx T2n.out.nx).mono ?_
  rintro e w5 ⟨r, rfl, hv, hn⟩
  obtain ⟨R, rl, rc, R', rl', rc', rfl⟩ := RatB.form hv
  generalize decide (mkN x y < 0) = rb at *
  generalize decide (mkD x y < 0) = rb' at *
  have hnn := hn.alloc (.cells #[.slice R rl rc, .bool rb, .slice R' rl' rc', .bool rb'] NRat)
  have B6 := Lib.hid (B5.out.new hnn)
  have hbr := Box.last w5 #[.slice R rl rc, .bool rb, .slice R' rl' rc', .bool rb'] NRat
  have T6 := Lib.hid (hv.new ((New.refl w5).alloc (.cells #[.slice R rl rc, .bool rb, .slice R' rl' rc', .bool rb'] NRat)))
  obtain ⟨z0, z1, z2, z3⟩ := hbr.cells4
  have HBR := Lib.hid hbr
  clear hn hnn hv B5 T1n T2n hx1 hy1 hx2 hy2 HB4 hne hne2 k20 k21 k22 k23 hbr
  go_wp2_with fail
  refine (qtext_w _ T6.out (by omega) (by omega) (tabIs_new B6.out.nw HTAB.out) HTX.out).mono ?_
  rintro e w6 ⟨rfl, hn⟩
  have B7 := Lib.hid (B6.out.new hn)
  have T7 := Lib.hid (T6.out.new hn)
  clear z0 z1 z2 z3
  obtain ⟨z0, z1, z2, z3⟩ := (HBR.out.new hn).cells4
  clear hn B6 T6 HBR
  clear T7
  have hFR := B7.out.br
  have c20 := hFR.cells4.1
  have c21 := hFR.cells4.2.1
  have c22 := hFR.cells4.2.2.1
  have c23 := hFR.cells4.2.2.2
  have f20 := hFR.frozen 0
  have f21 := hFR.frozen 1
  have f22 := hFR.frozen 2
  have f23 := hFR.frozen 3
  have GN := Lib.hid (B7.out.done (.slice none 0 0) (.bool false) (.slice none 0 0) (.bool false))
  obtain ⟨y0, y1, y2, y3⟩ := (hFR.lay4 (.slice none 0 0) (.bool false) (.slice none 0 0) (.bool false)).cells4
  clear hFR B7
  go_wp2
  refine bodyPost_ret (v := .tuple #[.agg #[.slice none 0 0, .bool false, .slice none 0 0, .bool false], .int .i64 10]) (by simp [results, Tryz.results102, go_sem, y0, y1, y2, y3]) rfl ⟨_, rfl, RatB.zero _ _, GN.out⟩
theorem num_z {l : List UInt8} (h : isNum l = true) : isZ l = true ∧ zNum l = (pNum l : Int) := by
  have h45 : l.head? ≠ some 45 := by
    intro e
    unfold isNum at h
    simp only [Bool.and_eq_true] at h
    have := List.all_eq_true.1 h.1.2 45 (List.mem_of_mem_head? e)
    revert this; decide
  have hz : isZ l = true := by unfold isZ; rw [if_neg h45]; exact h
  refine ⟨hz, ?_⟩
  unfold zNum
  rw [if_pos hz, if_neg h45]
theorem z_num {l : List UInt8} (h : isZ l = true) (h45 : l.head? ≠ some 45) : isNum l = true := by
  unfold isZ at h
  rw [if_neg h45] at h
  exact h
theorem qparse_n (s : ByteArray) (hs : s.size ≤ 256) (hm : w.cell? ⟨3, 0, none⟩ = some (.int .i64 m)) (L : Lib.TabIs Tryz.prog w "internal/strconv.uint64pow10" .u64 Lib.pow10Tab) :
    Calls Tryz.prog 102 #[.string s] w fun e w' => ∃ v, e = .returned (.tuple #[v, .int .i64 (errQ s.data.toList)]) ∧ RatB w' v (qN s.data.toList) (qD s.data.toList) 256 ∧ New w w' := by
  have hno : okQ s.data.toList = false → errQ s.data.toList = 10 ∧ qN s.data.toList = 0 ∧ qD s.data.toList = 0 := fun h => by unfold errQ qN qD; rw [h]; exact ⟨rfl, rfl, rfl⟩
  have hyes : okQ s.data.toList = true → errQ s.data.toList = 0 ∧ qN s.data.toList = mkN (zNum (qa s.data.toList)) (qden s.data.toList) ∧ qD s.data.toList = mkD (zNum (qa s.data.toList)) (qden s.data.toList) := fun h => by unfold errQ qN qD; rw [h]; exact ⟨rfl, rfl, rfl⟩
  cases ha : isZ (qa s.data.toList) with
  | false =>
    obtain ⟨e1, e2, e3⟩ := hno (by unfold okQ; rw [ha]; rfl)
    rw [e1, e2, e3]
    exact qp_A s hs hm ha
  | true =>
    cases hq : qi s.data.toList with
    | false =>
      have hok : okQ s.data.toList = true := by unfold okQ; rw [ha, hq]; rfl
      have hd : qden s.data.toList = 1 := by unfold qden; rw [hq]; rfl
      have htx := (okQ_text hok).1
      obtain ⟨e1, e2, e3⟩ := hyes hok
      rw [e2, e3, hd] at htx
      rw [e1, e2, e3, hd]
      exact qp_B s hs hm ha hq htx L
    | true =>
      have hden : qden s.data.toList = (pNum (qb s.data.toList) : Int) := by unfold qden; rw [hq]; rfl
      have hokd : okQ s.data.toList = (isNum (qb s.data.toList) && decide (pNum (qb s.data.toList) ≠ 0) && (ratS (mkN (zNum (qa s.data.toList)) (qden s.data.toList)) (mkD (zNum (qa s.data.toList)) (qden s.data.toList))).toList == s.data.toList) := by
        unfold okQ; rw [ha, hq]; rfl
      cases hb : isZ (qb s.data.toList) with
      | false =>
        have hn : isNum (qb s.data.toList) = false := by
          cases h : isNum (qb s.data.toList) with
          | false => rfl
          | true => rw [(num_z h).1] at hb; cases hb
        obtain ⟨e1, e2, e3⟩ := hno (by rw [hokd, hn]; rfl)
        rw [e1, e2, e3]
        exact qp_C s hs hm ha hq hb
      | true =>
        by_cases h0 : zNum (qb s.data.toList) = 0
        · obtain ⟨e1, e2, e3⟩ := hno (by
            rw [hokd]
            cases h : isNum (qb s.data.toList) with
            | false => rfl
            | true =>
              have := (num_z h).2
              have hp : pNum (qb s.data.toList) = 0 := by omega
              rw [hp]; rfl)
          rw [e1, e2, e3]
          exact qp_D0 s hs hm ha hq hb h0
        · by_cases htx : ratS (mkN (zNum (qa s.data.toList)) (zNum (qb s.data.toList))) (mkD (zNum (qa s.data.toList)) (zNum (qb s.data.toList))) = s
          · have h45 : (qb s.data.toList).head? ≠ some 45 := fun e => neg_ne (mk_low h0).1 hq e htx
            have hn := z_num hb h45
            have hz := (num_z hn).2
            have hok : okQ s.data.toList = true := by
              rw [hokd, hn, hden, ← hz, htx, Lib.toList_data]
              have : pNum (qb s.data.toList) ≠ 0 := by omega
              simp [this]
            obtain ⟨e1, e2, e3⟩ := hyes hok
            rw [e1, e2, e3, hden, ← hz]
            exact qp_D s hs hm ha hq hb h0 htx L
          · obtain ⟨e1, e2, e3⟩ := hno (by
              rw [hokd]
              cases h : isNum (qb s.data.toList) with
              | false => rfl
              | true =>
                have hz := (num_z h).2
                rw [hden, ← hz]
                simp only [Bool.true_and, Bool.and_eq_false_iff]
                right
                rw [beq_eq_false_iff_ne]
                intro e
                rw [Lib.toList_data] at e
                exact htx (data_injY e))
            rw [e1, e2, e3]
            exact qp_E s hs hm ha hq hb h0 htx L
end
end Go.Proofs.YtkjlmibleoecgaaGreatDoor
