/- The reference's rat: Parse. (Printed by mkrq10.py.) -/
import Derived.Test.YtkjlmibleoecgaaGreatDoorQ10
import Derived.Test.YtkjlmibleoecgaaGreatDoorRQ3
namespace Go.Proofs.YtkjlmibleoecgaaGreatDoor
set_option linter.unusedSimpArgs false
set_option linter.unusedVariables false
open Go.RowKit
def ShR (v : Value) : Prop := ∃ b A l c b' A' l' c', v = .agg #[.bool b, .slice A l c, .bool b', .slice A' l' c']
theorem RRatB.shape {w : World} {v : Value} {n d : Int} {k : Nat} (h : RRatB w v n d k) : ∃ A l c A' l' c', v = .agg #[.bool (decide (n < 0)), .slice A l c, .bool (decide (d < 0)), .slice A' l' c'] := by
  obtain ⟨A, l, c, A', l', c', rfl, -, -⟩ := h
  exact ⟨A, l, c, A', l', c', rfl⟩
structure RPB (w0 w : World) (p : Nat) : Prop where
  nw : New w0 w
  br : Box w p #[.bool false, .slice none 0 0, .bool false, .slice none 0 0] RRat
  p0 : w0.heap.size ≤ p
theorem RPB.new {w0 w w' : World} {p : Nat} (h : RPB w0 w p) (hn : New w w') : RPB w0 w' p := ⟨h.nw.trans hn, h.br.new hn, h.p0⟩
theorem RPB.done {w0 w : World} {p : Nat} (h : RPB w0 w p) (a0 a1 a2 a3 : Value) : New w0 ((((w.setCell ⟨p, 0, none⟩ a0).setCell ⟨p, 1, none⟩ a1).setCell ⟨p, 2, none⟩ a2).setCell ⟨p, 3, none⟩ a3) := by
  have hp := h.p0
  exact (((h.nw.setCell (p := ⟨p, 0, none⟩) hp a0).setCell (p := ⟨p, 1, none⟩) hp a1).setCell (p := ⟨p, 2, none⟩) hp a2).setCell (p := ⟨p, 3, none⟩) hp a3
/-- Behind Make: its fraction in a box. -/
structure RQs (w0 w : World) (p P : Nat) (b : Bool) (A : Option Addr) (l c : Nat) (b' : Bool) (A' : Option Addr) (l' c' : Nat) (n d : Int) (k : Nat) : Prop where
  pb : RPB w0 w p
  bx : Box w P #[.bool b, .slice A l c, .bool b', .slice A' l' c'] RRat
  rv : RRatB w (.agg #[.bool b, .slice A l c, .bool b', .slice A' l' c']) n d k
section
variable {w0 w : World} {p P : Nat} {b : Bool} {A : Option Addr} {l c : Nat} {b' : Bool} {A' : Option Addr} {l' c' : Nat} {n d : Int} {k : Nat}
theorem RRatB.lay4 {v : Value} (hv : RRatB w v n d k) {a0 a1 a2 a3 : Value} (hb : Box w P #[a0, a1, a2, a3] RRat) (x0 x1 x2 x3 : Value) :
    RRatB ((((w.setCell ⟨P, 0, none⟩ x0).setCell ⟨P, 1, none⟩ x1).setCell ⟨P, 2, none⟩ x2).setCell ⟨P, 3, none⟩ x3) v n d k := by
  have b1 := hb.set 0 x0
  have b2 := b1.set 1 x1
  have b3 := b2.set 2 x2
  obtain ⟨A, l, c, A', l', c', rfl, h1, h2⟩ := hv
  exact ⟨A, l, c, A', l', c', rfl, (((h1.set hb (by decide) x0).set b1 (by decide) x1).set b2 (by decide) x2).set b3 (by decide) x3, (((h2.set hb (by decide) x0).set b1 (by decide) x1).set b2 (by decide) x2).set b3 (by decide) x3⟩
theorem RQs.mk2 (hp : RPB w0 w p) (hb : Box w P #[.bool false, .slice none 0 0, .bool false, .slice none 0 0] RRat) (hP : p < P) (hv : RRatB w (.agg #[.bool b, .slice A l c, .bool b', .slice A' l' c']) n d k) :
    RQs w0 ((((w.setCell ⟨P, 0, none⟩ (.bool b)).setCell ⟨P, 1, none⟩ (.slice A l c)).setCell ⟨P, 2, none⟩ (.bool b')).setCell ⟨P, 3, none⟩ (.slice A' l' c')) p P b A l c b' A' l' c' n d k := by
  have h0 := hp.p0
  exact ⟨⟨((((hp.nw.setCell (p := ⟨P, 0, none⟩) (by simp; omega) _).setCell (p := ⟨P, 1, none⟩) (by simp; omega) _).setCell (p := ⟨P, 2, none⟩) (by simp; omega) _).setCell (p := ⟨P, 3, none⟩) (by simp; omega) _), hp.br.far4 (by omega) _ _ _ _, h0⟩, hb.lay4 _ _ _ _, hv.lay4 hb _ _ _ _⟩
theorem RQs.name2 {Q : Prop} (h : RQs w0 w p P b A l c b' A' l' c' n d k) (f : ∀ V, V = w → ∀ P', P' = P → RQs w0 V p P' b A l c b' A' l' c' n d k → Q) : Q := f w rfl P rfl h
theorem RQs.new {w' : World} (h : RQs w0 w p P b A l c b' A' l' c' n d k) (hn : New w w') : RQs w0 w' p P b A l c b' A' l' c' n d k := ⟨h.pb.new hn, h.bx.new hn, h.rv.new hn⟩
end
theorem rparse_q (b : ByteArray) (l : List UInt8) (hb : b.data.toList = l) (hl : l.length ≤ 256) (W : World) :
    Calls Tryz.prog 51 #[.string b] W fun e w' => ∃ v, e = .returned (.tuple #[v, .int .i64 (errZ l)]) ∧ RNumB w' v (zNum l) 256 ∧ New W w' := by
  have := rparse_n b W (by rw [Lib.size_eq, hb]; omega)
  rw [hb] at this
  exact this.mono fun e w' h => h.elim fun v h => ⟨v, h.1, ⟨h.2.1, Nat.le_trans (zNum_len (by decide)) hl⟩, h.2.2⟩
theorem rnparse_q (b : ByteArray) (l : List UInt8) (hb : b.data.toList = l) (hl : l.length ≤ 256) (W : World) :
    Calls Tryz.prog 67 #[.string b] W fun e w' => ∃ v, e = .returned (.tuple #[v, .int .i64 (pErr l)]) ∧ RefV w' v (pNum l) ∧ New W w' := by
  have := rparse_c b W (by rw [Lib.size_eq, hb]; omega)
  rw [hb] at this
  exact this
theorem rqtext_w {w : World} {v : Value} {n d : Int} {k : Nat} (s : ByteArray) (hx : RRatB w v n d k) (hk : k ≤ 15000) (hk2 : 3 ≤ k) (hs : ratS n d = s) :
    Calls Tryz.prog 55 #[v] w fun e w' => e = .returned (.string s) ∧ New w w' := hs ▸ rqtext_n hx hk hk2
theorem pnum_len9 {l : List UInt8} : (dg B9 (pNum l)).length ≤ l.length := by
  by_cases h : isNum l = true
  · exact isNum_len h (by decide)
  · have : pNum l = 0 := by unfold pNum; rw [if_neg h]
    rw [this, dg_zero]; simp
/-- Where the slash stands, or the end. -/
theorem slash_at (s : ByteArray) : ∃ o : Nat, o ≤ s.size ∧ (s.extract 0 o).data.toList = qa s.data.toList ∧ (∀ (i : Nat) (h : i < s.size), i < o → ¬ ((s[i]'h).toNat : Int) = 47) ∧
    ((qi s.data.toList = false ∧ o = s.size) ∨ (qi s.data.toList = true ∧ ∃ h : o < s.size, ((s[o]'h).toNat : Int) = 47 ∧ (s.extract (o + 1) s.size).data.toList = qb s.data.toList)) := by
  have hget : ∀ (i : Nat) (h : i < s.size), s.data.toList[i]? = some (s[i]'h) := fun i h => by
    rw [List.getElem?_eq_getElem (by rw [← Lib.size_eq]; exact h)]
    rfl
  have hne : ∀ (i : Nat) (h : i < s.size), s.data.toList[i]? ≠ some 47 → ¬ ((s[i]'h).toNat : Int) = 47 := fun i h hh e => hh (by
    rw [hget i h]; congr 1; exact UInt8.toNat_inj.1 (by show (s[i]'h).toNat = 47; omega))
  rcases cut_cases s.data.toList with ⟨h1, h2, h3, h4⟩ | ⟨h1, h2, h3⟩
  · refine ⟨s.size, Nat.le_refl _, ?_, fun i h _ => hne i h (h4 i (by rw [← Lib.size_eq]; exact h)), .inl ⟨h1, rfl⟩⟩
    rw [h2, Lib.extract_data, Nat.sub_zero, List.drop_zero, Lib.size_eq, List.take_length]
  · have hl := congrArg List.length h2
    rw [List.length_append, List.length_cons, ← Lib.size_eq] at hl
    have ho : (qa s.data.toList).length < s.size := by omega
    generalize qa s.data.toList = A at *
    generalize qb s.data.toList = B at *
    refine ⟨A.length, by omega, ?_, fun i h hi => hne i h (h3 i hi), .inr ⟨h1, ho, ?_, ?_⟩⟩
    · rw [Lib.extract_data, Nat.sub_zero, List.drop_zero, h2]
      exact List.take_left' rfl
    · have e := hget _ ho
      have e2 : s.data.toList[A.length]? = some 47 := by rw [h2, List.getElem?_append_right (Nat.le_refl _)]; simp
      rw [e2] at e
      injection e with e
      rw [← e]; rfl
    · rw [Lib.extract_to_end, h2, show A ++ 47 :: B = (A ++ [47]) ++ B by simp]
      exact List.drop_left' (by simp)
section
variable {w : World}
set_option maxRecDepth 1000000 in
set_option maxHeartbeats 8000000 in
theorem rp_A0 (s : ByteArray) (hs : s.size ≤ 256) (hq : qi s.data.toList = false) (ha : isZ (qa s.data.toList) = false) :
    Calls Tryz.prog 103 #[.string s] w fun e w' => ∃ v, e = .returned (.tuple #[v, .int .i64 10]) ∧ ShR v ∧ New w w' := by
  obtain ⟨o, ho, hda, hno, hor⟩ := slash_at s
  rw [hq] at hor
  obtain rfl : o = s.size := by
    rcases hor with h | h
    · exact h.2
    · exact absurd h.1 (by decide)
  clear hor hq
  have hln := q_lens s.data.toList
  rw [← Lib.size_eq] at hln
  have hpa := rparse_q (s.extract 0 s.size) (qa s.data.toList) hda (by omega)
  rw [show errZ (qa s.data.toList) = 10 by unfold errZ; rw [ha]; rfl] at hpa
  generalize zNum (qa s.data.toList) = x at *
  generalize hba : s.extract 0 s.size = ba at *
  have HBA := Lib.hid hba
  have HPA := Lib.hid hpa
  have HNO := Lib.hid hno
  have B0 := Lib.hid (show RPB w (w.alloc (.cells #[.bool false, .slice none 0 0, .bool false, .slice none 0 0] RRat)) w.heap.size from ⟨(New.refl w).alloc _, Box.last _ _ _, Nat.le_refl _⟩)
  clear hda hpa hno hba hln ha
  go_enter Tryz.func103, Tryz.ntmps103
  go_wp2
  generalize hW : w.alloc (.cells #[.bool false, .slice none 0 0, .bool false, .slice none 0 0] RRat) = W at *
  clear hW
  go_loopw [4] (fun v4 w' => ∃ i : Nat, v4 = .int .i64 (i : Int) ∧ i ≤ s.size ∧ w' = W) (fun v4 _ => s.size - (intOf v4).toNat)
  case atStart => exact ⟨0, rfl, Nat.zero_le _, rfl⟩
  case round =>
    obtain ⟨i, rfl, hi, rfl⟩ := hrel
    by_cases hlt : i < s.size
    · have hsz : i < s.size := by omega
      have hne := HNO.out i hsz hlt
      go_wp2
      go_roundw
      case rel => exact ⟨i + 1, by go_num, by omega, by first | rfl | trivial⟩
      case measure => simp [intOf]; omega
    · obtain rfl : i = s.size := by omega
      clear hlt hi HNO
      have hb1 := HBA.out
      go_wp2_with fail
      refine (HPA.out _).mono ?_
      rintro e w1 ⟨v1, rfl, hv, hn⟩
      obtain ⟨A1, l1, c1, rfl, -⟩ := hv.form
      generalize decide (x < 0) = b1 at *
      have hnn := hn.alloc (.cells #[.bool b1, .slice A1 l1 c1] RNum)
      have B1 := Lib.hid (B0.out.new hnn)
      have T1 := Lib.hid (Box.last w1 #[.bool b1, .slice A1 l1 c1] RNum)
      have X1 := Lib.hid (hv.new ((New.refl w1).alloc (.cells #[.bool b1, .slice A1 l1 c1] RNum)))
      clear hn hnn hv B0 HPA
      have hFR := B1.out.br
      have c20 := hFR.cells4.1
      have c21 := hFR.cells4.2.1
      have c22 := hFR.cells4.2.2.1
      have c23 := hFR.cells4.2.2.2
      have f20 := hFR.frozen 0
      have f21 := hFR.frozen 1
      have f22 := hFR.frozen 2
      have f23 := hFR.frozen 3
      have GN := Lib.hid (B1.out.done (.bool false) (.slice none 0 0) (.bool false) (.slice none 0 0))
      obtain ⟨y0, y1, y2, y3⟩ := (hFR.lay4 (.bool false) (.slice none 0 0) (.bool false) (.slice none 0 0)).cells4
      clear hFR
      go_wp2
      refine bodyPost_ret (v := .tuple #[.agg #[.bool false, .slice none 0 0, .bool false, .slice none 0 0], .int .i64 10]) (by simp [results, Tryz.results103, go_sem, y0, y1, y2, y3]) rfl ⟨_, rfl, ⟨_, _, _, _, _, _, _, _, rfl⟩, GN.out⟩
set_option maxRecDepth 1000000 in
set_option maxHeartbeats 8000000 in
theorem rp_A1 (s : ByteArray) (hs : s.size ≤ 256) (hq : qi s.data.toList = true) (ha : isZ (qa s.data.toList) = false) :
    Calls Tryz.prog 103 #[.string s] w fun e w' => ∃ v, e = .returned (.tuple #[v, .int .i64 10]) ∧ ShR v ∧ New w w' := by
  obtain ⟨o, ho, hda, hno, hor⟩ := slash_at s
  rw [hq] at hor
  obtain ⟨hoz, h47, hdb⟩ : ∃ h : o < s.size, ((s[o]'h).toNat : Int) = 47 ∧ (s.extract (o + 1) s.size).data.toList = qb s.data.toList := by
    rcases hor with h | h
    · exact absurd h.1 (by decide)
    · exact h.2
  clear hor hq
  have hln := q_lens s.data.toList
  rw [← Lib.size_eq] at hln
  have hpa := rparse_q (s.extract 0 o) (qa s.data.toList) hda (by omega)
  rw [show errZ (qa s.data.toList) = 10 by unfold errZ; rw [ha]; rfl] at hpa
  have hpb := rnparse_q (s.extract (o + 1) s.size) (qb s.data.toList) hdb (by omega)
  have hlb : (dg B9 (pNum (qb s.data.toList))).length ≤ 256 := Nat.le_trans pnum_len9 (by omega)
  generalize zNum (qa s.data.toList) = x at *
  generalize pNum (qb s.data.toList) = y at *
  generalize hba : s.extract 0 o = ba at *
  generalize hbb : s.extract (o + 1) s.size = bb at *
  have HBA := Lib.hid hba
  have HBB := Lib.hid hbb
  have HPB := Lib.hid hpb
  have HPA := Lib.hid hpa
  have HNO := Lib.hid hno
  have B0 := Lib.hid (show RPB w (w.alloc (.cells #[.bool false, .slice none 0 0, .bool false, .slice none 0 0] RRat)) w.heap.size from ⟨(New.refl w).alloc _, Box.last _ _ _, Nat.le_refl _⟩)
  clear hda hpa hno hba hln ha hpb hbb hdb
  go_enter Tryz.func103, Tryz.ntmps103
  go_wp2
  generalize hW : w.alloc (.cells #[.bool false, .slice none 0 0, .bool false, .slice none 0 0] RRat) = W at *
  clear hW
  go_loopw [4] (fun v4 w' => ∃ i : Nat, v4 = .int .i64 (i : Int) ∧ i ≤ o ∧ w' = W) (fun v4 _ => o - (intOf v4).toNat)
  case atStart => exact ⟨0, rfl, Nat.zero_le _, rfl⟩
  case round =>
    obtain ⟨i, rfl, hi, rfl⟩ := hrel
    by_cases hlt : i < o
    · have hsz : i < s.size := by omega
      have hne := HNO.out i hsz hlt
      go_wp2
      go_roundw
      case rel => exact ⟨i + 1, by go_num, by omega, by first | rfl | trivial⟩
      case measure => simp [intOf]; omega
    · obtain rfl : o = i := by omega
      clear hlt hi HNO
      have hb1 := HBA.out
      have hb2 := HBB.out
      go_wp2_with fail
      refine (HPA.out _).mono ?_
      rintro e w1 ⟨v1, rfl, hv, hn⟩
      obtain ⟨A1, l1, c1, rfl, -⟩ := hv.form
      generalize decide (x < 0) = b1 at *
      have hnn := hn.alloc (.cells #[.bool b1, .slice A1 l1 c1] RNum)
      have B1 := Lib.hid (B0.out.new hnn)
      have T1 := Lib.hid (Box.last w1 #[.bool b1, .slice A1 l1 c1] RNum)
      have X1 := Lib.hid (hv.new ((New.refl w1).alloc (.cells #[.bool b1, .slice A1 l1 c1] RNum)))
      clear hn hnn hv B0 HPA
      have hFR := B1.out.br
      have c20 := hFR.cells4.1
      have c21 := hFR.cells4.2.1
      have c22 := hFR.cells4.2.2.1
      have c23 := hFR.cells4.2.2.2
      have f20 := hFR.frozen 0
      have f21 := hFR.frozen 1
      have f22 := hFR.frozen 2
      have f23 := hFR.frozen 3
      have GN := Lib.hid (B1.out.done (.bool false) (.slice none 0 0) (.bool false) (.slice none 0 0))
      obtain ⟨y0, y1, y2, y3⟩ := (hFR.lay4 (.bool false) (.slice none 0 0) (.bool false) (.slice none 0 0)).cells4
      clear hFR
      go_wp2
      refine bodyPost_ret (v := .tuple #[.agg #[.bool false, .slice none 0 0, .bool false, .slice none 0 0], .int .i64 10]) (by simp [results, Tryz.results103, go_sem, y0, y1, y2, y3]) rfl ⟨_, rfl, ⟨_, _, _, _, _, _, _, _, rfl⟩, GN.out⟩
set_option maxRecDepth 1000000 in
set_option maxHeartbeats 8000000 in
theorem rp_B (s : ByteArray) (hs : s.size ≤ 256) (hq : qi s.data.toList = false) (ha : isZ (qa s.data.toList) = true) :
    Calls Tryz.prog 103 #[.string s] w fun e w' => ∃ v, e = .returned (.tuple #[v, .int .i64 0]) ∧ ShR v ∧ New w w' := by
  have HOF := Lib.hid (fun W => rof_n 1 (by omega) (by omega) W)
  obtain ⟨o, ho, hda, hno, hor⟩ := slash_at s
  rw [hq] at hor
  obtain rfl : o = s.size := by
    rcases hor with h | h
    · exact h.2
    · exact absurd h.1 (by decide)
  clear hor hq
  have hln := q_lens s.data.toList
  rw [← Lib.size_eq] at hln
  have hpa := rparse_q (s.extract 0 s.size) (qa s.data.toList) hda (by omega)
  rw [show errZ (qa s.data.toList) = 0 by unfold errZ; rw [ha]; rfl] at hpa
  generalize zNum (qa s.data.toList) = x at *
  generalize hba : s.extract 0 s.size = ba at *
  have HBA := Lib.hid hba
  have HPA := Lib.hid hpa
  have HNO := Lib.hid hno
  have B0 := Lib.hid (show RPB w (w.alloc (.cells #[.bool false, .slice none 0 0, .bool false, .slice none 0 0] RRat)) w.heap.size from ⟨(New.refl w).alloc _, Box.last _ _ _, Nat.le_refl _⟩)
  clear hda hpa hno hba hln ha
  go_enter Tryz.func103, Tryz.ntmps103
  go_wp2
  generalize hW : w.alloc (.cells #[.bool false, .slice none 0 0, .bool false, .slice none 0 0] RRat) = W at *
  clear hW
  go_loopw [4] (fun v4 w' => ∃ i : Nat, v4 = .int .i64 (i : Int) ∧ i ≤ s.size ∧ w' = W) (fun v4 _ => s.size - (intOf v4).toNat)
  case atStart => exact ⟨0, rfl, Nat.zero_le _, rfl⟩
  case round =>
    obtain ⟨i, rfl, hi, rfl⟩ := hrel
    by_cases hlt : i < s.size
    · have hsz : i < s.size := by omega
      have hne := HNO.out i hsz hlt
      go_wp2
      go_roundw
      case rel => exact ⟨i + 1, by go_num, by omega, by first | rfl | trivial⟩
      case measure => simp [intOf]; omega
    · obtain rfl : i = s.size := by omega
      clear hlt hi HNO
      have hb1 := HBA.out
      go_wp2_with fail
      refine (HPA.out _).mono ?_
      rintro e w1 ⟨v1, rfl, hv, hn⟩
      obtain ⟨A1, l1, c1, rfl, -⟩ := hv.form
      generalize decide (x < 0) = b1 at *
      have hnn := hn.alloc (.cells #[.bool b1, .slice A1 l1 c1] RNum)
      have B1 := Lib.hid (B0.out.new hnn)
      have T1 := Lib.hid (Box.last w1 #[.bool b1, .slice A1 l1 c1] RNum)
      have X1 := Lib.hid (hv.new ((New.refl w1).alloc (.cells #[.bool b1, .slice A1 l1 c1] RNum)))
      clear hn hnn hv B0 HPA
      go_wp2
      generalize hV : w1.alloc (.cells #[.bool b1, .slice A1 l1 c1] RNum) = V at *
      generalize w1.heap.size = p5 at *
      clear hV
      refine wp_region_rel (by kernel_rfl) (VL [(36, fun ww vv => vv = .agg #[.bool b1, .slice A1 l1 c1]), (37, fun ww vv => ∃ b A l c, vv = .agg #[.bool b, .slice A l c]), (38, fun ww vv => ShR vv)]) (VL_mono ⟨fun _ _ _ h _ => h, fun _ _ _ h hn => h, fun _ _ _ h hn => h, trivial⟩) _ _ [false, false, false, false, false, false, false, false, false, false, false, false, false, false, false, false, false, false, false, false, false, false, false, false, false, false, false, false, false, false, false, false, false, false, false, false, true, true, true, false, false, false, false, false, false, false, false, false, false, false, false, false, false, false, false, false, false, false, false, false, false, false, false, false, false, false, false, false] [true, true, true, false, false] [false, false, false, false, false] [[], [], [36, 37], [], []] [36, 37, 38] 2 (by kernel_rfl) rfl rfl (by kernel_rfl) (by kernel_rfl) (fun _ _ _ _ _ h => h) ⟨?o0, ?o1, ?o2, trivial⟩ ?last
      case o0 =>
        intro s w' K hn hk hK
        clear hk
        simp only [fr, fill, Nat.reduceAdd, Act.put, List.setIfInBounds_toArray, List.set_cons_zero, List.set_cons_succ] at hK ⊢
        have hc5 := T1.out.new hn
        obtain ⟨c50, c51⟩ := hc5.cells2
        clear hc5
        refine ⟨true, rfl, ?_⟩
        show Oper.wp _ _ _ _ _ _
        (first | go_big_op | go_simp)
        exact hK _ _ (New.refl _) rfl
      case o1 =>
        intro s w' K hn hk hK
        clear hk
        simp only [fr, fill, Nat.reduceAdd, Act.put, List.setIfInBounds_toArray, List.set_cons_zero, List.set_cons_succ] at hK ⊢
        refine ⟨true, rfl, ?_⟩
        show Oper.wp _ _ _ _ _ _
        (first | go_big_op | go_simp)
        refine (HOF.out _).mono ?_
        rintro e' w'' ⟨v', rfl, hv', hn'⟩
        obtain ⟨A, l, c, rfl, -⟩ := hv'.form
        exact hK _ _ hn' ⟨_, _, _, _, rfl⟩
      case o2 =>
        intro s w' K hn hk hK
        have h36 : (s 36) = .agg #[.bool b1, .slice A1 l1 c1] := hk.here
        have h37 : ∃ b A l c, (s 37) = .agg #[.bool b, .slice A l c] := hk.next.here
        clear hk
        simp only [fr, fill, Nat.reduceAdd, Act.put, List.setIfInBounds_toArray, List.set_cons_zero, List.set_cons_succ] at hK ⊢
        generalize s 36 = x36 at *
        generalize s 37 = x37 at *
        subst h36
        obtain ⟨b37, A37, l37, c37, rfl⟩ := h37
        refine ⟨true, rfl, ?_⟩
        show Oper.wp _ _ _ _ _ _
        (first | go_big_op | go_simp)
        exact hK _ _ (New.refl _) ⟨_, _, _, _, _, _, _, _, rfl⟩
      case last =>
        intro s V0 hn hk
        have h36 : (s 36) = .agg #[.bool b1, .slice A1 l1 c1] := hk.here
        have h37 : ∃ b A l c, (s 37) = .agg #[.bool b, .slice A l c] := hk.next.here
        have h38 : ShR (s 38) := hk.next.next.here
        clear hk
        simp only [fr, fill, Nat.reduceAdd, Act.put, List.setIfInBounds_toArray, List.set_cons_zero, List.set_cons_succ]
        generalize s 36 = x36 at *
        generalize s 37 = x37 at *
        generalize s 38 = x38 at *
        subst h36
        obtain ⟨b37, A37, l37, c37, rfl⟩ := h37
        obtain ⟨b6, A6, l6, c6, b7, A7, l7, c7, rfl⟩ := h38
        refine wpAny_chain [3, 4] _ _ _ (by kernel_rfl) ?_
        change wpList _ _ _ [_, _] _ _
        have hB := B1.out.new hn
        have hFR := hB.br
        have c20 := hFR.cells4.1
        have c21 := hFR.cells4.2.1
        have c22 := hFR.cells4.2.2.1
        have c23 := hFR.cells4.2.2.2
        have f20 := hFR.frozen 0
        have f21 := hFR.frozen 1
        have f22 := hFR.frozen 2
        have f23 := hFR.frozen 3
        have GN := Lib.hid (hB.done (.bool b6) (.slice A6 l6 c6) (.bool b7) (.slice A7 l7 c7))
        obtain ⟨y0, y1, y2, y3⟩ := (hFR.lay4 (.bool b6) (.slice A6 l6 c6) (.bool b7) (.slice A7 l7 c7)).cells4
        clear hFR
        clear hB hn
        refine wpList_plain rfl fun K3 hK3 => ?_
        go_simp
        refine hK3 _ _ ?_
        clear hK3
        refine wpList_plain rfl fun K4 hK4 => ?_
        go_simp
        refine hK4 _ _ ?_
        clear hK4
        change Exit.then _ _ .normal _ _
        simp only [Exit.then]
        go_wp2_with fail
        refine bodyPost_ret (v := .tuple #[.agg #[.bool b6, .slice A6 l6 c6, .bool b7, .slice A7 l7 c7], .int .i64 0]) (by simp [results, Tryz.results103, go_sem, y0, y1, y2, y3]) rfl ⟨_, rfl, ⟨_, _, _, _, _, _, _, _, rfl⟩, GN.out⟩
set_option maxRecDepth 1000000 in
set_option maxHeartbeats 8000000 in
theorem rp_C (s : ByteArray) (hs : s.size ≤ 256) (hq : qi s.data.toList = true) (ha : isZ (qa s.data.toList) = true) (hb : isNum (qb s.data.toList) = false) :
    Calls Tryz.prog 103 #[.string s] w fun e w' => ∃ v, e = .returned (.tuple #[v, .int .i64 10]) ∧ ShR v ∧ New w w' := by
  obtain ⟨o, ho, hda, hno, hor⟩ := slash_at s
  rw [hq] at hor
  obtain ⟨hoz, h47, hdb⟩ : ∃ h : o < s.size, ((s[o]'h).toNat : Int) = 47 ∧ (s.extract (o + 1) s.size).data.toList = qb s.data.toList := by
    rcases hor with h | h
    · exact absurd h.1 (by decide)
    · exact h.2
  clear hor hq
  have hln := q_lens s.data.toList
  rw [← Lib.size_eq] at hln
  have hpa := rparse_q (s.extract 0 o) (qa s.data.toList) hda (by omega)
  rw [show errZ (qa s.data.toList) = 0 by unfold errZ; rw [ha]; rfl] at hpa
  have hpb := rnparse_q (s.extract (o + 1) s.size) (qb s.data.toList) hdb (by omega)
  have hlb : (dg B9 (pNum (qb s.data.toList))).length ≤ 256 := Nat.le_trans pnum_len9 (by omega)
  rw [show pErr (qb s.data.toList) = 10 by unfold pErr; rw [hb]; rfl] at hpb
  have hdiv : divI (pNum (qb s.data.toList) : Int) = 12 := by unfold divI pNum; rw [hb]; rfl
  generalize zNum (qa s.data.toList) = x at *
  generalize pNum (qb s.data.toList) = y at *
  generalize hba : s.extract 0 o = ba at *
  generalize hbb : s.extract (o + 1) s.size = bb at *
  have HMF := Lib.hid (fun W v (h : RefV W v y) => (rmake_n false h).mono (R' := fun e w' => ∃ v, e = .returned v ∧ RNumB w' v (y : Int) 256 ∧ New W w') (fun e w' hh => hh.elim fun v hh => ⟨v, hh.1, ⟨by have := hh.2.1; simpa [sgn] using this, by rw [Int.natAbs_natCast]; exact hlb⟩, hh.2.2⟩))
  have HMK := Lib.hid (fun W u v (h : RNumB W u x 256) (h2 : RNumB W v (y : Int) 256) => rqmake_n h h2 (by omega))
  rw [hdiv] at HMK
  clear hdiv hlb
  have HBA := Lib.hid hba
  have HBB := Lib.hid hbb
  have HPB := Lib.hid hpb
  have HPA := Lib.hid hpa
  have HNO := Lib.hid hno
  have B0 := Lib.hid (show RPB w (w.alloc (.cells #[.bool false, .slice none 0 0, .bool false, .slice none 0 0] RRat)) w.heap.size from ⟨(New.refl w).alloc _, Box.last _ _ _, Nat.le_refl _⟩)
  clear hda hpa hno hba hln ha hpb hbb hdb
  go_enter Tryz.func103, Tryz.ntmps103
  go_wp2
  generalize hW : w.alloc (.cells #[.bool false, .slice none 0 0, .bool false, .slice none 0 0] RRat) = W at *
  clear hW
  go_loopw [4] (fun v4 w' => ∃ i : Nat, v4 = .int .i64 (i : Int) ∧ i ≤ o ∧ w' = W) (fun v4 _ => o - (intOf v4).toNat)
  case atStart => exact ⟨0, rfl, Nat.zero_le _, rfl⟩
  case round =>
    obtain ⟨i, rfl, hi, rfl⟩ := hrel
    by_cases hlt : i < o
    · have hsz : i < s.size := by omega
      have hne := HNO.out i hsz hlt
      go_wp2
      go_roundw
      case rel => exact ⟨i + 1, by go_num, by omega, by first | rfl | trivial⟩
      case measure => simp [intOf]; omega
    · obtain rfl : o = i := by omega
      clear hlt hi HNO
      have hb1 := HBA.out
      have hb2 := HBB.out
      go_wp2_with fail
      refine (HPA.out _).mono ?_
      rintro e w1 ⟨v1, rfl, hv, hn⟩
      obtain ⟨A1, l1, c1, rfl, -⟩ := hv.form
      generalize decide (x < 0) = b1 at *
      have hnn := hn.alloc (.cells #[.bool b1, .slice A1 l1 c1] RNum)
      have B1 := Lib.hid (B0.out.new hnn)
      have T1 := Lib.hid (Box.last w1 #[.bool b1, .slice A1 l1 c1] RNum)
      have X1 := Lib.hid (hv.new ((New.refl w1).alloc (.cells #[.bool b1, .slice A1 l1 c1] RNum)))
      clear hn hnn hv B0 HPA
      go_wp2_with fail
      refine (HPB.out _).mono ?_
      rintro e w2 ⟨v2, rfl, hv, hn⟩
      obtain ⟨A2, l2, c2, rfl⟩ := hv.form
      have hnn := hn.alloc (.cells #[.slice A2 l2 c2] RNat)
      have B2 := Lib.hid (B1.out.new hnn)
      have T2 := Lib.hid (Box.last w2 #[.slice A2 l2 c2] RNat)
      have X2 := Lib.hid (hv.new ((New.refl w2).alloc (.cells #[.slice A2 l2 c2] RNat)))
      replace T1 := Lib.hid (T1.out.new hnn)
      replace X1 := Lib.hid (X1.out.new hnn)
      clear hn hnn hv B1 HPB
      go_wp2
      generalize hV : w2.alloc (.cells #[.slice A2 l2 c2] RNat) = V at *
      generalize w1.heap.size = p5 at *
      generalize w2.heap.size = p7 at *
      clear hV
      refine wp_region_rel (by kernel_rfl) (VL [(8, fun ww vv => ∃ P, vv = .pointer (some ⟨P, 0, none⟩) ∧ Box ww P #[.bool false, .slice none 0 0, .bool false, .slice none 0 0] RRat ∧ w.heap.size < P), (47, fun ww vv => ∃ r, vv = .tuple #[r, .int .i64 (12)] ∧ RRatB ww r (mkN x (y : Int)) (mkD x (y : Int)) 256), (48, fun ww vv => vv = .agg #[.bool b1, .slice A1 l1 c1]), (49, fun ww vv => vv = .agg #[.slice A2 l2 c2]), (50, fun ww vv => RNumB ww vv (y : Int) 256), (51, fun ww vv => ∃ r, vv = .tuple #[r, .int .i64 (12)] ∧ RRatB ww r (mkN x (y : Int)) (mkD x (y : Int)) 256), (52, fun ww vv => RRatB ww vv (mkN x (y : Int)) (mkD x (y : Int)) 256), (53, fun ww vv => vv = .int .i64 12)]) (VL_mono ⟨fun _ _ _ h hn => h.elim fun P h => ⟨P, h.1, h.2.1.new hn, h.2.2⟩, fun _ _ _ h hn => h.elim fun r h => ⟨r, h.1, h.2.new hn⟩, fun _ _ _ h _ => h, fun _ _ _ h _ => h, fun _ _ _ h hn => RNumB.new h hn, fun _ _ _ h hn => h.elim fun r h => ⟨r, h.1, h.2.new hn⟩, fun _ _ _ h hn => RRatB.new h hn, fun _ _ _ h _ => h, trivial⟩) _ _ [false, false, false, false, false, false, false, false, true, false, false, false, false, false, false, false, false, false, false, false, false, false, false, false, false, false, false, false, false, false, false, false, false, false, false, false, false, false, false, false, false, false, false, false, false, false, false, true, true, true, true, true, true, true, false, false, false, false, false, false, false, false, false, false, false, false, false, false] [true, true, true, true, true, true, true, true, false, false] [false, false, false, false, false, false, true, false, false, false] [[], [], [49], [48, 50], [51], [47], [47], [], [], []] [8, 47, 48, 49, 50, 51, 52, 53] 2 (by kernel_rfl) rfl rfl (by kernel_rfl) (by kernel_rfl) (fun _ _ _ _ _ h => h) ⟨?o0, ?o1, ?o2, ?o3, ?o4, ?o5, ?o6, ?o7, trivial⟩ ?last
      case o0 =>
        intro s w' K hn hk hK
        clear hk
        simp only [fr, fill, Nat.reduceAdd, Act.put, List.setIfInBounds_toArray, List.set_cons_zero, List.set_cons_succ] at hK ⊢
        have hc5 := T1.out.new hn
        obtain ⟨c50, c51⟩ := hc5.cells2
        clear hc5
        refine ⟨true, rfl, ?_⟩
        show Oper.wp _ _ _ _ _ _
        (first | go_big_op | go_simp)
        exact hK _ _ (New.refl _) rfl
      case o1 =>
        intro s w' K hn hk hK
        clear hk
        simp only [fr, fill, Nat.reduceAdd, Act.put, List.setIfInBounds_toArray, List.set_cons_zero, List.set_cons_succ] at hK ⊢
        have hc7 := (T2.out.new hn).cell 0
        refine ⟨true, rfl, ?_⟩
        show Oper.wp _ _ _ _ _ _
        (first | go_big_op | go_simp)
        exact hK _ _ (New.refl _) rfl
      case o2 =>
        intro s w' K hn hk hK
        have h49 : (s 49) = .agg #[.slice A2 l2 c2] := hk.here
        clear hk
        simp only [fr, fill, Nat.reduceAdd, Act.put, List.setIfInBounds_toArray, List.set_cons_zero, List.set_cons_succ] at hK ⊢
        generalize s 49 = x49 at *
        subst h49
        refine ⟨true, rfl, ?_⟩
        show Oper.wp _ _ _ _ _ _
        (first | go_big_op | go_simp)
        refine (HMF.out _ _ (X2.out.new hn)).mono ?_
        rintro e' w'' ⟨v', rfl, hv', hn'⟩
        exact hK _ _ hn' hv'
      case o3 =>
        intro s w' K hn hk hK
        have h48 : (s 48) = .agg #[.bool b1, .slice A1 l1 c1] := hk.here
        have h50 : RNumB w' (s 50) (y : Int) 256 := hk.next.here
        clear hk
        simp only [fr, fill, Nat.reduceAdd, Act.put, List.setIfInBounds_toArray, List.set_cons_zero, List.set_cons_succ] at hK ⊢
        generalize s 48 = x48 at *
        generalize s 50 = x50 at *
        subst h48
        refine ⟨true, rfl, ?_⟩
        show Oper.wp _ _ _ _ _ _
        (first | go_big_op | go_simp)
        refine (HMK.out _ _ _ (X1.out.new hn) h50).mono ?_
        rintro e' w'' ⟨r, rfl, hv', hn'⟩
        exact hK _ _ hn' ⟨_, rfl, hv'⟩
      case o4 =>
        intro s w' K hn hk hK
        have h51 : ∃ r, (s 51) = .tuple #[r, .int .i64 (12)] ∧ RRatB w' r (mkN x (y : Int)) (mkD x (y : Int)) 256 := hk.here
        clear hk
        simp only [fr, fill, Nat.reduceAdd, Act.put, List.setIfInBounds_toArray, List.set_cons_zero, List.set_cons_succ] at hK ⊢
        generalize s 51 = x51 at *
        obtain ⟨r51, rfl, h51⟩ := h51
        refine ⟨true, rfl, ?_⟩
        show Oper.wp _ _ _ _ _ _
        (first | go_big_op | go_simp)
        exact hK _ _ (New.refl _) ⟨_, rfl, h51⟩
      case o5 =>
        intro s w' K hn hk hK
        have h47 : ∃ r, (s 47) = .tuple #[r, .int .i64 (12)] ∧ RRatB w' r (mkN x (y : Int)) (mkD x (y : Int)) 256 := hk.here
        clear hk
        simp only [fr, fill, Nat.reduceAdd, Act.put, List.setIfInBounds_toArray, List.set_cons_zero, List.set_cons_succ] at hK ⊢
        generalize s 47 = x47 at *
        obtain ⟨r47, rfl, h47⟩ := h47
        refine ⟨true, rfl, ?_⟩
        show Oper.wp _ _ _ _ _ _
        (first | go_big_op | go_simp)
        exact hK _ _ (New.refl _) h47
      case o6 =>
        intro s w' hn hk
        have h47 : ∃ r, (s 47) = .tuple #[r, .int .i64 (12)] ∧ RRatB w' r (mkN x (y : Int)) (mkD x (y : Int)) 256 := hk.here
        clear hk
        simp only [fr, fill, Nat.reduceAdd, Act.put, List.setIfInBounds_toArray, List.set_cons_zero, List.set_cons_succ]
        generalize s 47 = x47 at *
        obtain ⟨r47, rfl, h47⟩ := h47
        refine ⟨.int .i64 12, Or.inl ⟨rfl, fun W' => ?_⟩, rfl⟩
        first | rfl | go_simp
      case o7 =>
        intro s w' K hn hk hK
        clear hk
        simp only [fr, fill, Nat.reduceAdd, Act.put, List.setIfInBounds_toArray, List.set_cons_zero, List.set_cons_succ] at hK ⊢
        refine ⟨true, rfl, ?_⟩
        show Oper.wp _ _ _ _ _ _
        (first | go_big_op | go_simp)
        exact hK _ _ ((New.refl _).alloc _) ⟨_, rfl, Box.last _ _ _, by have := B2.out.br.lt; have := hn.le; omega⟩
      case last =>
        intro s V0 hn hk
        have h8 : ∃ P, (s 8) = .pointer (some ⟨P, 0, none⟩) ∧ Box V0 P #[.bool false, .slice none 0 0, .bool false, .slice none 0 0] RRat ∧ w.heap.size < P := hk.here
        have h47 : ∃ r, (s 47) = .tuple #[r, .int .i64 (12)] ∧ RRatB V0 r (mkN x (y : Int)) (mkD x (y : Int)) 256 := hk.next.here
        have h48 : (s 48) = .agg #[.bool b1, .slice A1 l1 c1] := hk.next.next.here
        have h49 : (s 49) = .agg #[.slice A2 l2 c2] := hk.next.next.next.here
        have h50 : RNumB V0 (s 50) (y : Int) 256 := hk.next.next.next.next.here
        have h51 : ∃ r, (s 51) = .tuple #[r, .int .i64 (12)] ∧ RRatB V0 r (mkN x (y : Int)) (mkD x (y : Int)) 256 := hk.next.next.next.next.next.here
        have h52 : RRatB V0 (s 52) (mkN x (y : Int)) (mkD x (y : Int)) 256 := hk.next.next.next.next.next.next.here
        have h53 : (s 53) = .int .i64 12 := hk.next.next.next.next.next.next.next.here
        clear hk
        simp only [fr, fill, Nat.reduceAdd, Act.put, List.setIfInBounds_toArray, List.set_cons_zero, List.set_cons_succ]
        generalize s 8 = x8 at *
        generalize s 47 = x47 at *
        generalize s 48 = x48 at *
        generalize s 49 = x49 at *
        generalize s 50 = x50 at *
        generalize s 51 = x51 at *
        generalize s 52 = x52 at *
        generalize s 53 = x53 at *
        obtain ⟨P, rfl, hbx, hP⟩ := h8
        obtain ⟨r47, rfl, h47⟩ := h47
        subst h48
        subst h49
        obtain ⟨r51, rfl, h51⟩ := h51
        subst h53
        refine wpAny_chain [8, 9] _ _ _ (by kernel_rfl) ?_
        change wpList _ _ _ [_, _] _ _
        have hB := B2.out.new hn
        obtain ⟨A6, l6, c6, A7, l7, c7, rfl⟩ := RRatB.shape h52
        generalize decide (mkN x (y : Int) < 0) = b6 at *
        generalize decide (mkD x (y : Int) < 0) = b7 at *
        obtain ⟨k0, k1, k2, k3⟩ := hbx.cells4
        have g0 := hbx.frozen 0
        have g1 := hbx.frozen 1
        have g2 := hbx.frozen 2
        have g3 := hbx.frozen 3
        have st := RQs.mk2 hB hbx hP h52
        have ST := Lib.hid st
        clear st hB h50 h51 h47 h52 hn hP hbx
        refine wpList_plain rfl fun K8 hK8 => ?_
        go_simp
        refine hK8 _ _ ?_
        clear hK8
        refine wpList_plain rfl fun K9 hK9 => ?_
        go_simp
        refine hK9 _ _ ?_
        clear hK9
        change Exit.then _ _ .normal _ _
        simp only [Exit.then]
        refine ST.out.name2 ?_
        clear ST
        rintro V2 hV P2 hP2 st
        rw [← hV, ← hP2]
        clear hV hP2 k0 k1 k2 k3 g0 g1 g2 g3
        have hFR := st.pb.br
        have c20 := hFR.cells4.1
        have c21 := hFR.cells4.2.1
        have c22 := hFR.cells4.2.2.1
        have c23 := hFR.cells4.2.2.2
        have f20 := hFR.frozen 0
        have f21 := hFR.frozen 1
        have f22 := hFR.frozen 2
        have f23 := hFR.frozen 3
        have GN := Lib.hid (st.pb.done (.bool false) (.slice none 0 0) (.bool false) (.slice none 0 0))
        obtain ⟨y0, y1, y2, y3⟩ := (hFR.lay4 (.bool false) (.slice none 0 0) (.bool false) (.slice none 0 0)).cells4
        clear hFR
        go_wp2
        refine bodyPost_ret (v := .tuple #[.agg #[.bool false, .slice none 0 0, .bool false, .slice none 0 0], .int .i64 10]) (by simp [results, Tryz.results103, go_sem, y0, y1, y2, y3]) rfl ⟨_, rfl, ⟨_, _, _, _, _, _, _, _, rfl⟩, GN.out⟩
set_option maxRecDepth 1000000 in
set_option maxHeartbeats 8000000 in
theorem rp_D0 (s : ByteArray) (hs : s.size ≤ 256) (hq : qi s.data.toList = true) (ha : isZ (qa s.data.toList) = true) (hb : isNum (qb s.data.toList) = true) (h0 : pNum (qb s.data.toList) = 0) :
    Calls Tryz.prog 103 #[.string s] w fun e w' => ∃ v, e = .returned (.tuple #[v, .int .i64 10]) ∧ ShR v ∧ New w w' := by
  obtain ⟨o, ho, hda, hno, hor⟩ := slash_at s
  rw [hq] at hor
  obtain ⟨hoz, h47, hdb⟩ : ∃ h : o < s.size, ((s[o]'h).toNat : Int) = 47 ∧ (s.extract (o + 1) s.size).data.toList = qb s.data.toList := by
    rcases hor with h | h
    · exact absurd h.1 (by decide)
    · exact h.2
  clear hor hq
  have hln := q_lens s.data.toList
  rw [← Lib.size_eq] at hln
  have hpa := rparse_q (s.extract 0 o) (qa s.data.toList) hda (by omega)
  rw [show errZ (qa s.data.toList) = 0 by unfold errZ; rw [ha]; rfl] at hpa
  have hpb := rnparse_q (s.extract (o + 1) s.size) (qb s.data.toList) hdb (by omega)
  have hlb : (dg B9 (pNum (qb s.data.toList))).length ≤ 256 := Nat.le_trans pnum_len9 (by omega)
  rw [show pErr (qb s.data.toList) = 0 by unfold pErr; rw [hb]; rfl] at hpb
  have hdiv : divI (pNum (qb s.data.toList) : Int) = 12 := by rw [h0]; rfl
  clear h0
  generalize zNum (qa s.data.toList) = x at *
  generalize pNum (qb s.data.toList) = y at *
  generalize hba : s.extract 0 o = ba at *
  generalize hbb : s.extract (o + 1) s.size = bb at *
  have HMF := Lib.hid (fun W v (h : RefV W v y) => (rmake_n false h).mono (R' := fun e w' => ∃ v, e = .returned v ∧ RNumB w' v (y : Int) 256 ∧ New W w') (fun e w' hh => hh.elim fun v hh => ⟨v, hh.1, ⟨by have := hh.2.1; simpa [sgn] using this, by rw [Int.natAbs_natCast]; exact hlb⟩, hh.2.2⟩))
  have HMK := Lib.hid (fun W u v (h : RNumB W u x 256) (h2 : RNumB W v (y : Int) 256) => rqmake_n h h2 (by omega))
  rw [hdiv] at HMK
  clear hdiv hlb
  have HBA := Lib.hid hba
  have HBB := Lib.hid hbb
  have HPB := Lib.hid hpb
  have HPA := Lib.hid hpa
  have HNO := Lib.hid hno
  have B0 := Lib.hid (show RPB w (w.alloc (.cells #[.bool false, .slice none 0 0, .bool false, .slice none 0 0] RRat)) w.heap.size from ⟨(New.refl w).alloc _, Box.last _ _ _, Nat.le_refl _⟩)
  clear hda hpa hno hba hln ha hpb hbb hdb
  go_enter Tryz.func103, Tryz.ntmps103
  go_wp2
  generalize hW : w.alloc (.cells #[.bool false, .slice none 0 0, .bool false, .slice none 0 0] RRat) = W at *
  clear hW
  go_loopw [4] (fun v4 w' => ∃ i : Nat, v4 = .int .i64 (i : Int) ∧ i ≤ o ∧ w' = W) (fun v4 _ => o - (intOf v4).toNat)
  case atStart => exact ⟨0, rfl, Nat.zero_le _, rfl⟩
  case round =>
    obtain ⟨i, rfl, hi, rfl⟩ := hrel
    by_cases hlt : i < o
    · have hsz : i < s.size := by omega
      have hne := HNO.out i hsz hlt
      go_wp2
      go_roundw
      case rel => exact ⟨i + 1, by go_num, by omega, by first | rfl | trivial⟩
      case measure => simp [intOf]; omega
    · obtain rfl : o = i := by omega
      clear hlt hi HNO
      have hb1 := HBA.out
      have hb2 := HBB.out
      go_wp2_with fail
      refine (HPA.out _).mono ?_
      rintro e w1 ⟨v1, rfl, hv, hn⟩
      obtain ⟨A1, l1, c1, rfl, -⟩ := hv.form
      generalize decide (x < 0) = b1 at *
      have hnn := hn.alloc (.cells #[.bool b1, .slice A1 l1 c1] RNum)
      have B1 := Lib.hid (B0.out.new hnn)
      have T1 := Lib.hid (Box.last w1 #[.bool b1, .slice A1 l1 c1] RNum)
      have X1 := Lib.hid (hv.new ((New.refl w1).alloc (.cells #[.bool b1, .slice A1 l1 c1] RNum)))
      clear hn hnn hv B0 HPA
      go_wp2_with fail
      refine (HPB.out _).mono ?_
      rintro e w2 ⟨v2, rfl, hv, hn⟩
      obtain ⟨A2, l2, c2, rfl⟩ := hv.form
      have hnn := hn.alloc (.cells #[.slice A2 l2 c2] RNat)
      have B2 := Lib.hid (B1.out.new hnn)
      have T2 := Lib.hid (Box.last w2 #[.slice A2 l2 c2] RNat)
      have X2 := Lib.hid (hv.new ((New.refl w2).alloc (.cells #[.slice A2 l2 c2] RNat)))
      replace T1 := Lib.hid (T1.out.new hnn)
      replace X1 := Lib.hid (X1.out.new hnn)
      clear hn hnn hv B1 HPB
      go_wp2
      generalize hV : w2.alloc (.cells #[.slice A2 l2 c2] RNat) = V at *
      generalize w1.heap.size = p5 at *
      generalize w2.heap.size = p7 at *
      clear hV
      refine wp_region_rel (by kernel_rfl) (VL [(8, fun ww vv => ∃ P, vv = .pointer (some ⟨P, 0, none⟩) ∧ Box ww P #[.bool false, .slice none 0 0, .bool false, .slice none 0 0] RRat ∧ w.heap.size < P), (47, fun ww vv => ∃ r, vv = .tuple #[r, .int .i64 (12)] ∧ RRatB ww r (mkN x (y : Int)) (mkD x (y : Int)) 256), (48, fun ww vv => vv = .agg #[.bool b1, .slice A1 l1 c1]), (49, fun ww vv => vv = .agg #[.slice A2 l2 c2]), (50, fun ww vv => RNumB ww vv (y : Int) 256), (51, fun ww vv => ∃ r, vv = .tuple #[r, .int .i64 (12)] ∧ RRatB ww r (mkN x (y : Int)) (mkD x (y : Int)) 256), (52, fun ww vv => RRatB ww vv (mkN x (y : Int)) (mkD x (y : Int)) 256), (53, fun ww vv => vv = .int .i64 12)]) (VL_mono ⟨fun _ _ _ h hn => h.elim fun P h => ⟨P, h.1, h.2.1.new hn, h.2.2⟩, fun _ _ _ h hn => h.elim fun r h => ⟨r, h.1, h.2.new hn⟩, fun _ _ _ h _ => h, fun _ _ _ h _ => h, fun _ _ _ h hn => RNumB.new h hn, fun _ _ _ h hn => h.elim fun r h => ⟨r, h.1, h.2.new hn⟩, fun _ _ _ h hn => RRatB.new h hn, fun _ _ _ h _ => h, trivial⟩) _ _ [false, false, false, false, false, false, false, false, true, false, false, false, false, false, false, false, false, false, false, false, false, false, false, false, false, false, false, false, false, false, false, false, false, false, false, false, false, false, false, false, false, false, false, false, false, false, false, true, true, true, true, true, true, true, false, false, false, false, false, false, false, false, false, false, false, false, false, false] [true, true, true, true, true, true, true, true, false, false] [false, false, false, false, false, false, true, false, false, false] [[], [], [49], [48, 50], [51], [47], [47], [], [], []] [8, 47, 48, 49, 50, 51, 52, 53] 2 (by kernel_rfl) rfl rfl (by kernel_rfl) (by kernel_rfl) (fun _ _ _ _ _ h => h) ⟨?o0, ?o1, ?o2, ?o3, ?o4, ?o5, ?o6, ?o7, trivial⟩ ?last
      case o0 =>
        intro s w' K hn hk hK
        clear hk
        simp only [fr, fill, Nat.reduceAdd, Act.put, List.setIfInBounds_toArray, List.set_cons_zero, List.set_cons_succ] at hK ⊢
        have hc5 := T1.out.new hn
        obtain ⟨c50, c51⟩ := hc5.cells2
        clear hc5
        refine ⟨true, rfl, ?_⟩
        show Oper.wp _ _ _ _ _ _
        (first | go_big_op | go_simp)
        exact hK _ _ (New.refl _) rfl
      case o1 =>
        intro s w' K hn hk hK
        clear hk
        simp only [fr, fill, Nat.reduceAdd, Act.put, List.setIfInBounds_toArray, List.set_cons_zero, List.set_cons_succ] at hK ⊢
        have hc7 := (T2.out.new hn).cell 0
        refine ⟨true, rfl, ?_⟩
        show Oper.wp _ _ _ _ _ _
        (first | go_big_op | go_simp)
        exact hK _ _ (New.refl _) rfl
      case o2 =>
        intro s w' K hn hk hK
        have h49 : (s 49) = .agg #[.slice A2 l2 c2] := hk.here
        clear hk
        simp only [fr, fill, Nat.reduceAdd, Act.put, List.setIfInBounds_toArray, List.set_cons_zero, List.set_cons_succ] at hK ⊢
        generalize s 49 = x49 at *
        subst h49
        refine ⟨true, rfl, ?_⟩
        show Oper.wp _ _ _ _ _ _
        (first | go_big_op | go_simp)
        refine (HMF.out _ _ (X2.out.new hn)).mono ?_
        rintro e' w'' ⟨v', rfl, hv', hn'⟩
        exact hK _ _ hn' hv'
      case o3 =>
        intro s w' K hn hk hK
        have h48 : (s 48) = .agg #[.bool b1, .slice A1 l1 c1] := hk.here
        have h50 : RNumB w' (s 50) (y : Int) 256 := hk.next.here
        clear hk
        simp only [fr, fill, Nat.reduceAdd, Act.put, List.setIfInBounds_toArray, List.set_cons_zero, List.set_cons_succ] at hK ⊢
        generalize s 48 = x48 at *
        generalize s 50 = x50 at *
        subst h48
        refine ⟨true, rfl, ?_⟩
        show Oper.wp _ _ _ _ _ _
        (first | go_big_op | go_simp)
        refine (HMK.out _ _ _ (X1.out.new hn) h50).mono ?_
        rintro e' w'' ⟨r, rfl, hv', hn'⟩
        exact hK _ _ hn' ⟨_, rfl, hv'⟩
      case o4 =>
        intro s w' K hn hk hK
        have h51 : ∃ r, (s 51) = .tuple #[r, .int .i64 (12)] ∧ RRatB w' r (mkN x (y : Int)) (mkD x (y : Int)) 256 := hk.here
        clear hk
        simp only [fr, fill, Nat.reduceAdd, Act.put, List.setIfInBounds_toArray, List.set_cons_zero, List.set_cons_succ] at hK ⊢
        generalize s 51 = x51 at *
        obtain ⟨r51, rfl, h51⟩ := h51
        refine ⟨true, rfl, ?_⟩
        show Oper.wp _ _ _ _ _ _
        (first | go_big_op | go_simp)
        exact hK _ _ (New.refl _) ⟨_, rfl, h51⟩
      case o5 =>
        intro s w' K hn hk hK
        have h47 : ∃ r, (s 47) = .tuple #[r, .int .i64 (12)] ∧ RRatB w' r (mkN x (y : Int)) (mkD x (y : Int)) 256 := hk.here
        clear hk
        simp only [fr, fill, Nat.reduceAdd, Act.put, List.setIfInBounds_toArray, List.set_cons_zero, List.set_cons_succ] at hK ⊢
        generalize s 47 = x47 at *
        obtain ⟨r47, rfl, h47⟩ := h47
        refine ⟨true, rfl, ?_⟩
        show Oper.wp _ _ _ _ _ _
        (first | go_big_op | go_simp)
        exact hK _ _ (New.refl _) h47
      case o6 =>
        intro s w' hn hk
        have h47 : ∃ r, (s 47) = .tuple #[r, .int .i64 (12)] ∧ RRatB w' r (mkN x (y : Int)) (mkD x (y : Int)) 256 := hk.here
        clear hk
        simp only [fr, fill, Nat.reduceAdd, Act.put, List.setIfInBounds_toArray, List.set_cons_zero, List.set_cons_succ]
        generalize s 47 = x47 at *
        obtain ⟨r47, rfl, h47⟩ := h47
        refine ⟨.int .i64 12, Or.inl ⟨rfl, fun W' => ?_⟩, rfl⟩
        first | rfl | go_simp
      case o7 =>
        intro s w' K hn hk hK
        clear hk
        simp only [fr, fill, Nat.reduceAdd, Act.put, List.setIfInBounds_toArray, List.set_cons_zero, List.set_cons_succ] at hK ⊢
        refine ⟨true, rfl, ?_⟩
        show Oper.wp _ _ _ _ _ _
        (first | go_big_op | go_simp)
        exact hK _ _ ((New.refl _).alloc _) ⟨_, rfl, Box.last _ _ _, by have := B2.out.br.lt; have := hn.le; omega⟩
      case last =>
        intro s V0 hn hk
        have h8 : ∃ P, (s 8) = .pointer (some ⟨P, 0, none⟩) ∧ Box V0 P #[.bool false, .slice none 0 0, .bool false, .slice none 0 0] RRat ∧ w.heap.size < P := hk.here
        have h47 : ∃ r, (s 47) = .tuple #[r, .int .i64 (12)] ∧ RRatB V0 r (mkN x (y : Int)) (mkD x (y : Int)) 256 := hk.next.here
        have h48 : (s 48) = .agg #[.bool b1, .slice A1 l1 c1] := hk.next.next.here
        have h49 : (s 49) = .agg #[.slice A2 l2 c2] := hk.next.next.next.here
        have h50 : RNumB V0 (s 50) (y : Int) 256 := hk.next.next.next.next.here
        have h51 : ∃ r, (s 51) = .tuple #[r, .int .i64 (12)] ∧ RRatB V0 r (mkN x (y : Int)) (mkD x (y : Int)) 256 := hk.next.next.next.next.next.here
        have h52 : RRatB V0 (s 52) (mkN x (y : Int)) (mkD x (y : Int)) 256 := hk.next.next.next.next.next.next.here
        have h53 : (s 53) = .int .i64 12 := hk.next.next.next.next.next.next.next.here
        clear hk
        simp only [fr, fill, Nat.reduceAdd, Act.put, List.setIfInBounds_toArray, List.set_cons_zero, List.set_cons_succ]
        generalize s 8 = x8 at *
        generalize s 47 = x47 at *
        generalize s 48 = x48 at *
        generalize s 49 = x49 at *
        generalize s 50 = x50 at *
        generalize s 51 = x51 at *
        generalize s 52 = x52 at *
        generalize s 53 = x53 at *
        obtain ⟨P, rfl, hbx, hP⟩ := h8
        obtain ⟨r47, rfl, h47⟩ := h47
        subst h48
        subst h49
        obtain ⟨r51, rfl, h51⟩ := h51
        subst h53
        refine wpAny_chain [8, 9] _ _ _ (by kernel_rfl) ?_
        change wpList _ _ _ [_, _] _ _
        have hB := B2.out.new hn
        obtain ⟨A6, l6, c6, A7, l7, c7, rfl⟩ := RRatB.shape h52
        generalize decide (mkN x (y : Int) < 0) = b6 at *
        generalize decide (mkD x (y : Int) < 0) = b7 at *
        obtain ⟨k0, k1, k2, k3⟩ := hbx.cells4
        have g0 := hbx.frozen 0
        have g1 := hbx.frozen 1
        have g2 := hbx.frozen 2
        have g3 := hbx.frozen 3
        have st := RQs.mk2 hB hbx hP h52
        have ST := Lib.hid st
        clear st hB h50 h51 h47 h52 hn hP hbx
        refine wpList_plain rfl fun K8 hK8 => ?_
        go_simp
        refine hK8 _ _ ?_
        clear hK8
        refine wpList_plain rfl fun K9 hK9 => ?_
        go_simp
        refine hK9 _ _ ?_
        clear hK9
        change Exit.then _ _ .normal _ _
        simp only [Exit.then]
        refine ST.out.name2 ?_
        clear ST
        rintro V2 hV P2 hP2 st
        rw [← hV, ← hP2]
        clear hV hP2 k0 k1 k2 k3 g0 g1 g2 g3
        have hFR := st.pb.br
        have c20 := hFR.cells4.1
        have c21 := hFR.cells4.2.1
        have c22 := hFR.cells4.2.2.1
        have c23 := hFR.cells4.2.2.2
        have f20 := hFR.frozen 0
        have f21 := hFR.frozen 1
        have f22 := hFR.frozen 2
        have f23 := hFR.frozen 3
        have GN := Lib.hid (st.pb.done (.bool false) (.slice none 0 0) (.bool false) (.slice none 0 0))
        obtain ⟨y0, y1, y2, y3⟩ := (hFR.lay4 (.bool false) (.slice none 0 0) (.bool false) (.slice none 0 0)).cells4
        clear hFR
        go_wp2
        refine bodyPost_ret (v := .tuple #[.agg #[.bool false, .slice none 0 0, .bool false, .slice none 0 0], .int .i64 10]) (by simp [results, Tryz.results103, go_sem, y0, y1, y2, y3]) rfl ⟨_, rfl, ⟨_, _, _, _, _, _, _, _, rfl⟩, GN.out⟩
set_option maxRecDepth 1000000 in
set_option maxHeartbeats 8000000 in
theorem rp_D (s : ByteArray) (hs : s.size ≤ 256) (hq : qi s.data.toList = true) (ha : isZ (qa s.data.toList) = true) (hb : isNum (qb s.data.toList) = true) (h0 : pNum (qb s.data.toList) ≠ 0) (htx : ratS (mkN (zNum (qa s.data.toList)) (pNum (qb s.data.toList) : Int)) (mkD (zNum (qa s.data.toList)) (pNum (qb s.data.toList) : Int)) = s) :
    Calls Tryz.prog 103 #[.string s] w fun e w' => ∃ v, e = .returned (.tuple #[v, .int .i64 0]) ∧ ShR v ∧ New w w' := by
  obtain ⟨o, ho, hda, hno, hor⟩ := slash_at s
  rw [hq] at hor
  obtain ⟨hoz, h47, hdb⟩ : ∃ h : o < s.size, ((s[o]'h).toNat : Int) = 47 ∧ (s.extract (o + 1) s.size).data.toList = qb s.data.toList := by
    rcases hor with h | h
    · exact absurd h.1 (by decide)
    · exact h.2
  clear hor hq
  have hln := q_lens s.data.toList
  rw [← Lib.size_eq] at hln
  have hpa := rparse_q (s.extract 0 o) (qa s.data.toList) hda (by omega)
  rw [show errZ (qa s.data.toList) = 0 by unfold errZ; rw [ha]; rfl] at hpa
  have hpb := rnparse_q (s.extract (o + 1) s.size) (qb s.data.toList) hdb (by omega)
  have hlb : (dg B9 (pNum (qb s.data.toList))).length ≤ 256 := Nat.le_trans pnum_len9 (by omega)
  rw [show pErr (qb s.data.toList) = 0 by unfold pErr; rw [hb]; rfl] at hpb
  have hdiv : divI (pNum (qb s.data.toList) : Int) = 0 := by unfold divI; rw [if_neg (by omega)]
  clear h0
  have htb : (s.toList != s.toList) = false := by simp
  have HTX := Lib.hid htx
  clear htx
  generalize zNum (qa s.data.toList) = x at *
  generalize pNum (qb s.data.toList) = y at *
  generalize hba : s.extract 0 o = ba at *
  generalize hbb : s.extract (o + 1) s.size = bb at *
  have HMF := Lib.hid (fun W v (h : RefV W v y) => (rmake_n false h).mono (R' := fun e w' => ∃ v, e = .returned v ∧ RNumB w' v (y : Int) 256 ∧ New W w') (fun e w' hh => hh.elim fun v hh => ⟨v, hh.1, ⟨by have := hh.2.1; simpa [sgn] using this, by rw [Int.natAbs_natCast]; exact hlb⟩, hh.2.2⟩))
  have HMK := Lib.hid (fun W u v (h : RNumB W u x 256) (h2 : RNumB W v (y : Int) 256) => rqmake_n h h2 (by omega))
  rw [hdiv] at HMK
  clear hdiv hlb
  have HBA := Lib.hid hba
  have HBB := Lib.hid hbb
  have HPB := Lib.hid hpb
  have HPA := Lib.hid hpa
  have HNO := Lib.hid hno
  have B0 := Lib.hid (show RPB w (w.alloc (.cells #[.bool false, .slice none 0 0, .bool false, .slice none 0 0] RRat)) w.heap.size from ⟨(New.refl w).alloc _, Box.last _ _ _, Nat.le_refl _⟩)
  clear hda hpa hno hba hln ha hpb hbb hdb
  go_enter Tryz.func103, Tryz.ntmps103
  go_wp2
  generalize hW : w.alloc (.cells #[.bool false, .slice none 0 0, .bool false, .slice none 0 0] RRat) = W at *
  clear hW
  go_loopw [4] (fun v4 w' => ∃ i : Nat, v4 = .int .i64 (i : Int) ∧ i ≤ o ∧ w' = W) (fun v4 _ => o - (intOf v4).toNat)
  case atStart => exact ⟨0, rfl, Nat.zero_le _, rfl⟩
  case round =>
    obtain ⟨i, rfl, hi, rfl⟩ := hrel
    by_cases hlt : i < o
    · have hsz : i < s.size := by omega
      have hne := HNO.out i hsz hlt
      go_wp2
      go_roundw
      case rel => exact ⟨i + 1, by go_num, by omega, by first | rfl | trivial⟩
      case measure => simp [intOf]; omega
    · obtain rfl : o = i := by omega
      clear hlt hi HNO
      have hb1 := HBA.out
      have hb2 := HBB.out
      go_wp2_with fail
      refine (HPA.out _).mono ?_
      rintro e w1 ⟨v1, rfl, hv, hn⟩
      obtain ⟨A1, l1, c1, rfl, -⟩ := hv.form
      generalize decide (x < 0) = b1 at *
      have hnn := hn.alloc (.cells #[.bool b1, .slice A1 l1 c1] RNum)
      have B1 := Lib.hid (B0.out.new hnn)
      have T1 := Lib.hid (Box.last w1 #[.bool b1, .slice A1 l1 c1] RNum)
      have X1 := Lib.hid (hv.new ((New.refl w1).alloc (.cells #[.bool b1, .slice A1 l1 c1] RNum)))
      clear hn hnn hv B0 HPA
      go_wp2_with fail
      refine (HPB.out _).mono ?_
      rintro e w2 ⟨v2, rfl, hv, hn⟩
      obtain ⟨A2, l2, c2, rfl⟩ := hv.form
      have hnn := hn.alloc (.cells #[.slice A2 l2 c2] RNat)
      have B2 := Lib.hid (B1.out.new hnn)
      have T2 := Lib.hid (Box.last w2 #[.slice A2 l2 c2] RNat)
      have X2 := Lib.hid (hv.new ((New.refl w2).alloc (.cells #[.slice A2 l2 c2] RNat)))
      replace T1 := Lib.hid (T1.out.new hnn)
      replace X1 := Lib.hid (X1.out.new hnn)
      clear hn hnn hv B1 HPB
      go_wp2
      generalize hV : w2.alloc (.cells #[.slice A2 l2 c2] RNat) = V at *
      generalize w1.heap.size = p5 at *
      generalize w2.heap.size = p7 at *
      clear hV
      refine wp_region_rel (by kernel_rfl) (VL [(8, fun ww vv => ∃ P, vv = .pointer (some ⟨P, 0, none⟩) ∧ Box ww P #[.bool false, .slice none 0 0, .bool false, .slice none 0 0] RRat ∧ w.heap.size < P), (47, fun ww vv => ∃ r, vv = .tuple #[r, .int .i64 (0)] ∧ RRatB ww r (mkN x (y : Int)) (mkD x (y : Int)) 256), (48, fun ww vv => vv = .agg #[.bool b1, .slice A1 l1 c1]), (49, fun ww vv => vv = .agg #[.slice A2 l2 c2]), (50, fun ww vv => RNumB ww vv (y : Int) 256), (51, fun ww vv => ∃ r, vv = .tuple #[r, .int .i64 (0)] ∧ RRatB ww r (mkN x (y : Int)) (mkD x (y : Int)) 256), (52, fun ww vv => RRatB ww vv (mkN x (y : Int)) (mkD x (y : Int)) 256), (53, fun ww vv => vv = .int .i64 0)]) (VL_mono ⟨fun _ _ _ h hn => h.elim fun P h => ⟨P, h.1, h.2.1.new hn, h.2.2⟩, fun _ _ _ h hn => h.elim fun r h => ⟨r, h.1, h.2.new hn⟩, fun _ _ _ h _ => h, fun _ _ _ h _ => h, fun _ _ _ h hn => RNumB.new h hn, fun _ _ _ h hn => h.elim fun r h => ⟨r, h.1, h.2.new hn⟩, fun _ _ _ h hn => RRatB.new h hn, fun _ _ _ h _ => h, trivial⟩) _ _ [false, false, false, false, false, false, false, false, true, false, false, false, false, false, false, false, false, false, false, false, false, false, false, false, false, false, false, false, false, false, false, false, false, false, false, false, false, false, false, false, false, false, false, false, false, false, false, true, true, true, true, true, true, true, false, false, false, false, false, false, false, false, false, false, false, false, false, false] [true, true, true, true, true, true, true, true, false, false] [false, false, false, false, false, false, true, false, false, false] [[], [], [49], [48, 50], [51], [47], [47], [], [], []] [8, 47, 48, 49, 50, 51, 52, 53] 2 (by kernel_rfl) rfl rfl (by kernel_rfl) (by kernel_rfl) (fun _ _ _ _ _ h => h) ⟨?o0, ?o1, ?o2, ?o3, ?o4, ?o5, ?o6, ?o7, trivial⟩ ?last
      case o0 =>
        intro s w' K hn hk hK
        clear hk
        simp only [fr, fill, Nat.reduceAdd, Act.put, List.setIfInBounds_toArray, List.set_cons_zero, List.set_cons_succ] at hK ⊢
        have hc5 := T1.out.new hn
        obtain ⟨c50, c51⟩ := hc5.cells2
        clear hc5
        refine ⟨true, rfl, ?_⟩
        show Oper.wp _ _ _ _ _ _
        (first | go_big_op | go_simp)
        exact hK _ _ (New.refl _) rfl
      case o1 =>
        intro s w' K hn hk hK
        clear hk
        simp only [fr, fill, Nat.reduceAdd, Act.put, List.setIfInBounds_toArray, List.set_cons_zero, List.set_cons_succ] at hK ⊢
        have hc7 := (T2.out.new hn).cell 0
        refine ⟨true, rfl, ?_⟩
        show Oper.wp _ _ _ _ _ _
        (first | go_big_op | go_simp)
        exact hK _ _ (New.refl _) rfl
      case o2 =>
        intro s w' K hn hk hK
        have h49 : (s 49) = .agg #[.slice A2 l2 c2] := hk.here
        clear hk
        simp only [fr, fill, Nat.reduceAdd, Act.put, List.setIfInBounds_toArray, List.set_cons_zero, List.set_cons_succ] at hK ⊢
        generalize s 49 = x49 at *
        subst h49
        refine ⟨true, rfl, ?_⟩
        show Oper.wp _ _ _ _ _ _
        (first | go_big_op | go_simp)
        refine (HMF.out _ _ (X2.out.new hn)).mono ?_
        rintro e' w'' ⟨v', rfl, hv', hn'⟩
        exact hK _ _ hn' hv'
      case o3 =>
        intro s w' K hn hk hK
        have h48 : (s 48) = .agg #[.bool b1, .slice A1 l1 c1] := hk.here
        have h50 : RNumB w' (s 50) (y : Int) 256 := hk.next.here
        clear hk
        simp only [fr, fill, Nat.reduceAdd, Act.put, List.setIfInBounds_toArray, List.set_cons_zero, List.set_cons_succ] at hK ⊢
        generalize s 48 = x48 at *
        generalize s 50 = x50 at *
        subst h48
        refine ⟨true, rfl, ?_⟩
        show Oper.wp _ _ _ _ _ _
        (first | go_big_op | go_simp)
        refine (HMK.out _ _ _ (X1.out.new hn) h50).mono ?_
        rintro e' w'' ⟨r, rfl, hv', hn'⟩
        exact hK _ _ hn' ⟨_, rfl, hv'⟩
      case o4 =>
        intro s w' K hn hk hK
        have h51 : ∃ r, (s 51) = .tuple #[r, .int .i64 (0)] ∧ RRatB w' r (mkN x (y : Int)) (mkD x (y : Int)) 256 := hk.here
        clear hk
        simp only [fr, fill, Nat.reduceAdd, Act.put, List.setIfInBounds_toArray, List.set_cons_zero, List.set_cons_succ] at hK ⊢
        generalize s 51 = x51 at *
        obtain ⟨r51, rfl, h51⟩ := h51
        refine ⟨true, rfl, ?_⟩
        show Oper.wp _ _ _ _ _ _
        (first | go_big_op | go_simp)
        exact hK _ _ (New.refl _) ⟨_, rfl, h51⟩
      case o5 =>
        intro s w' K hn hk hK
        have h47 : ∃ r, (s 47) = .tuple #[r, .int .i64 (0)] ∧ RRatB w' r (mkN x (y : Int)) (mkD x (y : Int)) 256 := hk.here
        clear hk
        simp only [fr, fill, Nat.reduceAdd, Act.put, List.setIfInBounds_toArray, List.set_cons_zero, List.set_cons_succ] at hK ⊢
        generalize s 47 = x47 at *
        obtain ⟨r47, rfl, h47⟩ := h47
        refine ⟨true, rfl, ?_⟩
        show Oper.wp _ _ _ _ _ _
        (first | go_big_op | go_simp)
        exact hK _ _ (New.refl _) h47
      case o6 =>
        intro s w' hn hk
        have h47 : ∃ r, (s 47) = .tuple #[r, .int .i64 (0)] ∧ RRatB w' r (mkN x (y : Int)) (mkD x (y : Int)) 256 := hk.here
        clear hk
        simp only [fr, fill, Nat.reduceAdd, Act.put, List.setIfInBounds_toArray, List.set_cons_zero, List.set_cons_succ]
        generalize s 47 = x47 at *
        obtain ⟨r47, rfl, h47⟩ := h47
        refine ⟨.int .i64 0, Or.inl ⟨rfl, fun W' => ?_⟩, rfl⟩
        first | rfl | go_simp
      case o7 =>
        intro s w' K hn hk hK
        clear hk
        simp only [fr, fill, Nat.reduceAdd, Act.put, List.setIfInBounds_toArray, List.set_cons_zero, List.set_cons_succ] at hK ⊢
        refine ⟨true, rfl, ?_⟩
        show Oper.wp _ _ _ _ _ _
        (first | go_big_op | go_simp)
        exact hK _ _ ((New.refl _).alloc _) ⟨_, rfl, Box.last _ _ _, by have := B2.out.br.lt; have := hn.le; omega⟩
      case last =>
        intro s V0 hn hk
        have h8 : ∃ P, (s 8) = .pointer (some ⟨P, 0, none⟩) ∧ Box V0 P #[.bool false, .slice none 0 0, .bool false, .slice none 0 0] RRat ∧ w.heap.size < P := hk.here
        have h47 : ∃ r, (s 47) = .tuple #[r, .int .i64 (0)] ∧ RRatB V0 r (mkN x (y : Int)) (mkD x (y : Int)) 256 := hk.next.here
        have h48 : (s 48) = .agg #[.bool b1, .slice A1 l1 c1] := hk.next.next.here
        have h49 : (s 49) = .agg #[.slice A2 l2 c2] := hk.next.next.next.here
        have h50 : RNumB V0 (s 50) (y : Int) 256 := hk.next.next.next.next.here
        have h51 : ∃ r, (s 51) = .tuple #[r, .int .i64 (0)] ∧ RRatB V0 r (mkN x (y : Int)) (mkD x (y : Int)) 256 := hk.next.next.next.next.next.here
        have h52 : RRatB V0 (s 52) (mkN x (y : Int)) (mkD x (y : Int)) 256 := hk.next.next.next.next.next.next.here
        have h53 : (s 53) = .int .i64 0 := hk.next.next.next.next.next.next.next.here
        clear hk
        simp only [fr, fill, Nat.reduceAdd, Act.put, List.setIfInBounds_toArray, List.set_cons_zero, List.set_cons_succ]
        generalize s 8 = x8 at *
        generalize s 47 = x47 at *
        generalize s 48 = x48 at *
        generalize s 49 = x49 at *
        generalize s 50 = x50 at *
        generalize s 51 = x51 at *
        generalize s 52 = x52 at *
        generalize s 53 = x53 at *
        obtain ⟨P, rfl, hbx, hP⟩ := h8
        obtain ⟨r47, rfl, h47⟩ := h47
        subst h48
        subst h49
        obtain ⟨r51, rfl, h51⟩ := h51
        subst h53
        refine wpAny_chain [8, 9] _ _ _ (by kernel_rfl) ?_
        change wpList _ _ _ [_, _] _ _
        have hB := B2.out.new hn
        obtain ⟨A6, l6, c6, A7, l7, c7, rfl⟩ := RRatB.shape h52
        generalize decide (mkN x (y : Int) < 0) = b6 at *
        generalize decide (mkD x (y : Int) < 0) = b7 at *
        obtain ⟨k0, k1, k2, k3⟩ := hbx.cells4
        have g0 := hbx.frozen 0
        have g1 := hbx.frozen 1
        have g2 := hbx.frozen 2
        have g3 := hbx.frozen 3
        have st := RQs.mk2 hB hbx hP h52
        have ST := Lib.hid st
        clear st hB h50 h51 h47 h52 hn hP hbx
        refine wpList_plain rfl fun K8 hK8 => ?_
        go_simp
        refine hK8 _ _ ?_
        clear hK8
        refine wpList_plain rfl fun K9 hK9 => ?_
        go_simp
        refine hK9 _ _ ?_
        clear hK9
        change Exit.then _ _ .normal _ _
        simp only [Exit.then]
        refine ST.out.name2 ?_
        clear ST
        rintro V2 hV P2 hP2 st
        rw [← hV, ← hP2]
        clear hV hP2 k0 k1 k2 k3 g0 g1 g2 g3
        obtain ⟨z0, z1, z2, z3⟩ := st.bx.cells4
        have ST := Lib.hid st
        clear st
        go_wp2_with fail
        refine (rqtext_w _ ST.out.rv (by omega) (by omega) HTX.out).mono ?_
        rintro e w6 ⟨rfl, hn⟩
        clear z0 z1 z2 z3
        have st := ST.out.new hn
        obtain ⟨z0, z1, z2, z3⟩ := st.bx.cells4
        have hFR := st.pb.br
        have c20 := hFR.cells4.1
        have c21 := hFR.cells4.2.1
        have c22 := hFR.cells4.2.2.1
        have c23 := hFR.cells4.2.2.2
        have f20 := hFR.frozen 0
        have f21 := hFR.frozen 1
        have f22 := hFR.frozen 2
        have f23 := hFR.frozen 3
        have GN := Lib.hid (st.pb.done (.bool b6) (.slice A6 l6 c6) (.bool b7) (.slice A7 l7 c7))
        obtain ⟨y0, y1, y2, y3⟩ := (hFR.lay4 (.bool b6) (.slice A6 l6 c6) (.bool b7) (.slice A7 l7 c7)).cells4
        clear hFR
        clear st ST hn
        go_wp2
        refine bodyPost_ret (v := .tuple #[.agg #[.bool b6, .slice A6 l6 c6, .bool b7, .slice A7 l7 c7], .int .i64 0]) (by simp [results, Tryz.results103, go_sem, y0, y1, y2, y3]) rfl ⟨_, rfl, ⟨_, _, _, _, _, _, _, _, rfl⟩, GN.out⟩
set_option maxRecDepth 1000000 in
set_option maxHeartbeats 8000000 in
theorem rp_E (s : ByteArray) (hs : s.size ≤ 256) (hq : qi s.data.toList = true) (ha : isZ (qa s.data.toList) = true) (hb : isNum (qb s.data.toList) = true) (h0 : pNum (qb s.data.toList) ≠ 0) (htx : ratS (mkN (zNum (qa s.data.toList)) (pNum (qb s.data.toList) : Int)) (mkD (zNum (qa s.data.toList)) (pNum (qb s.data.toList) : Int)) ≠ s) :
    Calls Tryz.prog 103 #[.string s] w fun e w' => ∃ v, e = .returned (.tuple #[v, .int .i64 10]) ∧ ShR v ∧ New w w' := by
  obtain ⟨o, ho, hda, hno, hor⟩ := slash_at s
  rw [hq] at hor
  obtain ⟨hoz, h47, hdb⟩ : ∃ h : o < s.size, ((s[o]'h).toNat : Int) = 47 ∧ (s.extract (o + 1) s.size).data.toList = qb s.data.toList := by
    rcases hor with h | h
    · exact absurd h.1 (by decide)
    · exact h.2
  clear hor hq
  have hln := q_lens s.data.toList
  rw [← Lib.size_eq] at hln
  have hpa := rparse_q (s.extract 0 o) (qa s.data.toList) hda (by omega)
  rw [show errZ (qa s.data.toList) = 0 by unfold errZ; rw [ha]; rfl] at hpa
  have hpb := rnparse_q (s.extract (o + 1) s.size) (qb s.data.toList) hdb (by omega)
  have hlb : (dg B9 (pNum (qb s.data.toList))).length ≤ 256 := Nat.le_trans pnum_len9 (by omega)
  rw [show pErr (qb s.data.toList) = 0 by unfold pErr; rw [hb]; rfl] at hpb
  have hdiv : divI (pNum (qb s.data.toList) : Int) = 0 := by unfold divI; rw [if_neg (by omega)]
  clear h0
  obtain ⟨tx, htx0⟩ : ∃ tx, tx = ratS (mkN (zNum (qa s.data.toList)) (pNum (qb s.data.toList) : Int)) (mkD (zNum (qa s.data.toList)) (pNum (qb s.data.toList) : Int)) := ⟨_, rfl⟩
  rw [← htx0] at htx
  have htb : (tx.toList != s.toList) = true := by
    rw [bne_iff_ne]
    intro e
    rw [Lib.toList_data, Lib.toList_data] at e
    exact htx (data_injY e)
  have htb2 : ¬ tx.toList = s.toList := by simpa using htb
  have htb3 : (tx.toList == s.toList) = false := by rw [beq_eq_false_iff_ne]; exact htb2
  have HTX := Lib.hid htx0.symm
  clear htx htx0
  generalize zNum (qa s.data.toList) = x at *
  generalize pNum (qb s.data.toList) = y at *
  generalize hba : s.extract 0 o = ba at *
  generalize hbb : s.extract (o + 1) s.size = bb at *
  have HMF := Lib.hid (fun W v (h : RefV W v y) => (rmake_n false h).mono (R' := fun e w' => ∃ v, e = .returned v ∧ RNumB w' v (y : Int) 256 ∧ New W w') (fun e w' hh => hh.elim fun v hh => ⟨v, hh.1, ⟨by have := hh.2.1; simpa [sgn] using this, by rw [Int.natAbs_natCast]; exact hlb⟩, hh.2.2⟩))
  have HMK := Lib.hid (fun W u v (h : RNumB W u x 256) (h2 : RNumB W v (y : Int) 256) => rqmake_n h h2 (by omega))
  rw [hdiv] at HMK
  clear hdiv hlb
  have HBA := Lib.hid hba
  have HBB := Lib.hid hbb
  have HPB := Lib.hid hpb
  have HPA := Lib.hid hpa
  have HNO := Lib.hid hno
  have B0 := Lib.hid (show RPB w (w.alloc (.cells #[.bool false, .slice none 0 0, .bool false, .slice none 0 0] RRat)) w.heap.size from ⟨(New.refl w).alloc _, Box.last _ _ _, Nat.le_refl _⟩)
  clear hda hpa hno hba hln ha hpb hbb hdb
  go_enter Tryz.func103, Tryz.ntmps103
  go_wp2
  generalize hW : w.alloc (.cells #[.bool false, .slice none 0 0, .bool false, .slice none 0 0] RRat) = W at *
  clear hW
  go_loopw [4] (fun v4 w' => ∃ i : Nat, v4 = .int .i64 (i : Int) ∧ i ≤ o ∧ w' = W) (fun v4 _ => o - (intOf v4).toNat)
  case atStart => exact ⟨0, rfl, Nat.zero_le _, rfl⟩
  case round =>
    obtain ⟨i, rfl, hi, rfl⟩ := hrel
    by_cases hlt : i < o
    · have hsz : i < s.size := by omega
      have hne := HNO.out i hsz hlt
      go_wp2
      go_roundw
      case rel => exact ⟨i + 1, by go_num, by omega, by first | rfl | trivial⟩
      case measure => simp [intOf]; omega
    · obtain rfl : o = i := by omega
      clear hlt hi HNO
      have hb1 := HBA.out
      have hb2 := HBB.out
      go_wp2_with fail
      refine (HPA.out _).mono ?_
      rintro e w1 ⟨v1, rfl, hv, hn⟩
      obtain ⟨A1, l1, c1, rfl, -⟩ := hv.form
      generalize decide (x < 0) = b1 at *
      have hnn := hn.alloc (.cells #[.bool b1, .slice A1 l1 c1] RNum)
      have B1 := Lib.hid (B0.out.new hnn)
      have T1 := Lib.hid (Box.last w1 #[.bool b1, .slice A1 l1 c1] RNum)
      have X1 := Lib.hid (hv.new ((New.refl w1).alloc (.cells #[.bool b1, .slice A1 l1 c1] RNum)))
      clear hn hnn hv B0 HPA
      go_wp2_with fail
      refine (HPB.out _).mono ?_
      rintro e w2 ⟨v2, rfl, hv, hn⟩
      obtain ⟨A2, l2, c2, rfl⟩ := hv.form
      have hnn := hn.alloc (.cells #[.slice A2 l2 c2] RNat)
      have B2 := Lib.hid (B1.out.new hnn)
      have T2 := Lib.hid (Box.last w2 #[.slice A2 l2 c2] RNat)
      have X2 := Lib.hid (hv.new ((New.refl w2).alloc (.cells #[.slice A2 l2 c2] RNat)))
      replace T1 := Lib.hid (T1.out.new hnn)
      replace X1 := Lib.hid (X1.out.new hnn)
      clear hn hnn hv B1 HPB
      go_wp2
      generalize hV : w2.alloc (.cells #[.slice A2 l2 c2] RNat) = V at *
      generalize w1.heap.size = p5 at *
      generalize w2.heap.size = p7 at *
      clear hV
      refine wp_region_rel (by kernel_rfl) (VL [(8, fun ww vv => ∃ P, vv = .pointer (some ⟨P, 0, none⟩) ∧ Box ww P #[.bool false, .slice none 0 0, .bool false, .slice none 0 0] RRat ∧ w.heap.size < P), (47, fun ww vv => ∃ r, vv = .tuple #[r, .int .i64 (0)] ∧ RRatB ww r (mkN x (y : Int)) (mkD x (y : Int)) 256), (48, fun ww vv => vv = .agg #[.bool b1, .slice A1 l1 c1]), (49, fun ww vv => vv = .agg #[.slice A2 l2 c2]), (50, fun ww vv => RNumB ww vv (y : Int) 256), (51, fun ww vv => ∃ r, vv = .tuple #[r, .int .i64 (0)] ∧ RRatB ww r (mkN x (y : Int)) (mkD x (y : Int)) 256), (52, fun ww vv => RRatB ww vv (mkN x (y : Int)) (mkD x (y : Int)) 256), (53, fun ww vv => vv = .int .i64 0)]) (VL_mono ⟨fun _ _ _ h hn => h.elim fun P h => ⟨P, h.1, h.2.1.new hn, h.2.2⟩, fun _ _ _ h hn => h.elim fun r h => ⟨r, h.1, h.2.new hn⟩, fun _ _ _ h _ => h, fun _ _ _ h _ => h, fun _ _ _ h hn => RNumB.new h hn, fun _ _ _ h hn => h.elim fun r h => ⟨r, h.1, h.2.new hn⟩, fun _ _ _ h hn => RRatB.new h hn, fun _ _ _ h _ => h, trivial⟩) _ _ [false, false, false, false, false, false, false, false, true, false, false, false, false, false, false, false, false, false, false, false, false, false, false, false, false, false, false, false, false, false, false, false, false, false, false, false, false, false, false, false, false, false, false, false, false, false, false, true, true, true, true, true, true, true, false, false, false, false, false, false, false, false, false, false, false, false, false, false] [true, true, true, true, true, true, true, true, false, false] [false, false, false, false, false, false, true, false, false, false] [[], [], [49], [48, 50], [51], [47], [47], [], [], []] [8, 47, 48, 49, 50, 51, 52, 53] 2 (by kernel_rfl) rfl rfl (by kernel_rfl) (by kernel_rfl) (fun _ _ _ _ _ h => h) ⟨?o0, ?o1, ?o2, ?o3, ?o4, ?o5, ?o6, ?o7, trivial⟩ ?last
      case o0 =>
        intro s w' K hn hk hK
        clear hk
        simp only [fr, fill, Nat.reduceAdd, Act.put, List.setIfInBounds_toArray, List.set_cons_zero, List.set_cons_succ] at hK ⊢
        have hc5 := T1.out.new hn
        obtain ⟨c50, c51⟩ := hc5.cells2
        clear hc5
        refine ⟨true, rfl, ?_⟩
        show Oper.wp _ _ _ _ _ _
        (first | go_big_op | go_simp)
        exact hK _ _ (New.refl _) rfl
      case o1 =>
        intro s w' K hn hk hK
        clear hk
        simp only [fr, fill, Nat.reduceAdd, Act.put, List.setIfInBounds_toArray, List.set_cons_zero, List.set_cons_succ] at hK ⊢
        have hc7 := (T2.out.new hn).cell 0
        refine ⟨true, rfl, ?_⟩
        show Oper.wp _ _ _ _ _ _
        (first | go_big_op | go_simp)
        exact hK _ _ (New.refl _) rfl
      case o2 =>
        intro s w' K hn hk hK
        have h49 : (s 49) = .agg #[.slice A2 l2 c2] := hk.here
        clear hk
        simp only [fr, fill, Nat.reduceAdd, Act.put, List.setIfInBounds_toArray, List.set_cons_zero, List.set_cons_succ] at hK ⊢
        generalize s 49 = x49 at *
        subst h49
        refine ⟨true, rfl, ?_⟩
        show Oper.wp _ _ _ _ _ _
        (first | go_big_op | go_simp)
        refine (HMF.out _ _ (X2.out.new hn)).mono ?_
        rintro e' w'' ⟨v', rfl, hv', hn'⟩
        exact hK _ _ hn' hv'
      case o3 =>
        intro s w' K hn hk hK
        have h48 : (s 48) = .agg #[.bool b1, .slice A1 l1 c1] := hk.here
        have h50 : RNumB w' (s 50) (y : Int) 256 := hk.next.here
        clear hk
        simp only [fr, fill, Nat.reduceAdd, Act.put, List.setIfInBounds_toArray, List.set_cons_zero, List.set_cons_succ] at hK ⊢
        generalize s 48 = x48 at *
        generalize s 50 = x50 at *
        subst h48
        refine ⟨true, rfl, ?_⟩
        show Oper.wp _ _ _ _ _ _
        (first | go_big_op | go_simp)
        refine (HMK.out _ _ _ (X1.out.new hn) h50).mono ?_
        rintro e' w'' ⟨r, rfl, hv', hn'⟩
        exact hK _ _ hn' ⟨_, rfl, hv'⟩
      case o4 =>
        intro s w' K hn hk hK
        have h51 : ∃ r, (s 51) = .tuple #[r, .int .i64 (0)] ∧ RRatB w' r (mkN x (y : Int)) (mkD x (y : Int)) 256 := hk.here
        clear hk
        simp only [fr, fill, Nat.reduceAdd, Act.put, List.setIfInBounds_toArray, List.set_cons_zero, List.set_cons_succ] at hK ⊢
        generalize s 51 = x51 at *
        obtain ⟨r51, rfl, h51⟩ := h51
        refine ⟨true, rfl, ?_⟩
        show Oper.wp _ _ _ _ _ _
        (first | go_big_op | go_simp)
        exact hK _ _ (New.refl _) ⟨_, rfl, h51⟩
      case o5 =>
        intro s w' K hn hk hK
        have h47 : ∃ r, (s 47) = .tuple #[r, .int .i64 (0)] ∧ RRatB w' r (mkN x (y : Int)) (mkD x (y : Int)) 256 := hk.here
        clear hk
        simp only [fr, fill, Nat.reduceAdd, Act.put, List.setIfInBounds_toArray, List.set_cons_zero, List.set_cons_succ] at hK ⊢
        generalize s 47 = x47 at *
        obtain ⟨r47, rfl, h47⟩ := h47
        refine ⟨true, rfl, ?_⟩
        show Oper.wp _ _ _ _ _ _
        (first | go_big_op | go_simp)
        exact hK _ _ (New.refl _) h47
      case o6 =>
        intro s w' hn hk
        have h47 : ∃ r, (s 47) = .tuple #[r, .int .i64 (0)] ∧ RRatB w' r (mkN x (y : Int)) (mkD x (y : Int)) 256 := hk.here
        clear hk
        simp only [fr, fill, Nat.reduceAdd, Act.put, List.setIfInBounds_toArray, List.set_cons_zero, List.set_cons_succ]
        generalize s 47 = x47 at *
        obtain ⟨r47, rfl, h47⟩ := h47
        refine ⟨.int .i64 0, Or.inl ⟨rfl, fun W' => ?_⟩, rfl⟩
        first | rfl | go_simp
      case o7 =>
        intro s w' K hn hk hK
        clear hk
        simp only [fr, fill, Nat.reduceAdd, Act.put, List.setIfInBounds_toArray, List.set_cons_zero, List.set_cons_succ] at hK ⊢
        refine ⟨true, rfl, ?_⟩
        show Oper.wp _ _ _ _ _ _
        (first | go_big_op | go_simp)
        exact hK _ _ ((New.refl _).alloc _) ⟨_, rfl, Box.last _ _ _, by have := B2.out.br.lt; have := hn.le; omega⟩
      case last =>
        intro s V0 hn hk
        have h8 : ∃ P, (s 8) = .pointer (some ⟨P, 0, none⟩) ∧ Box V0 P #[.bool false, .slice none 0 0, .bool false, .slice none 0 0] RRat ∧ w.heap.size < P := hk.here
        have h47 : ∃ r, (s 47) = .tuple #[r, .int .i64 (0)] ∧ RRatB V0 r (mkN x (y : Int)) (mkD x (y : Int)) 256 := hk.next.here
        have h48 : (s 48) = .agg #[.bool b1, .slice A1 l1 c1] := hk.next.next.here
        have h49 : (s 49) = .agg #[.slice A2 l2 c2] := hk.next.next.next.here
        have h50 : RNumB V0 (s 50) (y : Int) 256 := hk.next.next.next.next.here
        have h51 : ∃ r, (s 51) = .tuple #[r, .int .i64 (0)] ∧ RRatB V0 r (mkN x (y : Int)) (mkD x (y : Int)) 256 := hk.next.next.next.next.next.here
        have h52 : RRatB V0 (s 52) (mkN x (y : Int)) (mkD x (y : Int)) 256 := hk.next.next.next.next.next.next.here
        have h53 : (s 53) = .int .i64 0 := hk.next.next.next.next.next.next.next.here
        clear hk
        simp only [fr, fill, Nat.reduceAdd, Act.put, List.setIfInBounds_toArray, List.set_cons_zero, List.set_cons_succ]
        generalize s 8 = x8 at *
        generalize s 47 = x47 at *
        generalize s 48 = x48 at *
        generalize s 49 = x49 at *
        generalize s 50 = x50 at *
        generalize s 51 = x51 at *
        generalize s 52 = x52 at *
        generalize s 53 = x53 at *
        obtain ⟨P, rfl, hbx, hP⟩ := h8
        obtain ⟨r47, rfl, h47⟩ := h47
        subst h48
        subst h49
        obtain ⟨r51, rfl, h51⟩ := h51
        subst h53
        refine wpAny_chain [8, 9] _ _ _ (by kernel_rfl) ?_
        change wpList _ _ _ [_, _] _ _
        have hB := B2.out.new hn
        obtain ⟨A6, l6, c6, A7, l7, c7, rfl⟩ := RRatB.shape h52
        generalize decide (mkN x (y : Int) < 0) = b6 at *
        generalize decide (mkD x (y : Int) < 0) = b7 at *
        obtain ⟨k0, k1, k2, k3⟩ := hbx.cells4
        have g0 := hbx.frozen 0
        have g1 := hbx.frozen 1
        have g2 := hbx.frozen 2
        have g3 := hbx.frozen 3
        have st := RQs.mk2 hB hbx hP h52
        have ST := Lib.hid st
        clear st hB h50 h51 h47 h52 hn hP hbx
        refine wpList_plain rfl fun K8 hK8 => ?_
        go_simp
        refine hK8 _ _ ?_
        clear hK8
        refine wpList_plain rfl fun K9 hK9 => ?_
        go_simp
        refine hK9 _ _ ?_
        clear hK9
        change Exit.then _ _ .normal _ _
        simp only [Exit.then]
        refine ST.out.name2 ?_
        clear ST
        rintro V2 hV P2 hP2 st
        rw [← hV, ← hP2]
        clear hV hP2 k0 k1 k2 k3 g0 g1 g2 g3
        obtain ⟨z0, z1, z2, z3⟩ := st.bx.cells4
        have ST := Lib.hid st
        clear st
        go_wp2_with fail
        refine (rqtext_w _ ST.out.rv (by omega) (by omega) HTX.out).mono ?_
        rintro e w6 ⟨rfl, hn⟩
        clear z0 z1 z2 z3
        have st := ST.out.new hn
        clear hn ST
        have hFR := st.pb.br
        have c20 := hFR.cells4.1
        have c21 := hFR.cells4.2.1
        have c22 := hFR.cells4.2.2.1
        have c23 := hFR.cells4.2.2.2
        have f20 := hFR.frozen 0
        have f21 := hFR.frozen 1
        have f22 := hFR.frozen 2
        have f23 := hFR.frozen 3
        have GN := Lib.hid (st.pb.done (.bool false) (.slice none 0 0) (.bool false) (.slice none 0 0))
        obtain ⟨y0, y1, y2, y3⟩ := (hFR.lay4 (.bool false) (.slice none 0 0) (.bool false) (.slice none 0 0)).cells4
        clear hFR
        go_wp2
        refine bodyPost_ret (v := .tuple #[.agg #[.bool false, .slice none 0 0, .bool false, .slice none 0 0], .int .i64 10]) (by simp [results, Tryz.results103, go_sem, y0, y1, y2, y3]) rfl ⟨_, rfl, ⟨_, _, _, _, _, _, _, _, rfl⟩, GN.out⟩
theorem rqparse_n (s : ByteArray) (hs : s.size ≤ 256) :
    Calls Tryz.prog 103 #[.string s] w fun e w' => ∃ v, e = .returned (.tuple #[v, .int .i64 (errQ s.data.toList)]) ∧ ShR v ∧ New w w' := by
  have hno : okQ s.data.toList = false → errQ s.data.toList = 10 := fun h => by unfold errQ; rw [h]; rfl
  have hyes : okQ s.data.toList = true → errQ s.data.toList = 0 := fun h => by unfold errQ; rw [h]; rfl
  cases ha : isZ (qa s.data.toList) with
  | false =>
    rw [hno (by unfold okQ; rw [ha]; rfl)]
    cases hq : qi s.data.toList with
    | false => exact rp_A0 s hs hq ha
    | true => exact rp_A1 s hs hq ha
  | true =>
    cases hq : qi s.data.toList with
    | false =>
      rw [hyes (by unfold okQ; rw [ha, hq]; rfl)]
      exact rp_B s hs hq ha
    | true =>
      have hden : qden s.data.toList = (pNum (qb s.data.toList) : Int) := by unfold qden; rw [hq]; rfl
      have hokd : okQ s.data.toList = (isNum (qb s.data.toList) && decide (pNum (qb s.data.toList) ≠ 0) && (ratS (mkN (zNum (qa s.data.toList)) (qden s.data.toList)) (mkD (zNum (qa s.data.toList)) (qden s.data.toList))).toList == s.data.toList) := by
        unfold okQ; rw [ha, hq]; rfl
      cases hb : isNum (qb s.data.toList) with
      | false =>
        rw [hno (by rw [hokd, hb]; rfl)]
        exact rp_C s hs hq ha hb
      | true =>
        by_cases h0 : pNum (qb s.data.toList) = 0
        · rw [hno (by rw [hokd, h0]; simp)]
          exact rp_D0 s hs hq ha hb h0
        · by_cases htx : ratS (mkN (zNum (qa s.data.toList)) (pNum (qb s.data.toList) : Int)) (mkD (zNum (qa s.data.toList)) (pNum (qb s.data.toList) : Int)) = s
          · rw [hyes (by rw [hokd, hb, hden, htx, Lib.toList_data]; simp [h0])]
            exact rp_D s hs hq ha hb h0 htx
          · rw [hno (by
              rw [hokd, hden]
              simp only [Bool.and_eq_false_iff]
              right
              rw [beq_eq_false_iff_ne]
              intro e
              rw [Lib.toList_data] at e
              exact htx (data_injY e))]
            exact rp_E s hs hq ha hb h0 htx
end
end Go.Proofs.YtkjlmibleoecgaaGreatDoor
