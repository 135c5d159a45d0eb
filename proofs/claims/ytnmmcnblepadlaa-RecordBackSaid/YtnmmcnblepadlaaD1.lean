/- The closures of record.first, walked: take and get. -/
import Derived.Test.YtnmmcnblepadlaaR4
import Derived.Lib.Strings
namespace Go.Proofs.Ytnmmcnblepadlaa
set_option linter.unusedSimpArgs false
set_option linter.unusedVariables false
open Go.RowKit

def mkS (l : List UInt8) : ByteArray := ⟨l.toArray⟩
theorem mkS_data (l : List UInt8) : (mkS l).data.toList = l := rfl
theorem mkS_size (l : List UInt8) : (mkS l).size = l.length := size_mk l
theorem mkS_of (s : ByteArray) : mkS s.data.toList = s := data_inj rfl
theorem mkS_take (l : List UInt8) (n : Nat) : (mkS l).extract 0 n = mkS (l.take n) := data_inj (by rw [Lib.extract_data, mkS_data, mkS_data]; simp)
theorem mkS_drop (l : List UInt8) (n : Nat) : (mkS l).extract n (mkS l).size = mkS (l.drop n) := data_inj (by
  rw [Lib.extract_data, mkS_data, mkS_data, mkS_size]
  exact List.take_of_length_le (by rw [List.length_drop]; exact Nat.le_refl _))

set_option maxHeartbeats 1000000 in
theorem take_le (s : ByteArray) (ok : Bool) (pr po n : Nat) (w : World) (hr : Box w pr #[.string s] 9) (hk : Box w po #[.bool ok] 4) (hn : n ≤ s.size) (hs : s.size ≤ 1000000) :
    Calls Try.prog 18 #[.int .i64 (n : Int), .pointer (some ⟨pr, 0, none⟩), .pointer (some ⟨po, 0, none⟩)] w fun e w' => e = .returned (.string (s.extract 0 n)) ∧ w.setCell ⟨pr, 0, none⟩ (.string (s.extract n s.size)) = w' := by
  have c1 := hr.cell 0
  have c2 := hk.cell 0
  have f1 := hr.frozen 0
  have f2 := hk.frozen 0
  simp at c1 c2
  go_enter Try.func18, Try.ntmps18
  go_wp2
  go_ret
  exact ⟨rfl, rfl⟩
set_option maxHeartbeats 1000000 in
theorem take_gt (s : ByteArray) (ok : Bool) (pr po n : Nat) (w : World) (hr : Box w pr #[.string s] 9) (hk : Box w po #[.bool ok] 4) (hn : s.size < n) (hs : s.size ≤ 1000000) (hne : pr ≠ po) :
    Calls Try.prog 18 #[.int .i64 (n : Int), .pointer (some ⟨pr, 0, none⟩), .pointer (some ⟨po, 0, none⟩)] w fun e w' => e = .returned (.string s) ∧ (w.setCell ⟨po, 0, none⟩ (.bool false)).setCell ⟨pr, 0, none⟩ (.string ByteArray.empty) = w' := by
  have c1 := hr.cell 0
  have c2 := hk.cell 0
  have f1 := hr.frozen 0
  have f2 := hk.frozen 0
  have hne2 : ¬ po = pr := fun e => hne e.symm
  simp at c1 c2
  go_enter Try.func18, Try.ntmps18
  go_wp2
  go_ret
  exact ⟨rfl, rfl⟩
/-- The closures' state: what is left, and whether all is well. -/
structure St (w : World) (pr po : Nat) (L : List UInt8) (ok : Bool) : Prop where
  r : Box w pr #[.string (mkS L)] 9
  o : Box w po #[.bool ok] 4
  len : L.length ≤ 1000000
theorem St.ne {w : World} {pr po : Nat} {L : List UInt8} {ok : Bool} (h : St w pr po L ok) : pr ≠ po := h.r.ne h.o (by decide)
theorem St.new {w w' : World} {pr po : Nat} {L : List UInt8} {ok : Bool} (h : St w pr po L ok) (hn : New w w') : St w' pr po L ok := ⟨h.r.new hn, h.o.new hn, h.len⟩
theorem St.but {w w' : World} {pr po : Nat} {L : List UInt8} {ok : Bool} {S : Nat → Prop} (h : St w pr po L ok) (hb : But S w w') (h1 : ¬ S pr) (h2 : ¬ S po) : St w' pr po L ok := ⟨hb.box h.r h1, hb.box h.o h2, h.len⟩
/-- The two cells. -/
def Two (pr po : Nat) (k : Nat) : Prop := k = pr ∨ k = po
theorem St.setR {w : World} {pr po : Nat} {L M : List UInt8} {ok : Bool} (h : St w pr po L ok) (hl : M.length ≤ 1000000) : St (w.setCell ⟨pr, 0, none⟩ (.string (mkS M))) pr po M ok := ⟨h.r.set 0 _, h.o.far (fun e => h.ne e.symm) _, hl⟩
theorem St.setO {w : World} {pr po : Nat} {L : List UInt8} {ok : Bool} (h : St w pr po L ok) (b : Bool) : St (w.setCell ⟨po, 0, none⟩ (.bool b)) pr po L b := ⟨h.r.far h.ne _, h.o.set 0 _, h.len⟩
def tkL (L : List UInt8) (ok : Bool) (n : Nat) : Bool := ok && decide (n ≤ L.length)
theorem take_c (n : Nat) (L : List UInt8) (ok : Bool) (pr po : Nat) (w : World) (h : St w pr po L ok) :
    Calls Try.prog 18 #[.int .i64 (n : Int), .pointer (some ⟨pr, 0, none⟩), .pointer (some ⟨po, 0, none⟩)] w fun e w' => e = .returned (.string (mkS (L.take n))) ∧ St w' pr po (L.drop n) (tkL L ok n) ∧ But (Two pr po) w w' := by
  have hl := h.len
  by_cases hn : n ≤ L.length
  · refine (take_le (mkS L) ok pr po n w h.r h.o (by rw [mkS_size]; exact hn) (by rw [mkS_size]; exact hl)).mono ?_
    rintro e w' ⟨rfl, rfl⟩
    rw [mkS_take, mkS_drop]
    unfold tkL
    rw [decide_eq_true hn, Bool.and_true]
    exact ⟨rfl, h.setR (by rw [List.length_drop]; omega), (But.refl _ w).set (.inl rfl) _⟩
  · refine (take_gt (mkS L) ok pr po n w h.r h.o (by rw [mkS_size]; omega) (by rw [mkS_size]; exact hl) h.ne).mono ?_
    rintro e w' ⟨rfl, rfl⟩
    unfold tkL
    rw [List.take_of_length_le (by omega), List.drop_of_length_le (by omega), decide_eq_false hn, Bool.and_false]
    exact ⟨rfl, (h.setO false).setR (M := []) (by simp), ((But.refl _ w).set (.inr rfl) _).set (.inl rfl) _⟩
/-- The cell that holds take. -/
def TakeB (w : World) (pr po p6 : Nat) : Prop := Box w p6 #[.func (.func 18) #[] #[.pointer (some ⟨pr, 0, none⟩), .pointer (some ⟨po, 0, none⟩)]] 45
def GetB (w : World) (p6 p7 : Nat) : Prop := Box w p7 #[.func (.func 19) #[] #[.pointer (some ⟨p6, 0, none⟩)]] 46
set_option maxHeartbeats 1000000 in
theorem get_some (c : UInt8) (L : List UInt8) (ok : Bool) (pr po p6 : Nat) (w : World) (h : St w pr po (c :: L) ok) (h6 : TakeB w pr po p6) :
    Calls Try.prog 19 #[.pointer (some ⟨p6, 0, none⟩)] w fun e w' => e = .returned (.int .i64 (c.toNat : Int)) ∧ St w' pr po L ok ∧ But (Two pr po) w w' := by
  have c6 := Box.cell h6 0
  simp at c6
  have HT := Lib.hid (take_c 1 (c :: L) ok pr po w h)
  clear h6
  go_enter Try.func19, Try.ntmps19
  go_wp2_with fail
  refine HT.out.mono ?_
  rintro e w' ⟨rfl, hst, hb⟩
  obtain ⟨x, hx⟩ : ∃ x, x = mkS (List.take 1 (c :: L)) := ⟨_, rfl⟩
  rw [← hx]
  have hx1 : x.size = 1 := by rw [hx, mkS_size]; simp
  have hx2 : x.toList.isEmpty = false := by
    rw [List.isEmpty_eq_false_iff]
    intro e
    have h3 := congrArg List.length e
    rw [Lib.toList_data, size_data, hx1] at h3
    cases h3
  have hc := c.toNat_lt
  have hx3 : x[0]'(by omega) = c := by subst hx; rfl
  have HST := Lib.hid hst
  have HB := Lib.hid hb
  have HX := Lib.hid hx
  clear hst hb hx
  go_wp2
  go_ret
  exact ⟨rfl, by simpa [tkL] using HST.out, HB.out⟩
set_option maxHeartbeats 1000000 in
theorem get_none (ok : Bool) (pr po p6 : Nat) (w : World) (h : St w pr po [] ok) (h6 : TakeB w pr po p6) :
    Calls Try.prog 19 #[.pointer (some ⟨p6, 0, none⟩)] w fun e w' => e = .returned (.int .i64 0) ∧ St w' pr po [] false ∧ But (Two pr po) w w' := by
  have c6 := Box.cell h6 0
  simp at c6
  have HT := Lib.hid (take_c 1 [] ok pr po w h)
  clear h6
  go_enter Try.func19, Try.ntmps19
  go_wp2_with fail
  refine HT.out.mono ?_
  rintro e w' ⟨rfl, hst, hb⟩
  have hx2 : (mkS []).toList.isEmpty = true := by rw [Lib.toList_data]; rfl
  have HST := Lib.hid hst
  have HB := Lib.hid hb
  clear hst hb
  go_wp2
  go_ret
  exact ⟨rfl, by simpa [tkL] using HST.out, HB.out⟩
def hdN (L : List UInt8) : Nat := (L.headD 0).toNat
theorem hdN_lt (L : List UInt8) : hdN L < 256 := (L.headD 0).toNat_lt
/-- get: the next byte. -/
theorem get_c (L : List UInt8) (ok : Bool) (pr po p6 : Nat) (w : World) (h : St w pr po L ok) (h6 : TakeB w pr po p6) :
    Calls Try.prog 19 #[.pointer (some ⟨p6, 0, none⟩)] w fun e w' => e = .returned (.int .i64 (hdN L : Int)) ∧ St w' pr po (L.drop 1) (tkL L ok 1) ∧ But (Two pr po) w w' := by
  cases L with
  | nil =>
    refine (get_none ok pr po p6 w h h6).mono ?_
    rintro e w' ⟨rfl, h1, h2⟩
    exact ⟨rfl, by simpa [tkL] using h1, h2⟩
  | cons c L =>
    refine (get_some c L ok pr po p6 w h h6).mono ?_
    rintro e w' ⟨rfl, h1, h2⟩
    exact ⟨rfl, by simpa [tkL] using h1, h2⟩
end Go.Proofs.Ytnmmcnblepadlaa
