/- The disk's Write, walked. -/
import Derived.Test.YtjeaejeikgkcaaaK6
namespace Go.Proofs.Ytjeaejeikgkcaaa
set_option linter.unusedSimpArgs false
set_option linter.unusedVariables false
open Go.RowKit

def wrE (d : DS) (i : Int) (s : ByteArray) : Int := if fitB i = false then 40 else if 256 < s.size then 41 else rawE d
def wrOk (d : DS) (i : Int) (s : ByteArray) : Prop := fitB i = true ∧ s.size ≤ 256
instance (d : DS) (i : Int) (s : ByteArray) : Decidable (wrOk d i s) := by unfold wrOk; infer_instance
def wrD (d : DS) (l : List Nat) (i : Int) (s : ByteArray) : DS :=
  if wrOk d i s then (if rawE d = 0 then { rawD d l with is := (rawD d l).is.set i.toNat s } else rawD d l) else d
def wrL (d : DS) (l : List Nat) (i : Int) (s : ByteArray) : List Nat :=
  if wrOk d i s then (if rawE d = 0 then (if i.toNat ∈ rawL d l then rawL d l else rawL d l ++ [i.toNat]) else rawL d l) else l
/-- Where blocks of one's own come from. -/
def Sprout (w : World) (F F' : Nat → Prop) : Prop := ∀ k, F' k → F k ∨ w.heap.size ≤ k
theorem Sprout.same (w : World) (F : Nat → Prop) : Sprout w F F := fun k h => .inl h
section
variable {w : World} {p : Nat} {d : DS} {c : Value} {F : Nat → Prop} {l : List Nat}
set_option maxHeartbeats 400000 in
theorem write_no (h : Dsk w p F d l) (i : Int) (s : ByteArray) (hi : fitB i = false) : Calls Try.prog 12 #[.pointer (some ⟨p, 0, none⟩), .int .i64 i, .string s] w fun e w' => e = .returned (.int .i64 40) ∧ w = w' := by
  have H := Lib.hid (fits_c i)
  rw [hi] at H
  go_enter Try.func12, Try.ntmps12
  go_wp2_with fail
  refine (H.out _).mono ?_
  rintro e w1 ⟨rfl, rfl⟩
  go_wp2
  go_ret
  exact ⟨rfl, rfl⟩
set_option maxHeartbeats 400000 in
theorem write_big (h : Dsk w p F d l) (i : Int) (s : ByteArray) (hi : fitB i = true) (hs : 256 < s.size) (hsz : s.size ≤ 9223372036854775807) : Calls Try.prog 12 #[.pointer (some ⟨p, 0, none⟩), .int .i64 i, .string s] w fun e w' => e = .returned (.int .i64 41) ∧ w = w' := by
  have H := Lib.hid (fits_c i)
  rw [hi] at H
  go_enter Try.func12, Try.ntmps12
  go_wp2_with fail
  refine (H.out _).mono ?_
  rintro e w1 ⟨rfl, rfl⟩
  go_wp2
  go_ret
  exact ⟨rfl, rfl⟩
set_option maxHeartbeats 1000000 in
theorem write_err (h : Dsk w p F d l) (ho : d.ops ≤ 1000000) (i : Int) (s : ByteArray) (hi : fitB i = true) (hs : s.size ≤ 256) (he : rawE d ≠ 0) : Calls Try.prog 12 #[.pointer (some ⟨p, 0, none⟩), .int .i64 i, .string s] w fun e w' => e = .returned (.int .i64 (rawE d)) ∧ Dsk w' p F (rawD d l) (rawL d l) ∧ But F w w' := by
  have H := Lib.hid (fits_c i)
  have HC := Lib.hid (raw_c h ho)
  rw [hi] at H
  clear h ho
  generalize rawL d l = l1 at *
  obtain ⟨d1, hd1⟩ : ∃ d1, d1 = rawD d l := ⟨_, rfl⟩
  rw [← hd1] at HC ⊢
  clear hd1
  generalize rawE d = er at *
  go_enter Try.func12, Try.ntmps12
  go_wp2_with fail
  refine (H.out _).mono ?_
  rintro e w1 ⟨rfl, rfl⟩
  go_wp2_with fail
  refine (HC.out).mono ?_
  rintro e w1 ⟨rfl, h1, h2⟩
  have H1 := Lib.hid h1
  have HB := Lib.hid h2
  clear h1 h2 HC
  go_wp2
  go_ret
  exact ⟨rfl, H1.out, HB.out⟩
set_option maxHeartbeats 2000000 in
theorem write_in (h : Dsk w p F d l) (ho : d.ops ≤ 1000000) (i : Nat) (s : ByteArray) (hi : i < 256) (hs : s.size ≤ 256) (he : rawE d = 0) (hin : i ∈ rawL d l) : Calls Try.prog 12 #[.pointer (some ⟨p, 0, none⟩), .int .i64 (i : Int), .string s] w fun e w' => e = .returned (.int .i64 0) ∧ Dsk w' p F { rawD d l with is := (rawD d l).is.set i s } (rawL d l) ∧ But F w w' := by
  have H := Lib.hid (fits_c (i : Int))
  have HC := Lib.hid (raw_c h ho)
  have hlen : (rawL d l).length ≤ 1000000 := by
    have := h.len
    have : (rawL d l).length ≤ l.length := by unfold rawL; split <;> simp
    omega
  rw [fitB_yes (i := (i : Int)) (by omega) (by omega)] at H
  rw [he] at HC
  clear h ho he
  generalize rawL d l = l1 at *
  obtain ⟨d1, hd1⟩ : ∃ d1, d1 = rawD d l := ⟨_, rfl⟩
  rw [← hd1] at HC ⊢
  clear hd1
  have HI := Lib.hid hi
  have HIN := Lib.hid hin
  have HLEN := Lib.hid hlen
  clear hi hin hlen
  go_enter Try.func12, Try.ntmps12
  go_wp2_with fail
  refine (H.out _).mono ?_
  rintro e w1 ⟨rfl, rfl⟩
  go_wp2_with fail
  refine (HC.out).mono ?_
  rintro e w1 ⟨rfl, h1, h2⟩
  obtain ⟨c1, hdb, hown, hf⟩ := h1.own
  have H1 := Lib.hid h1
  have HB := Lib.hid h2
  have hi := HI.out
  have q0 : (0 : Int) ≤ (i : Int) := by omega
  have q1 : (i : Int) < 256 := by omega
  have HR := Lib.hid (hdb.putIs hi s)
  have HBR := Lib.hid ((But.refl (Onl p) w1).set (p := p) (i := i) rfl (.string s))
  have HO := Lib.hid (hown.only hdb HBR.out)
  have HK := Lib.hid (contains_c (w := w1.setCell ⟨p, i, none⟩ (.string s)) i HO.out HLEN.out)
  simp only [HIN.out, decide_true] at HK
  have HF := Lib.hid hf
  have c0 := hdb.is hi
  have f0 := hdb.frozen i
  have c2 := hdb.cached
  generalize d1.is[i]'_ = si at c0
  clear h1 h2 HC hdb hown hf hi
  go_wp2_with fail
  refine (HK.out).mono ?_
  rintro e w2 ⟨rfl, rfl⟩
  go_wp2
  go_ret
  exact ⟨rfl, H1.out.step (H1.out.only HBR.out) ⟨_, HR.out, HO.out, HF.out⟩ ⟨H1.out.wf.c0, H1.out.wf.c1, H1.out.wf.f0, H1.out.wf.f1, H1.out.wf.o0, H1.out.wf.k0, H1.out.wf.k1⟩ H1.out.hl H1.out.len, HB.out.trans (H1.out.only HBR.out)⟩
end
end Go.Proofs.Ytjeaejeikgkcaaa
