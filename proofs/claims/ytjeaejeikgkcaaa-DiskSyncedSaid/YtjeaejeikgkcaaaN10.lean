/- Both disks side by side; a step of a script. -/
import Derived.Test.YtjeaejeikgkcaaaN9
import Derived.Test.YtjeaejeikgkcaaaP5
namespace Go.Proofs.Ytjeaejeikgkcaaa
set_option linter.unusedSimpArgs false
set_option linter.unusedVariables false
open Go.RowKit
theorem rwrite_c {w : World} {p : Nat} {F : Nat → Prop} {d : DS} {l : List Nat} (h : RQ w p F d l) (ho : d.ops ≤ 1000000) (i : Int) (s : ByteArray) (hsz : s.size ≤ 9223372036854775807) : Calls Try.prog 27 #[.pointer (some ⟨p, 0, none⟩), .int .i64 i, .string s] w fun e w' => e = .returned (.int .i64 (wrE d i s)) ∧ ∃ F', RQ w' p F' (wrD d l i s) (wrL d l i s) ∧ But F w w' ∧ Sprout w F F' := by
  by_cases hi : fitB i = true
  · obtain ⟨n, rfl⟩ : ∃ n : Nat, i = (n : Int) := ⟨i.toNat, by unfold fitB at hi; simp at hi; omega⟩
    have hn : n < 256 := by unfold fitB at hi; simp at hi; omega
    by_cases hs : s.size ≤ 256
    · have hok : wrOk d (n : Int) s := ⟨hi, hs⟩
      by_cases he : rawE d = 0
      · have e0 : wrE d (n : Int) s = 0 := by simp [wrE, hi, he, show ¬ 256 < s.size by omega]
        have e1 : wrD d l (n : Int) s = { rawD d l with is := (rawD d l).is.set n s } := by simp [wrD, hok, he]
        have e2 : wrL d l (n : Int) s = if n ∈ rawL d l then rawL d l else rawL d l ++ [n] := by simp [wrL, hok, he]
        rw [e0, e1, e2]
        refine rwrite_ok h ho n s hn hs he fun _ => ?_
        obtain ⟨r, a, b, c, h1, h2⟩ := h
        rw [rawL_zero he, rawD_zero he]
        have := h2.len
        show (l.length : Int) < d.ops + 1
        omega
      · have e0 : wrE d (n : Int) s = rawE d := by simp [wrE, hi, show ¬ 256 < s.size by omega]
        have e1 : wrD d l (n : Int) s = rawD d l := by simp [wrD, hok, he]
        have e2 : wrL d l (n : Int) s = rawL d l := by simp [wrL, hok, he]
        rw [e0, e1, e2]
        exact (rwrite_err h ho n s hn hs he).mono fun e w' hh => ⟨hh.1, F, hh.2.1, hh.2.2, Sprout.same _ _⟩
    · have hok : ¬ wrOk d (n : Int) s := fun h => hs h.2
      have e0 : wrE d (n : Int) s = 41 := by simp [wrE, hi, show 256 < s.size by omega]
      have e1 : wrD d l (n : Int) s = d := by simp [wrD, hok]
      have e2 : wrL d l (n : Int) s = l := by simp [wrL, hok]
      rw [e0, e1, e2]
      exact (rwrite_big n s hn (by omega) hsz).mono fun e w' hh => ⟨hh.1, F, hh.2 ▸ h, hh.2 ▸ But.refl _ _, Sprout.same _ _⟩
  · have hi' : fitB i = false := by simpa using hi
    have hok : ¬ wrOk d i s := fun h => hi h.1
    have e0 : wrE d i s = 40 := by simp [wrE, hi']
    have e1 : wrD d l i s = d := by simp [wrD, hok]
    have e2 : wrL d l i s = l := by simp [wrL, hok]
    rw [e0, e1, e2]
    exact (rwrite_no i s hi').mono fun e w' hh => ⟨hh.1, F, hh.2 ▸ h, hh.2 ▸ But.refl _ _, Sprout.same _ _⟩
/-- The program's disk and the reference's, apart, telling the same. -/
structure LT (w0 w : World) (p : Nat) (F : Nat → Prop) (q : Nat) (G : Nat → Prop) (d : DS) (l : List Nat) : Prop where
  ld : LD w0 w p F d l
  rq : RQ w q G d l
  lo : ∀ k, G k → w0.heap.size ≤ k
  ap : ∀ k, F k → ¬ G k
section
variable {w0 w w' w1 w2 : World} {p q b : Nat} {F G F1 G1 : Nat → Prop} {d d1 D : DS} {l l1 : List Nat} {C : Array Value}
theorem LT.mid (h : LT w0 w p F q G d l) (hb : But F w w1) : RQ w1 q G d l := h.rq.frame hb fun k hk hf => h.ap k hf hk
theorem LT.step (h : LT w0 w p F q G d l) (hd : Dsk w1 p F1 d1 l1) (hb : But F w w1) (hs : Sprout w F F1) (hq : RQ w2 q G1 d1 l1) (hb2 : But G w1 w2) (hs2 : Sprout w1 G G1) : LT w0 w2 p F1 q G1 d1 l1 := by
  have hl := h.ld.step hd hb hs
  have hFG : ∀ k, F1 k → ¬ G k := fun k hk hg => by
    rcases hs k hk with h1 | h1
    · exact h.ap k h1 hg
    · have := h.rq.lt k hg; omega
  refine ⟨⟨hd.frame hb2 hFG, hb2.new hl.nw h.lo, hl.hi⟩, hq, fun k hk => ?_, fun k hk hg => ?_⟩
  · rcases hs2 k hk with h1 | h1
    · exact h.lo k h1
    · have := hl.nw.le; omega
  · rcases hs2 k hg with h1 | h1
    · exact hFG k hk h1
    · have := hd.lt k hk; omega
theorem LT.new (h : LT w0 w p F q G d l) (hn : New w w') : LT w0 w' p F q G d l :=
  ⟨h.ld.new hn, h.rq.frame (S := fun _ => False) (But.of_new hn) (fun _ _ h => h), h.lo, h.ap⟩
/-- And a box beside them. -/
structure ST (w0 w : World) (p : Nat) (F : Nat → Prop) (q : Nat) (G : Nat → Prop) (d : DS) (l : List Nat) (b : Nat) (C : Array Value) : Prop where
  lt : LT w0 w p F q G d l
  box : Box w b C 43
  nf : ¬ F b
  ng : ¬ G b
theorem ST.start (h : LT w0 w p F q G d l) (C : Array Value) : ST w0 (w.alloc (.cells C 43)) p F q G d l w.heap.size C :=
  ⟨h.new ((New.refl w).alloc _), Box.last _ _ _, fun hf => by have := h.ld.dsk.lt _ hf; omega, fun hg => by have := h.rq.lt _ hg; omega⟩
theorem ST.mid (h : ST w0 w p F q G d l b C) (hb : But F w w1) : RQ w1 q G d l ∧ Box w1 b C 43 := ⟨h.lt.mid hb, hb.box h.box h.nf⟩
theorem ST.step (h : ST w0 w p F q G d l b C) (hd : Dsk w1 p F1 d1 l1) (hb : But F w w1) (hs : Sprout w F F1) (hq : RQ w2 q G1 d1 l1) (hb2 : But G w1 w2) (hs2 : Sprout w1 G G1) : ST w0 w2 p F1 q G1 d1 l1 b C :=
  ⟨h.lt.step hd hb hs hq hb2 hs2, hb2.box (hb.box h.box h.nf) h.ng, fun hf => by
    rcases hs b hf with h1 | h1
    · exact h.nf h1
    · have := h.box.lt; omega, fun hg => by
    rcases hs2 b hg with h1 | h1
    · exact h.ng h1
    · have := (hb.box h.box h.nf).lt; omega⟩
theorem ST.drew (h : ST w0 w p F q G d l b C) : ST w0 w.drew p F q G d l b C := ⟨h.lt.new (New.refl _).drew, h.box.drew, h.nf, h.ng⟩
def stepV (kind i : Int) (s : ByteArray) (keep : Int) : Value := .agg #[.int .i64 kind, .int .i64 i, .string s, .int .u64 keep]
set_option maxRecDepth 1000000 in
set_option maxHeartbeats 4000000 in
theorem step_2 (h : LT w0 w p F q G d l) (ho : d.ops ≤ 1000000) (i : Int) (s : ByteArray) (keep : Int) (hi1 : i ≤ 9223372036854775807) (hk0 : 0 ≤ keep) (hk1 : keep < 18446744073709551616) :
    Calls Try.prog 20 #[.pointer (some ⟨p, 0, none⟩), .pointer (some ⟨q, 0, none⟩), .agg #[.int .i64 2, .int .i64 i, .string s, .int .u64 keep]] w fun e w' => e = .returned (.bool true) ∧ ∃ F' G', LT w0 w' p F' q G' ({ d with cut := max i 0, keep := keep }) (l) := by
  have HS := Lib.hid (ST.start h #[.int .i64 2, .int .i64 i, .string s, .int .u64 keep])
  obtain ⟨D, hD⟩ : ∃ D, D = ({ d with cut := max i 0, keep := keep } : DS) := ⟨_, rfl⟩
  rw [← hD]
  have HC1 := Lib.hid (dcut_c HS.out.lt.ld.dsk i keep hi1 hk0 hk1)
  have HC2 := Lib.hid (fun W (h : RQ W q G d l) => rcut_c h i keep hi1 hk0 hk1)
  rw [← hD] at HC1 HC2
  clear h hD
  go_enter Try.func20, Try.ntmps20
  go_wp2_with fail
  refine HC1.out.mono ?_
  rintro e w1 ⟨rfl, hd, hb⟩
  obtain ⟨hq, hbx⟩ := HS.out.mid hb
  have HC3 := Lib.hid (HC2.out _ hq)
  have a1 : w1.cell? ⟨w.heap.size, 1, none⟩ = some (.int .i64 i) := hbx.cell 1
  have a3 : w1.cell? ⟨w.heap.size, 3, none⟩ = some (.int .u64 keep) := hbx.cell 3
  have HDK := Lib.hid hd
  have HBB := Lib.hid hb
  clear hd hb hq hbx HC1 HC2
  go_wp2_with fail
  refine HC3.out.mono ?_
  rintro e w2 ⟨rfl, hq, hb⟩
  have HSS := Lib.hid (HS.out.step HDK.out HBB.out (Sprout.same _ _) hq hb (Sprout.same _ _))
  clear hq hb HC3 HDK HBB HS a1 a3
  have HD1 := Lib.hid (dread_c HSS.out.lt.ld.dsk i)
  have HD2 := Lib.hid (rread_c HSS.out.lt.rq i)
  have e1 : w2.cell? ⟨w.heap.size, 1, none⟩ = some (.int .i64 i) := HSS.out.box.cell 1
  generalize (if fitB i then D.is.getD i.toNat ⟨#[]⟩ else ⟨#[]⟩) = X at *
  generalize (if fitB i then (0 : Int) else 40) = Y at *
  go_wp2_with fail
  refine HD1.out.mono ?_
  rintro e w7 ⟨rfl, rfl⟩
  go_wp2_with fail
  refine HD2.out.mono ?_
  rintro e w7 ⟨rfl, rfl⟩
  go_wp2
  go_ret
  exact ⟨rfl, _, _, HSS.out.lt⟩
set_option maxRecDepth 1000000 in
set_option maxHeartbeats 4000000 in
theorem step_3 (h : LT w0 w p F q G d l) (ho : d.ops ≤ 1000000) (i : Int) (s : ByteArray) (keep : Int) (hi1 : i ≤ 9223372036854775807) (hk0 : 0 ≤ keep) (hk1 : keep < 18446744073709551616) :
    Calls Try.prog 20 #[.pointer (some ⟨p, 0, none⟩), .pointer (some ⟨q, 0, none⟩), .agg #[.int .i64 3, .int .i64 i, .string s, .int .u64 keep]] w fun e w' => e = .returned (.bool true) ∧ ∃ F' G', LT w0 w' p F' q G' ({ d with fail := max i 0 }) (l) := by
  have HS := Lib.hid (ST.start h #[.int .i64 3, .int .i64 i, .string s, .int .u64 keep])
  obtain ⟨D, hD⟩ : ∃ D, D = ({ d with fail := max i 0 } : DS) := ⟨_, rfl⟩
  rw [← hD]
  have HC1 := Lib.hid (dfail_c HS.out.lt.ld.dsk i hi1)
  have HC2 := Lib.hid (fun W (h : RQ W q G d l) => rfail_c h i hi1)
  rw [← hD] at HC1 HC2
  clear h hD
  go_enter Try.func20, Try.ntmps20
  go_wp2_with fail
  refine HC1.out.mono ?_
  rintro e w1 ⟨rfl, hd, hb⟩
  obtain ⟨hq, hbx⟩ := HS.out.mid hb
  have HC3 := Lib.hid (HC2.out _ hq)
  have a1 : w1.cell? ⟨w.heap.size, 1, none⟩ = some (.int .i64 i) := hbx.cell 1
  have a3 : w1.cell? ⟨w.heap.size, 3, none⟩ = some (.int .u64 keep) := hbx.cell 3
  have HDK := Lib.hid hd
  have HBB := Lib.hid hb
  clear hd hb hq hbx HC1 HC2
  go_wp2_with fail
  refine HC3.out.mono ?_
  rintro e w2 ⟨rfl, hq, hb⟩
  have HSS := Lib.hid (HS.out.step HDK.out HBB.out (Sprout.same _ _) hq hb (Sprout.same _ _))
  clear hq hb HC3 HDK HBB HS a1 a3
  have HD1 := Lib.hid (dread_c HSS.out.lt.ld.dsk i)
  have HD2 := Lib.hid (rread_c HSS.out.lt.rq i)
  have e1 : w2.cell? ⟨w.heap.size, 1, none⟩ = some (.int .i64 i) := HSS.out.box.cell 1
  generalize (if fitB i then D.is.getD i.toNat ⟨#[]⟩ else ⟨#[]⟩) = X at *
  generalize (if fitB i then (0 : Int) else 40) = Y at *
  go_wp2_with fail
  refine HD1.out.mono ?_
  rintro e w7 ⟨rfl, rfl⟩
  go_wp2_with fail
  refine HD2.out.mono ?_
  rintro e w7 ⟨rfl, rfl⟩
  go_wp2
  go_ret
  exact ⟨rfl, _, _, HSS.out.lt⟩
set_option maxRecDepth 1000000 in
set_option maxHeartbeats 4000000 in
theorem step_4 (h : LT w0 w p F q G d l) (ho : d.ops ≤ 1000000) (i : Int) (s : ByteArray) (keep : Int) (hi1 : i ≤ 9223372036854775807) (hk0 : 0 ≤ keep) (hk1 : keep < 18446744073709551616) :
    Calls Try.prog 20 #[.pointer (some ⟨p, 0, none⟩), .pointer (some ⟨q, 0, none⟩), .agg #[.int .i64 4, .int .i64 i, .string s, .int .u64 keep]] w fun e w' => e = .returned (.bool true) ∧ ∃ F' G', LT w0 w' p F' q G' (crashD d l keep) (crL d l) := by
  have HS := Lib.hid (ST.start h #[.int .i64 4, .int .i64 i, .string s, .int .u64 keep])
  obtain ⟨D, hD⟩ : ∃ D, D = (crashD d l keep : DS) := ⟨_, rfl⟩
  obtain ⟨L, hL⟩ : ∃ L, L = crL d l := ⟨_, rfl⟩
  rw [← hD, ← hL]
  have HC1 := Lib.hid (dcrash_c HS.out.lt.ld.dsk ho keep hk0 hk1)
  have HC2 := Lib.hid (fun W (h : RQ W q G d l) => rcrash_c h ho keep hk0 hk1)
  rw [← hD, ← hL] at HC1 HC2
  clear h hD hL
  go_enter Try.func20, Try.ntmps20
  go_wp2_with fail
  refine HC1.out.mono ?_
  rintro e w1 ⟨rfl, hd, hb⟩
  obtain ⟨hq, hbx⟩ := HS.out.mid hb
  have HC3 := Lib.hid (HC2.out _ hq)
  have a1 : w1.cell? ⟨w.heap.size, 1, none⟩ = some (.int .i64 i) := hbx.cell 1
  have a3 : w1.cell? ⟨w.heap.size, 3, none⟩ = some (.int .u64 keep) := hbx.cell 3
  have HDK := Lib.hid hd
  have HBB := Lib.hid hb
  clear hd hb hq hbx HC1 HC2
  go_wp2_with fail
  refine HC3.out.mono ?_
  rintro e w2 ⟨rfl, hq, hb⟩
  have HSS := Lib.hid (HS.out.step HDK.out HBB.out (Sprout.same _ _) hq hb (Sprout.same _ _))
  clear hq hb HC3 HDK HBB HS a1 a3
  have HD1 := Lib.hid (dread_c HSS.out.lt.ld.dsk i)
  have HD2 := Lib.hid (rread_c HSS.out.lt.rq i)
  have e1 : w2.cell? ⟨w.heap.size, 1, none⟩ = some (.int .i64 i) := HSS.out.box.cell 1
  generalize (if fitB i then D.is.getD i.toNat ⟨#[]⟩ else ⟨#[]⟩) = X at *
  generalize (if fitB i then (0 : Int) else 40) = Y at *
  go_wp2_with fail
  refine HD1.out.mono ?_
  rintro e w7 ⟨rfl, rfl⟩
  go_wp2_with fail
  refine HD2.out.mono ?_
  rintro e w7 ⟨rfl, rfl⟩
  go_wp2
  go_ret
  exact ⟨rfl, _, _, HSS.out.lt⟩
set_option maxRecDepth 1000000 in
set_option maxHeartbeats 4000000 in
theorem step_5 (h : LT w0 w p F q G d l) (ho : d.ops ≤ 1000000) (i : Int) (s : ByteArray) (keep : Int) (hi1 : i ≤ 9223372036854775807) (hk0 : 0 ≤ keep) (hk1 : keep < 18446744073709551616) :
    Calls Try.prog 20 #[.pointer (some ⟨p, 0, none⟩), .pointer (some ⟨q, 0, none⟩), .agg #[.int .i64 5, .int .i64 i, .string s, .int .u64 keep]] w fun e w' => e = .returned (.bool true) ∧ ∃ F' G', LT w0 w' p F' q G' ({ d with dead := false, failing := false, cut := -1, fail := -1 }) (l) := by
  have HS := Lib.hid (ST.start h #[.int .i64 5, .int .i64 i, .string s, .int .u64 keep])
  obtain ⟨D, hD⟩ : ∃ D, D = ({ d with dead := false, failing := false, cut := -1, fail := -1 } : DS) := ⟨_, rfl⟩
  rw [← hD]
  have HC1 := Lib.hid (dpower_c HS.out.lt.ld.dsk)
  have HC2 := Lib.hid (fun W (h : RQ W q G d l) => rpower_c h)
  rw [← hD] at HC1 HC2
  clear h hD
  go_enter Try.func20, Try.ntmps20
  go_wp2_with fail
  refine HC1.out.mono ?_
  rintro e w1 ⟨rfl, hd, hb⟩
  obtain ⟨hq, hbx⟩ := HS.out.mid hb
  have HC3 := Lib.hid (HC2.out _ hq)
  have a1 : w1.cell? ⟨w.heap.size, 1, none⟩ = some (.int .i64 i) := hbx.cell 1
  have a3 : w1.cell? ⟨w.heap.size, 3, none⟩ = some (.int .u64 keep) := hbx.cell 3
  have HDK := Lib.hid hd
  have HBB := Lib.hid hb
  clear hd hb hq hbx HC1 HC2
  go_wp2_with fail
  refine HC3.out.mono ?_
  rintro e w2 ⟨rfl, hq, hb⟩
  have HSS := Lib.hid (HS.out.step HDK.out HBB.out (Sprout.same _ _) hq hb (Sprout.same _ _))
  clear hq hb HC3 HDK HBB HS a1 a3
  have HD1 := Lib.hid (dread_c HSS.out.lt.ld.dsk i)
  have HD2 := Lib.hid (rread_c HSS.out.lt.rq i)
  have e1 : w2.cell? ⟨w.heap.size, 1, none⟩ = some (.int .i64 i) := HSS.out.box.cell 1
  generalize (if fitB i then D.is.getD i.toNat ⟨#[]⟩ else ⟨#[]⟩) = X at *
  generalize (if fitB i then (0 : Int) else 40) = Y at *
  go_wp2_with fail
  refine HD1.out.mono ?_
  rintro e w7 ⟨rfl, rfl⟩
  go_wp2_with fail
  refine HD2.out.mono ?_
  rintro e w7 ⟨rfl, rfl⟩
  go_wp2
  go_ret
  exact ⟨rfl, _, _, HSS.out.lt⟩
set_option maxRecDepth 1000000 in
set_option maxHeartbeats 4000000 in
theorem step_6 (h : LT w0 w p F q G D l) (ho : D.ops ≤ 1000000) (kind i : Int) (s : ByteArray) (keep : Int) (n0 : ¬ kind = 0) (n1 : ¬ kind = 1) (n2 : ¬ kind = 2) (n3 : ¬ kind = 3) (n4 : ¬ kind = 4) (n5 : ¬ kind = 5) :
    Calls Try.prog 20 #[.pointer (some ⟨p, 0, none⟩), .pointer (some ⟨q, 0, none⟩), .agg #[.int .i64 kind, .int .i64 i, .string s, .int .u64 keep]] w fun e w' => e = .returned (.bool true) ∧ ∃ F' G', LT w0 w' p F' q G' D l := by
  have HSS := Lib.hid (ST.start h #[.int .i64 kind, .int .i64 i, .string s, .int .u64 keep])
  clear h
  go_enter Try.func20, Try.ntmps20
  have HD1 := Lib.hid (dread_c HSS.out.lt.ld.dsk i)
  have HD2 := Lib.hid (rread_c HSS.out.lt.rq i)
  have e1 : (w.alloc (.cells #[.int .i64 kind, .int .i64 i, .string s, .int .u64 keep] 43)).cell? ⟨w.heap.size, 1, none⟩ = some (.int .i64 i) := HSS.out.box.cell 1
  generalize (if fitB i then D.is.getD i.toNat ⟨#[]⟩ else ⟨#[]⟩) = X at *
  generalize (if fitB i then (0 : Int) else 40) = Y at *
  go_wp2_with fail
  refine HD1.out.mono ?_
  rintro e w7 ⟨rfl, rfl⟩
  go_wp2_with fail
  refine HD2.out.mono ?_
  rintro e w7 ⟨rfl, rfl⟩
  go_wp2
  go_ret
  exact ⟨rfl, _, _, HSS.out.lt⟩
set_option maxRecDepth 1000000 in
set_option maxHeartbeats 4000000 in
theorem step_1 (h : LT w0 w p F q G d l) (ho : d.ops ≤ 1000000) (i : Int) (s : ByteArray) (keep : Int) :
    Calls Try.prog 20 #[.pointer (some ⟨p, 0, none⟩), .pointer (some ⟨q, 0, none⟩), .agg #[.int .i64 1, .int .i64 i, .string s, .int .u64 keep]] w fun e w' => e = .returned (.bool true) ∧ ∃ F' G', LT w0 w' p F' q G' (syD d l) (syL d l) := by
  have HS := Lib.hid (ST.start h #[.int .i64 1, .int .i64 i, .string s, .int .u64 keep])
  obtain ⟨D, hD⟩ : ∃ D, D = syD d l := ⟨_, rfl⟩
  obtain ⟨L, hL⟩ : ∃ L, L = syL d l := ⟨_, rfl⟩
  rw [← hD, ← hL]
  have HC1 := Lib.hid (sync_c HS.out.lt.ld.dsk ho)
  have HC2 := Lib.hid (fun W (h : RQ W q G d l) => rsync_c h ho)
  rw [← hD, ← hL] at HC1 HC2
  generalize rawE d = E at *
  clear h hD hL
  go_enter Try.func20, Try.ntmps20
  go_wp2_with fail
  refine HC1.out.mono ?_
  rintro e w1 ⟨rfl, hd, hb⟩
  obtain ⟨hq, hbx⟩ := HS.out.mid hb
  have HC3 := Lib.hid (HC2.out _ hq)
  have HDK := Lib.hid hd
  have HBB := Lib.hid hb
  clear hd hb hq hbx HC1 HC2
  go_wp2_with fail
  refine HC3.out.mono ?_
  rintro e w2 ⟨rfl, hq, hb⟩
  have HSS := Lib.hid (HS.out.step HDK.out HBB.out (Sprout.same _ _) hq hb (Sprout.same _ _))
  clear hq hb HC3 HDK HBB HS
  go_wp2
  go_ret
  exact ⟨rfl, _, _, HSS.out.lt⟩
end
end Go.Proofs.Ytjeaejeikgkcaaa
