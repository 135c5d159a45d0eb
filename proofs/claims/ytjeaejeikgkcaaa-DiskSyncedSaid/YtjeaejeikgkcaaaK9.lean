/- The disk, call by call: contracts over a disk of one's own. -/
import Derived.Test.YtjeaejeikgkcaaaK8
namespace Go.Proofs.Ytjeaejeikgkcaaa
set_option linter.unusedSimpArgs false
set_option linter.unusedVariables false
open Go.RowKit
section
variable {w : World} {p : Nat} {d : DS} {c : Value} {F : Nat → Prop} {l : List Nat}
theorem rawE_zero (h : rawE d = 0) : d.dead = false ∧ d.failing = false ∧ d.cut ≠ 0 ∧ d.fail ≠ 0 := by
  unfold rawE at h
  split at h
  · omega
  split at h
  · omega
  split at h
  · omega
  split at h
  · omega
  rename_i h1 h2 h3 h4
  exact ⟨by simpa using h1, by simpa using h2, h3, h4⟩
theorem rawD_zero (h : rawE d = 0) (l : List Nat) : rawD d l = { d with cut := less d.cut, fail := less d.fail, ops := d.ops + 1 } := by
  obtain ⟨h1, h2, h3, h4⟩ := rawE_zero h
  simp [rawD, h1, h2, h3, h4]
theorem rawL_zero (h : rawE d = 0) (l : List Nat) : rawL d l = l := by
  obtain ⟨h1, h2, h3, h4⟩ := rawE_zero h
  simp [rawL, goes, h1, h2, h3]
theorem write_c (h : Dsk w p F d l) (ho : d.ops ≤ 1000000) (i : Int) (s : ByteArray) (hsz : s.size ≤ 9223372036854775807) : Calls Try.prog 12 #[.pointer (some ⟨p, 0, none⟩), .int .i64 i, .string s] w fun e w' => e = .returned (.int .i64 (wrE d i s)) ∧ ∃ F', Dsk w' p F' (wrD d l i s) (wrL d l i s) ∧ But F w w' ∧ Sprout w F F' := by
  by_cases hi : fitB i = true
  · by_cases hs : s.size ≤ 256
    · have hok : wrOk d i s := ⟨hi, hs⟩
      by_cases he : rawE d = 0
      · obtain ⟨n, rfl⟩ : ∃ n : Nat, i = (n : Int) := ⟨i.toNat, by unfold fitB at hi; simp at hi; omega⟩
        have hn : n < 256 := by unfold fitB at hi; simp at hi; omega
        have e0 : wrE d (n : Int) s = 0 := by simp [wrE, hi, he, show ¬ 256 < s.size by omega]
        have e1 : wrD d l (n : Int) s = { rawD d l with is := (rawD d l).is.set n s } := by simp [wrD, hok, he]
        rw [e0, e1]
        by_cases hin : n ∈ rawL d l
        · have e2 : wrL d l (n : Int) s = rawL d l := by simp [wrL, hok, he, hin]
          rw [e2]
          exact (write_in h ho n s hn hs he hin).mono fun e w' hh => ⟨hh.1, F, hh.2.1, hh.2.2, Sprout.same _ _⟩
        · have e2 : wrL d l (n : Int) s = rawL d l ++ [n] := by simp [wrL, hok, he, hin]
          rw [e2]
          refine write_out h ho n s hn hs he hin ?_
          rw [rawL_zero he, rawD_zero he]
          have := h.len
          show _ < d.ops + 1
          omega
      · have e0 : wrE d i s = rawE d := by simp [wrE, hi, show ¬ 256 < s.size by omega]
        have e1 : wrD d l i s = rawD d l := by simp [wrD, hok, he]
        have e2 : wrL d l i s = rawL d l := by simp [wrL, hok, he]
        rw [e0, e1, e2]
        exact (write_err h ho i s hi hs he).mono fun e w' hh => ⟨hh.1, F, hh.2.1, hh.2.2, Sprout.same _ _⟩
    · have hok : ¬ wrOk d i s := fun h => hs h.2
      have e0 : wrE d i s = 41 := by simp [wrE, hi, show 256 < s.size by omega]
      have e1 : wrD d l i s = d := by simp [wrD, hok]
      have e2 : wrL d l i s = l := by simp [wrL, hok]
      rw [e0, e1, e2]
      exact (write_big h i s hi (by omega) hsz).mono fun e w' hh => ⟨hh.1, F, hh.2 ▸ h, hh.2 ▸ But.refl _ _, Sprout.same _ _⟩
  · have hi' : fitB i = false := by simpa using hi
    have hok : ¬ wrOk d i s := fun h => hi h.1
    have e0 : wrE d i s = 40 := by simp [wrE, hi']
    have e1 : wrD d l i s = d := by simp [wrD, hok]
    have e2 : wrL d l i s = l := by simp [wrL, hok]
    rw [e0, e1, e2]
    exact (write_no h i s hi').mono fun e w' hh => ⟨hh.1, F, hh.2 ▸ h, hh.2 ▸ But.refl _ _, Sprout.same _ _⟩
theorem dread_c (h : Dsk w p F d l) (i : Int) : Calls Try.prog 17 #[.pointer (some ⟨p, 0, none⟩), .int .i64 i] w fun e w' => e = .returned (.tuple #[.string (if fitB i then d.is.getD i.toNat ⟨#[]⟩ else ⟨#[]⟩), .int .i64 (if fitB i then 0 else 40)]) ∧ w = w' := by
  obtain ⟨c, hdb, _, _⟩ := h.own
  by_cases hi : fitB i = true
  · obtain ⟨n, rfl⟩ : ∃ n : Nat, i = (n : Int) := ⟨i.toNat, by unfold fitB at hi; simp at hi; omega⟩
    have hn : n < 256 := by unfold fitB at hi; simp at hi; omega
    have hl := hdb.l1
    simp only [hi, if_true]
    refine (read_c hdb n hn).mono fun e w' hh => ⟨?_, hh.2⟩
    rw [hh.1]
    simp [List.getD_eq_getElem?_getD, List.getElem?_eq_getElem (show n < d.is.length by omega)]
  · have hi' : fitB i = false := by simpa using hi
    simp only [hi', if_false, Bool.false_eq_true]
    refine (read_no i ?_).mono fun e w' hh => hh
    intro hh
    rw [fitB_yes hh.1 hh.2] at hi'
    cases hi'
theorem dcut_c (h : Dsk w p F d l) (n keep : Int) (hn : n ≤ 9223372036854775807) (hk0 : 0 ≤ keep) (hk1 : keep < 18446744073709551616) : Calls Try.prog 10 #[.pointer (some ⟨p, 0, none⟩), .int .i64 n, .int .u64 keep] w fun e w' => e = .returned (.tuple #[]) ∧ Dsk w' p F { d with cut := max n 0, keep := keep } l ∧ But F w w' := by
  obtain ⟨c, hdb, hown, hf⟩ := h.own
  refine (cut_c hdb n keep).mono ?_
  rintro e w1 ⟨rfl, k1, k2⟩
  exact ⟨rfl, h.step (h.only k2) ⟨_, k1, hown.only hdb k2, hf⟩ ⟨by show -1 ≤ max n 0; omega, by show max n 0 ≤ _; omega, h.wf.f0, h.wf.f1, h.wf.o0, hk0, hk1⟩ h.hl h.len, h.only k2⟩
theorem dfail_c (h : Dsk w p F d l) (n : Int) (hn : n ≤ 9223372036854775807) : Calls Try.prog 11 #[.pointer (some ⟨p, 0, none⟩), .int .i64 n] w fun e w' => e = .returned (.tuple #[]) ∧ Dsk w' p F { d with fail := max n 0 } l ∧ But F w w' := by
  obtain ⟨c, hdb, hown, hf⟩ := h.own
  refine (fail_c hdb n).mono ?_
  rintro e w1 ⟨rfl, k1, k2⟩
  exact ⟨rfl, h.step (h.only k2) ⟨_, k1, hown.only hdb k2, hf⟩ ⟨h.wf.c0, h.wf.c1, by show -1 ≤ max n 0; omega, by show max n 0 ≤ _; omega, h.wf.o0, h.wf.k0, h.wf.k1⟩ h.hl h.len, h.only k2⟩
theorem dpower_c (h : Dsk w p F d l) : Calls Try.prog 22 #[.pointer (some ⟨p, 0, none⟩)] w fun e w' => e = .returned (.tuple #[]) ∧ Dsk w' p F { d with dead := false, failing := false, cut := -1, fail := -1 } l ∧ But F w w' := by
  obtain ⟨c, hdb, hown, hf⟩ := h.own
  refine (power_c hdb).mono ?_
  rintro e w1 ⟨rfl, k1, k2⟩
  exact ⟨rfl, h.step (h.only k2) ⟨_, k1, hown.only hdb k2, hf⟩ ⟨by simp, by simp, by simp, by simp, h.wf.o0, h.wf.k0, h.wf.k1⟩ h.hl h.len, h.only k2⟩
def crL (d : DS) (l : List Nat) : List Nat := if d.dead then l else []
theorem dcrash_c (h : Dsk w p F d l) (ho : d.ops ≤ 1000000) (keep : Int) (hk0 : 0 ≤ keep) (hk1 : keep < 18446744073709551616) : Calls Try.prog 16 #[.pointer (some ⟨p, 0, none⟩), .int .u64 keep] w fun e w' => e = .returned (.tuple #[]) ∧ Dsk w' p F (crashD d l keep) (crL d l) ∧ But F w w' := by
  obtain ⟨c, hdb, hown, hf⟩ := h.own
  have hlen := h.len
  by_cases hd : d.dead = true
  · have e1 : crashD d l keep = d := by simp [crashD, hd]
    have e2 : crL d l = l := by simp [crL, hd]
    rw [e1, e2]
    refine (crash_dead hdb hd keep).mono ?_
    rintro e w1 ⟨rfl, rfl⟩
    exact ⟨rfl, h, But.refl _ _⟩
  · have e2 : crL d l = [] := by simp [crL, hd]
    rw [e2]
    refine (crash_live hdb (by simpa using hd) keep l 0 (Nat.zero_le _) hown h.hl (by omega) hk0 hk1).mono ?_
    rintro e w1 ⟨rfl, k1, k2⟩
    refine ⟨rfl, h.step (h.only k2) ⟨_, k1, OwnE.nil _ _ _ _, fun k hk => absurd hk (nil_foot k)⟩ (h.wf.crash _ _) (by simp) ?_, h.only k2⟩
    have : (crashD d l keep).ops = d.ops := by unfold crashD; split <;> rfl
    rw [this]
    have := h.wf.o0
    simpa using this
theorem ddead_c (h : Dsk w p F d l) : Calls Try.prog 13 #[.pointer (some ⟨p, 0, none⟩)] w fun e w' => e = .returned (.bool d.dead) ∧ w = w' := by
  obtain ⟨c, hdb, hown, hf⟩ := h.own
  exact dead_c hdb
theorem dops_c (h : Dsk w p F d l) : Calls Try.prog 14 #[.pointer (some ⟨p, 0, none⟩)] w fun e w' => e = .returned (.int .i64 d.ops) ∧ w = w' := by
  obtain ⟨c, hdb, hown, hf⟩ := h.own
  exact ops_c hdb
theorem dnew_c (w : World) : Calls Try.prog 9 #[] w fun e w' => e = .returned (.pointer (some ⟨w.heap.size, 0, none⟩)) ∧ Dsk w' w.heap.size (fun k => k = w.heap.size) dsNew [] ∧ New w w' := by
  refine (new_c w).mono ?_
  rintro e w1 ⟨rfl, k1, k2⟩
  exact ⟨rfl, ⟨⟨_, k1, OwnE.nil _ _ _ _, fun k hk => absurd hk (nil_foot k)⟩, rfl, fun k hk => by rw [hk]; exact k1.b.lt, ⟨by decide, by decide, by decide, by decide, by decide, by decide, by decide⟩, by simp, by decide⟩, k2⟩
end
end Go.Proofs.Ytjeaejeikgkcaaa
