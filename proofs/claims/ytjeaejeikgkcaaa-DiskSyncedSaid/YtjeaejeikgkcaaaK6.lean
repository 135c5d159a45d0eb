/- The disk's Sync, walked. -/
import Derived.Test.YtjeaejeikgkcaaaK5
namespace Go.Proofs.Ytjeaejeikgkcaaa
set_option linter.unusedSimpArgs false
set_option linter.unusedVariables false
open Go.RowKit

def syD (d : DS) (l : List Nat) : DS := if rawE d = 0 then { rawD d l with was := (rawD d l).is } else rawD d l
def syL (d : DS) (l : List Nat) : List Nat := if rawE d = 0 then [] else rawL d l
section
variable {w : World} {p : Nat} {d : DS} {c : Value} {F : Nat → Prop} {l : List Nat}
set_option maxHeartbeats 1000000 in
theorem sync_c (h : Dsk w p F d l) (ho : d.ops ≤ 1000000) : Calls Try.prog 15 #[.pointer (some ⟨p, 0, none⟩)] w fun e w' => e = .returned (.int .i64 (rawE d)) ∧ Dsk w' p F (syD d l) (syL d l) ∧ But F w w' := by
  have HC := Lib.hid (raw_c h ho)
  clear h ho
  by_cases h0 : rawE d = 0
  · have e1 : syD d l = { rawD d l with was := (rawD d l).is } := by simp [syD, h0]
    have e2 : syL d l = [] := by simp [syL, h0]
    rw [e1, e2]
    rw [h0] at HC ⊢
    clear e1 e2 h0
    generalize rawL d l = l1 at *
    obtain ⟨d1, hd1⟩ : ∃ d1, d1 = rawD d l := ⟨_, rfl⟩
    rw [← hd1] at HC ⊢
    clear hd1
    go_enter Try.func15, Try.ntmps15
    go_wp2_with fail
    refine (HC.out).mono ?_
    rintro e w1 ⟨rfl, h1, h2⟩
    obtain ⟨c1, hdb, hown, hf⟩ := h1.own
    have H1 := Lib.hid h1
    have HB := Lib.hid h2
    have HD := Lib.hid hdb
    have HRG := Lib.hid hdb.rangeIs
    have HL := Lib.hid hdb.l1
    clear h1 h2 hown hf hdb HC
    go_wp2_with (first
        | (refine wpList_load_mid rfl 56 _ rfl p 0 rfl (d1.is.map Value.string) _ HRG.out rfl rfl (by rw [List.length_map, HL.out]; exact info56) ?_)
        | (refine wpList_copyWas rfl _ _ rfl p _ _ d1.is rfl rfl HD.out HL.out ?_))
    intro w3 hd3 hb3
    have f1 := hd3.frozen 512
    have c1 := hd3.cached
    have HR := Lib.hid (hd3.putCached (.slice none 0 0))
    have HBR := Lib.hid (hb3.set (p := p) (i := 512) rfl (.slice none 0 0))
    clear hd3 hb3
    go_wp2
    go_ret
    have hb4 := HB.out.trans (H1.out.only HBR.out)
    exact ⟨rfl, H1.out.step (H1.out.only HBR.out) ⟨_, HR.out, OwnE.nil _ _ _ _, fun k hk => absurd hk (nil_foot k)⟩ ⟨H1.out.wf.c0, H1.out.wf.c1, H1.out.wf.f0, H1.out.wf.f1, H1.out.wf.o0, H1.out.wf.k0, H1.out.wf.k1⟩ (by simp) (by have := H1.out.wf.o0; simpa using this), hb4⟩
  · have e1 : syD d l = rawD d l := by simp [syD, h0]
    have e2 : syL d l = rawL d l := by simp [syL, h0]
    rw [e1, e2]
    clear e1 e2
    generalize rawL d l = l1 at *
    obtain ⟨d1, hd1⟩ : ∃ d1, d1 = rawD d l := ⟨_, rfl⟩
    rw [← hd1] at HC ⊢
    clear hd1
    generalize rawE d = er at *
    go_enter Try.func15, Try.ntmps15
    go_wp2_with fail
    refine (HC.out).mono ?_
    rintro e w1 ⟨rfl, h1, h2⟩
    have H1 := Lib.hid h1
    have HB := Lib.hid h2
    clear h1 h2 HC
    go_wp2
    go_ret
    exact ⟨rfl, H1.out, HB.out⟩
end
end Go.Proofs.Ytjeaejeikgkcaaa
