/- A step of a script: a write at both disks. -/
import Derived.Test.YtjeaejeikgkcaaaN10
import Derived.RegionTactic
import Derived.Deep.RegionHeld3
import Derived.BigRegion
namespace Go.Proofs.Ytjeaejeikgkcaaa
set_option linter.unusedSimpArgs false
set_option linter.unusedVariables false
open Go.RowKit
section
variable {w0 w w' w1 w2 : World} {p q b : Nat} {F G F1 G1 : Nat → Prop} {d d1 D : DS} {l l1 : List Nat} {C : Array Value}
set_option maxRecDepth 1000000 in
set_option maxHeartbeats 4000000 in
theorem step_0 (h : LT w0 w p F q G d l) (ho : d.ops ≤ 1000000) (i : Int) (s : ByteArray) (keep : Int) (hsz : s.size ≤ 9223372036854775807) :
    Calls Try.prog 20 #[.pointer (some ⟨p, 0, none⟩), .pointer (some ⟨q, 0, none⟩), .agg #[.int .i64 0, .int .i64 i, .string s, .int .u64 keep]] w fun e w' => e = .returned (.bool true) ∧ ∃ F' G', LT w0 w' p F' q G' (wrD d l i s) (wrL d l i s) := by
  have HS := Lib.hid (ST.start h #[.int .i64 0, .int .i64 i, .string s, .int .u64 keep]).drew
  obtain ⟨D, hD⟩ : ∃ D, D = wrD d l i s := ⟨_, rfl⟩
  obtain ⟨L, hL⟩ : ∃ L, L = wrL d l i s := ⟨_, rfl⟩
  rw [← hD, ← hL]
  have HC1 := Lib.hid (write_c HS.out.lt.ld.dsk ho i s hsz)
  have HC2 := Lib.hid (fun W (h : RQ W q G d l) => rwrite_c h ho i s hsz)
  rw [← hD, ← hL] at HC1 HC2
  generalize wrE d i s = E at *
  clear h hD hL
  have a1 : (w.alloc (.cells #[.int .i64 0, .int .i64 i, .string s, .int .u64 keep] 43)).cell? ⟨w.heap.size, 1, none⟩ = some (.int .i64 i) := HS.out.box.cell 1
  have a2 : (w.alloc (.cells #[.int .i64 0, .int .i64 i, .string s, .int .u64 keep] 43)).cell? ⟨w.heap.size, 2, none⟩ = some (.string s) := HS.out.box.cell 2
  go_enter Try.func20, Try.ntmps20
  go_wp2_with fail
  generalize w.heap.size = b at *
  generalize w.alloc (.cells #[.int .i64 0, .int .i64 i, .string s, .int .u64 keep] 43) = wb at *
  go_region_held3 (fun V => V.cell? ⟨b, 1, none⟩ = some (.int .i64 i) ∧ V.cell? ⟨b, 2, none⟩ = some (.string s)) (first | exact ⟨y1, y2⟩ | exact ⟨x1, x2⟩ | exact ⟨a1, a2⟩) (first
    | (go_at_call 12; refine HC1.out.mono ?_; rintro e w3 ⟨rfl, F3, hd, hb, hs⟩; have x1 : w3.cell? ⟨b, 1, none⟩ = some (.int .i64 i) := (HS.out.mid hb).2.cell 1; have x2 : w3.cell? ⟨b, 2, none⟩ = some (.string s) := (HS.out.mid hb).2.cell 2; have HC3 := Lib.hid (HC2.out _ (HS.out.mid hb).1); have HD3 := Lib.hid hd; have HB3 := Lib.hid hb; have HS3 := Lib.hid hs; clear hd hb hs)
    | (go_at_call 27; refine HC3.out.mono ?_; rintro e w4 ⟨rfl, G4, hq, hb, hs⟩; have HSS := Lib.hid (HS.out.step HD3.out HB3.out HS3.out hq hb hs); have y1 : w4.cell? ⟨b, 1, none⟩ = some (.int .i64 i) := HSS.out.box.cell 1; have y2 : w4.cell? ⟨b, 2, none⟩ = some (.string s) := HSS.out.box.cell 2; clear hq hb hs))
  go_wp2
  go_ret
  exact ⟨rfl, _, _, HSS.out.lt⟩
end
end Go.Proofs.Ytjeaejeikgkcaaa
