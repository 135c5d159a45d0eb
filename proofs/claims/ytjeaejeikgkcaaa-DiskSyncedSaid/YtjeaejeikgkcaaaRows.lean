/-
  No cell of these rows narrows 'for every input' (looked for: loops, veiled, ifaces, maps, wideKeys, modest, calm, conditions, laid).
  DERIVED. THE GIVEN ROWS OF THIS SEAT. 6 by the template 'for every input the law returns true; each argument reads behind the call as it read before'; 0 by the template 'total and deterministic' (their statements: YtjeaejeikgkcaaaTotals.lean).
  GIVEN WITH THE SEED: the statements are not yours to turn. If you find one false, say at which input.
  Laid BY PROGRAM, IN A SANDBOX (cutbox-rows.mjs): the forced cells as the released guide's own fill.sh prints them over the translation 1982f33f60711b3b… (all of the seat's roots in one cut). By AI agents, Wed Nov 11 2026. No macro, syntax, notation, axiom, sorry.
-/
import Derived.Test.YtjeaejeikgkcaaaChecked
import GoSem.Claim
import GoSem.ClaimJoined
import GoSem.ClaimMapViews
import Derived.JoinedTies
import Derived.KernelRfl
namespace Go.Proofs.Ytjeaejeikgkcaaa
/- THE CELL 'sum', in the pinned program and in every row, IS THE sha256 OF THE DUMP (.gsa) THAT YtjeaejeikgkcaaaProg.lean LOADS. Nothing in Lean hashes anything: it is a label: what it is worth is what the hold of that sum in a sandbox is worth. -/
noncomputable def Try.pinned : Pinned := { name := "ytjeaejeikgkcaaa", sum := "1982f33f60711b3b25916e4f2fa9326e01f5e9c1b3da9e1408f4f0d7e210382e", checked := Try.checked }
namespace Rows
def none {H : Type} : Left H := { results := [], args := [] }

/-- 'noonbelllaw04.DiskOrders': WHATEVER THE INPUT: true; the input reads as it did. -/
def diskOrdersSpec : ChangeSpec := { name := "diskOrders", fn := fun _ => fun
  | [d1, d2, d3] => { results := [.lit (.bool true)], args := [d1, d2, d3] }
  | _ => none }
def diskOrdersRow : OpenClaim := { program := "ytjeaejeikgkcaaa", sum := "1982f33f60711b3b25916e4f2fa9326e01f5e9c1b3da9e1408f4f0d7e210382e", func := "noonbell/noonbelllaw04.DiskOrders", spec := "diskOrders", apart := false }
def DiskOrdersSaid : Prop := diskOrdersRow.holds Try.pinned (OpenSpec.ofChange diskOrdersSpec)

/-- ITS FALSE NEIGHBOUR: 'it returns false'. Refute it at one input. -/
def diskOrdersWrong : ChangeSpec := { name := "diskOrders", fn := fun _ => fun
  | [d1, d2, d3] => { results := [.lit (.bool false)], args := [d1, d2, d3] }
  | _ => none }
def DiskOrdersWrongFalsely : Prop := diskOrdersRow.holds Try.pinned (OpenSpec.ofChange diskOrdersWrong)

/-- 'noonbelllaw04.DiskEither': WHATEVER THE INPUT: true; the input reads as it did. -/
def diskEitherSpec : ChangeSpec := { name := "diskEither", fn := fun _ => fun
  | [d1, d2, d3] => { results := [.lit (.bool true)], args := [d1, d2, d3] }
  | _ => none }
def diskEitherRow : OpenClaim := { program := "ytjeaejeikgkcaaa", sum := "1982f33f60711b3b25916e4f2fa9326e01f5e9c1b3da9e1408f4f0d7e210382e", func := "noonbell/noonbelllaw04.DiskEither", spec := "diskEither", apart := false }
def DiskEitherSaid : Prop := diskEitherRow.holds Try.pinned (OpenSpec.ofChange diskEitherSpec)

/-- ITS FALSE NEIGHBOUR: 'it returns false'. Refute it at one input. -/
def diskEitherWrong : ChangeSpec := { name := "diskEither", fn := fun _ => fun
  | [d1, d2, d3] => { results := [.lit (.bool false)], args := [d1, d2, d3] }
  | _ => none }
def DiskEitherWrongFalsely : Prop := diskEitherRow.holds Try.pinned (OpenSpec.ofChange diskEitherWrong)

/-- 'noonbelllaw04.DiskLast': WHATEVER THE INPUT: true; the input reads as it did. -/
def diskLastSpec : ChangeSpec := { name := "diskLast", fn := fun _ => fun
  | [d] => { results := [.lit (.bool true)], args := [d] }
  | _ => none }
def diskLastRow : OpenClaim := { program := "ytjeaejeikgkcaaa", sum := "1982f33f60711b3b25916e4f2fa9326e01f5e9c1b3da9e1408f4f0d7e210382e", func := "noonbell/noonbelllaw04.DiskLast", spec := "diskLast", apart := false }
def DiskLastSaid : Prop := diskLastRow.holds Try.pinned (OpenSpec.ofChange diskLastSpec)

/-- ITS FALSE NEIGHBOUR: 'it returns false'. Refute it at one input. -/
def diskLastWrong : ChangeSpec := { name := "diskLast", fn := fun _ => fun
  | [d] => { results := [.lit (.bool false)], args := [d] }
  | _ => none }
def DiskLastWrongFalsely : Prop := diskLastRow.holds Try.pinned (OpenSpec.ofChange diskLastWrong)

/-- 'noonbelllaw04.DiskSynced': WHATEVER THE INPUT: true; the input reads as it did. -/
def diskSyncedSpec : ChangeSpec := { name := "diskSynced", fn := fun _ => fun
  | [d1, d2, d3] => { results := [.lit (.bool true)], args := [d1, d2, d3] }
  | _ => none }
def diskSyncedRow : OpenClaim := { program := "ytjeaejeikgkcaaa", sum := "1982f33f60711b3b25916e4f2fa9326e01f5e9c1b3da9e1408f4f0d7e210382e", func := "noonbell/noonbelllaw04.DiskSynced", spec := "diskSynced", apart := false }
def DiskSyncedSaid : Prop := diskSyncedRow.holds Try.pinned (OpenSpec.ofChange diskSyncedSpec)

/-- ITS FALSE NEIGHBOUR: 'it returns false'. Refute it at one input. -/
def diskSyncedWrong : ChangeSpec := { name := "diskSynced", fn := fun _ => fun
  | [d1, d2, d3] => { results := [.lit (.bool false)], args := [d1, d2, d3] }
  | _ => none }
def DiskSyncedWrongFalsely : Prop := diskSyncedRow.holds Try.pinned (OpenSpec.ofChange diskSyncedWrong)

/-- 'noonbelllaw04.DiskFails': WHATEVER THE INPUT: true; the input reads as it did. -/
def diskFailsSpec : ChangeSpec := { name := "diskFails", fn := fun _ => fun
  | [d1, d2] => { results := [.lit (.bool true)], args := [d1, d2] }
  | _ => none }
def diskFailsRow : OpenClaim := { program := "ytjeaejeikgkcaaa", sum := "1982f33f60711b3b25916e4f2fa9326e01f5e9c1b3da9e1408f4f0d7e210382e", func := "noonbell/noonbelllaw04.DiskFails", spec := "diskFails", apart := false }
def DiskFailsSaid : Prop := diskFailsRow.holds Try.pinned (OpenSpec.ofChange diskFailsSpec)

/-- ITS FALSE NEIGHBOUR: 'it returns false'. Refute it at one input. -/
def diskFailsWrong : ChangeSpec := { name := "diskFails", fn := fun _ => fun
  | [d1, d2] => { results := [.lit (.bool false)], args := [d1, d2] }
  | _ => none }
def DiskFailsWrongFalsely : Prop := diskFailsRow.holds Try.pinned (OpenSpec.ofChange diskFailsWrong)

/-- 'noonbelllaw04.DiskScript': WHATEVER THE INPUT: true; the input reads as it did. -/
def diskScriptSpec : ChangeSpec := { name := "diskScript", fn := fun _ => fun
  | [d] => { results := [.lit (.bool true)], args := [d] }
  | _ => none }
def diskScriptRow : OpenClaim := { program := "ytjeaejeikgkcaaa", sum := "1982f33f60711b3b25916e4f2fa9326e01f5e9c1b3da9e1408f4f0d7e210382e", func := "noonbell/noonbelllaw04.DiskScript", spec := "diskScript", apart := false }
def DiskScriptSaid : Prop := diskScriptRow.holds Try.pinned (OpenSpec.ofChange diskScriptSpec)

/-- ITS FALSE NEIGHBOUR: 'it returns false'. Refute it at one input. -/
def diskScriptWrong : ChangeSpec := { name := "diskScript", fn := fun _ => fun
  | [d] => { results := [.lit (.bool false)], args := [d] }
  | _ => none }
def DiskScriptWrongFalsely : Prop := diskScriptRow.holds Try.pinned (OpenSpec.ofChange diskScriptWrong)

/- THE SECOND FORM. 'bulk': how many values and letters a reading holds, each counted each time it is reached (what is shared counts as often as it is met; a slice's spare places count too). A statement '..UptoSaid' is the law's where the arguments, and the package variables that the reading takes, are together of bulk at most 1048576: NARROWER than '..Said'. Prove '..Said' where nothing that the law and all that it calls make is longer than what came in: it says more and counts as full. Else prove '..UptoSaid'. A law counts once. -/
mutual
def uptoBulk {H : Type} : DataW H → Nat
  | .lit (.string bytes) => bytes.length + 1
  | .lit _ => 1
  | .nil => 1
  | .ptr d => uptoBulk d + 1
  | .slice elems spare => uptoBulkAll elems + uptoBulkAll spare + 1
  | .agg parts => uptoBulkAll parts + 1
  | .iface _ d => uptoBulk d + 1
  | .map entries => uptoBulkEntries entries + 1
  | .held _ => 1
def uptoBulkAll {H : Type} : List (DataW H) → Nat
  | [] => 0
  | d :: r => uptoBulk d + uptoBulkAll r
def uptoBulkEntries {H : Type} : List (Lit × DataW H) → Nat
  | [] => 0
  | x :: r => uptoBulkEntry x + uptoBulkEntries r
def uptoBulkEntry {H : Type} : Lit × DataW H → Nat
  | (.string bytes, d) => bytes.length + uptoBulk d + 1
  | (_, d) => uptoBulk d + 1
 end
def uptoSmall : (H : Type) → List (DataW H) → Bool := fun _ ds => decide (uptoBulkAll ds ≤ 1048576)
def OpenSpec.upto (s : _root_.Go.ChangeSpec) : _root_.Go.OpenSpec := { _root_.Go.OpenSpec.ofChange s with cond := some uptoSmall }

/-- 'noonbelllaw04.DiskOrders', WHERE WHAT IT READS IS OF BULK AT MOST 1048576: true; the input reads as it did. -/
def diskOrdersUptoRow : OpenClaim := { program := "ytjeaejeikgkcaaa", sum := "1982f33f60711b3b25916e4f2fa9326e01f5e9c1b3da9e1408f4f0d7e210382e", func := "noonbell/noonbelllaw04.DiskOrders", spec := "diskOrders", apart := false, narrowed := true }
def DiskOrdersUptoSaid : Prop := diskOrdersUptoRow.holds Try.pinned (OpenSpec.upto diskOrdersSpec)

/-- 'noonbelllaw04.DiskEither', WHERE WHAT IT READS IS OF BULK AT MOST 1048576: true; the input reads as it did. -/
def diskEitherUptoRow : OpenClaim := { program := "ytjeaejeikgkcaaa", sum := "1982f33f60711b3b25916e4f2fa9326e01f5e9c1b3da9e1408f4f0d7e210382e", func := "noonbell/noonbelllaw04.DiskEither", spec := "diskEither", apart := false, narrowed := true }
def DiskEitherUptoSaid : Prop := diskEitherUptoRow.holds Try.pinned (OpenSpec.upto diskEitherSpec)

/-- 'noonbelllaw04.DiskLast', WHERE WHAT IT READS IS OF BULK AT MOST 1048576: true; the input reads as it did. -/
def diskLastUptoRow : OpenClaim := { program := "ytjeaejeikgkcaaa", sum := "1982f33f60711b3b25916e4f2fa9326e01f5e9c1b3da9e1408f4f0d7e210382e", func := "noonbell/noonbelllaw04.DiskLast", spec := "diskLast", apart := false, narrowed := true }
def DiskLastUptoSaid : Prop := diskLastUptoRow.holds Try.pinned (OpenSpec.upto diskLastSpec)

/-- 'noonbelllaw04.DiskSynced', WHERE WHAT IT READS IS OF BULK AT MOST 1048576: true; the input reads as it did. -/
def diskSyncedUptoRow : OpenClaim := { program := "ytjeaejeikgkcaaa", sum := "1982f33f60711b3b25916e4f2fa9326e01f5e9c1b3da9e1408f4f0d7e210382e", func := "noonbell/noonbelllaw04.DiskSynced", spec := "diskSynced", apart := false, narrowed := true }
def DiskSyncedUptoSaid : Prop := diskSyncedUptoRow.holds Try.pinned (OpenSpec.upto diskSyncedSpec)

/-- 'noonbelllaw04.DiskFails', WHERE WHAT IT READS IS OF BULK AT MOST 1048576: true; the input reads as it did. -/
def diskFailsUptoRow : OpenClaim := { program := "ytjeaejeikgkcaaa", sum := "1982f33f60711b3b25916e4f2fa9326e01f5e9c1b3da9e1408f4f0d7e210382e", func := "noonbell/noonbelllaw04.DiskFails", spec := "diskFails", apart := false, narrowed := true }
def DiskFailsUptoSaid : Prop := diskFailsUptoRow.holds Try.pinned (OpenSpec.upto diskFailsSpec)

/-- 'noonbelllaw04.DiskScript', WHERE WHAT IT READS IS OF BULK AT MOST 1048576: true; the input reads as it did. -/
def diskScriptUptoRow : OpenClaim := { program := "ytjeaejeikgkcaaa", sum := "1982f33f60711b3b25916e4f2fa9326e01f5e9c1b3da9e1408f4f0d7e210382e", func := "noonbell/noonbelllaw04.DiskScript", spec := "diskScript", apart := false, narrowed := true }
def DiskScriptUptoSaid : Prop := diskScriptUptoRow.holds Try.pinned (OpenSpec.upto diskScriptSpec)

end Rows
end Go.Proofs.Ytjeaejeikgkcaaa
