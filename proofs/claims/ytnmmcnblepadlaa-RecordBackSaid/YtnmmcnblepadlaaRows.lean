/-
  No cell of these rows narrows 'for every input' (looked for: loops, veiled, ifaces, maps, wideKeys, modest, calm, conditions, laid).
  DERIVED. THE GIVEN ROWS OF THIS SEAT. 6 by the template 'for every input the law returns true; each argument reads behind the call as it read before'; 0 by the template 'total and deterministic' (their statements: YtnmmcnblepadlaaTotals.lean).
  GIVEN WITH THE SEED: the statements are not yours to turn. If you find one false, say at which input.
  Laid BY PROGRAM, IN A SANDBOX (cutbox-rows.mjs): the forced cells as the released guide's own fill.sh prints them over the translation 8a069430869598aa… (all of the seat's roots in one cut). By AI agents, Wed Nov 11 2026. No macro, syntax, notation, axiom, sorry.
-/
import Derived.Test.YtnmmcnblepadlaaChecked
import GoSem.Claim
import GoSem.ClaimJoined
import GoSem.ClaimMapViews
import Derived.JoinedTies
import Derived.KernelRfl
namespace Go.Proofs.Ytnmmcnblepadlaa
/- THE CELL 'sum', in the pinned program and in every row, IS THE sha256 OF THE DUMP (.gsa) THAT YtnmmcnblepadlaaProg.lean LOADS. Nothing in Lean hashes anything: it is a label: what it is worth is what the hold of that sum in a sandbox is worth. -/
noncomputable def Try.pinned : Pinned := { name := "ytnmmcnblepadlaa", sum := "8a069430869598aa08be9ecaabf48ffe0479ee8d835485b51b7018784a74986d", checked := Try.checked }
namespace Rows
def none {H : Type} : Left H := { results := [], args := [] }

/-- 'noonbelllaw06.RecordEncodes': WHATEVER THE INPUT: true; the input reads as it did. -/
def recordEncodesSpec : ChangeSpec := { name := "recordEncodes", fn := fun _ => fun
  | [d] => { results := [.lit (.bool true)], args := [d] }
  | _ => none }
def recordEncodesRow : OpenClaim := { program := "ytnmmcnblepadlaa", sum := "8a069430869598aa08be9ecaabf48ffe0479ee8d835485b51b7018784a74986d", func := "noonbell/noonbelllaw06.RecordEncodes", spec := "recordEncodes", apart := false }
def RecordEncodesSaid : Prop := recordEncodesRow.holds Try.pinned (OpenSpec.ofChange recordEncodesSpec)

/-- ITS FALSE NEIGHBOUR: 'it returns false'. Refute it at one input. -/
def recordEncodesWrong : ChangeSpec := { name := "recordEncodes", fn := fun _ => fun
  | [d] => { results := [.lit (.bool false)], args := [d] }
  | _ => none }
def RecordEncodesWrongFalsely : Prop := recordEncodesRow.holds Try.pinned (OpenSpec.ofChange recordEncodesWrong)

/-- 'noonbelllaw06.RecordNums': WHATEVER THE INPUT: true; the input reads as it did. -/
def recordNumsSpec : ChangeSpec := { name := "recordNums", fn := fun _ => fun
  | [d] => { results := [.lit (.bool true)], args := [d] }
  | _ => none }
def recordNumsRow : OpenClaim := { program := "ytnmmcnblepadlaa", sum := "8a069430869598aa08be9ecaabf48ffe0479ee8d835485b51b7018784a74986d", func := "noonbell/noonbelllaw06.RecordNums", spec := "recordNums", unfollowed := true, recurses := true, apart := false }
def RecordNumsSaid : Prop := recordNumsRow.holds Try.pinned (OpenSpec.ofChange recordNumsSpec)

/-- ITS FALSE NEIGHBOUR: 'it returns false'. Refute it at one input. -/
def recordNumsWrong : ChangeSpec := { name := "recordNums", fn := fun _ => fun
  | [d] => { results := [.lit (.bool false)], args := [d] }
  | _ => none }
def RecordNumsWrongFalsely : Prop := recordNumsRow.holds Try.pinned (OpenSpec.ofChange recordNumsWrong)

/-- 'noonbelllaw06.RecordOne': WHATEVER THE INPUT: true; the input reads as it did. -/
def recordOneSpec : ChangeSpec := { name := "recordOne", fn := fun _ => fun
  | [d1, d2] => { results := [.lit (.bool true)], args := [d1, d2] }
  | _ => none }
def recordOneRow : OpenClaim := { program := "ytnmmcnblepadlaa", sum := "8a069430869598aa08be9ecaabf48ffe0479ee8d835485b51b7018784a74986d", func := "noonbell/noonbelllaw06.RecordOne", spec := "recordOne", unfollowed := true, recurses := true, apart := false }
def RecordOneSaid : Prop := recordOneRow.holds Try.pinned (OpenSpec.ofChange recordOneSpec)

/-- ITS FALSE NEIGHBOUR: 'it returns false'. Refute it at one input. -/
def recordOneWrong : ChangeSpec := { name := "recordOne", fn := fun _ => fun
  | [d1, d2] => { results := [.lit (.bool false)], args := [d1, d2] }
  | _ => none }
def RecordOneWrongFalsely : Prop := recordOneRow.holds Try.pinned (OpenSpec.ofChange recordOneWrong)

/-- 'noonbelllaw06.RecordDecodes': WHATEVER THE INPUT: true; the input reads as it did. -/
def recordDecodesSpec : ChangeSpec := { name := "recordDecodes", fn := fun _ => fun
  | [d] => { results := [.lit (.bool true)], args := [d] }
  | _ => none }
def recordDecodesRow : OpenClaim := { program := "ytnmmcnblepadlaa", sum := "8a069430869598aa08be9ecaabf48ffe0479ee8d835485b51b7018784a74986d", func := "noonbell/noonbelllaw06.RecordDecodes", spec := "recordDecodes", unfollowed := true, recurses := true, apart := false }
def RecordDecodesSaid : Prop := recordDecodesRow.holds Try.pinned (OpenSpec.ofChange recordDecodesSpec)

/-- ITS FALSE NEIGHBOUR: 'it returns false'. Refute it at one input. -/
def recordDecodesWrong : ChangeSpec := { name := "recordDecodes", fn := fun _ => fun
  | [d] => { results := [.lit (.bool false)], args := [d] }
  | _ => none }
def RecordDecodesWrongFalsely : Prop := recordDecodesRow.holds Try.pinned (OpenSpec.ofChange recordDecodesWrong)

/-- 'noonbelllaw06.RecordBack': WHATEVER THE INPUT: true; the input reads as it did. -/
def recordBackSpec : ChangeSpec := { name := "recordBack", fn := fun _ => fun
  | [d1, d2] => { results := [.lit (.bool true)], args := [d1, d2] }
  | _ => none }
def recordBackRow : OpenClaim := { program := "ytnmmcnblepadlaa", sum := "8a069430869598aa08be9ecaabf48ffe0479ee8d835485b51b7018784a74986d", func := "noonbell/noonbelllaw06.RecordBack", spec := "recordBack", unfollowed := true, recurses := true, apart := false }
def RecordBackSaid : Prop := recordBackRow.holds Try.pinned (OpenSpec.ofChange recordBackSpec)

/-- ITS FALSE NEIGHBOUR: 'it returns false'. Refute it at one input. -/
def recordBackWrong : ChangeSpec := { name := "recordBack", fn := fun _ => fun
  | [d1, d2] => { results := [.lit (.bool false)], args := [d1, d2] }
  | _ => none }
def RecordBackWrongFalsely : Prop := recordBackRow.holds Try.pinned (OpenSpec.ofChange recordBackWrong)

/-- 'noonbelllaw06.RecordJoined': WHATEVER THE INPUT: true; the input reads as it did. -/
def recordJoinedSpec : ChangeSpec := { name := "recordJoined", fn := fun _ => fun
  | [d1, d2] => { results := [.lit (.bool true)], args := [d1, d2] }
  | _ => none }
def recordJoinedRow : OpenClaim := { program := "ytnmmcnblepadlaa", sum := "8a069430869598aa08be9ecaabf48ffe0479ee8d835485b51b7018784a74986d", func := "noonbell/noonbelllaw06.RecordJoined", spec := "recordJoined", unfollowed := true, recurses := true, apart := false }
def RecordJoinedSaid : Prop := recordJoinedRow.holds Try.pinned (OpenSpec.ofChange recordJoinedSpec)

/-- ITS FALSE NEIGHBOUR: 'it returns false'. Refute it at one input. -/
def recordJoinedWrong : ChangeSpec := { name := "recordJoined", fn := fun _ => fun
  | [d1, d2] => { results := [.lit (.bool false)], args := [d1, d2] }
  | _ => none }
def RecordJoinedWrongFalsely : Prop := recordJoinedRow.holds Try.pinned (OpenSpec.ofChange recordJoinedWrong)

/- THE SECOND FORM. 'bulk': how many values and letters a reading holds, each counted each time it is reached (what is shared counts as often as it is met; a slice's spare places count too). A statement '..UptoSaid' is the law's where the arguments, and the package variables that the reading takes, are together of bulk at most 1048576: NARROWER than '..Said'. Prove '..Said' where nothing that the law and all that it calls make is longer than what came in: it says more and counts as full. Else prove '..UptoSaid'. A law counts once. -/
mutual
def uptoBulk {H : Type} : DataW H → Nat
  | .lit (.string bytes) => bytes.length + 1
  | .lit _ => 1
  | .nil => 1
  | .ptr d => uptoBulk d + 1
  | .slice elems spare => uptoBulkAll elems + uptoBulkAll spare + 1
  | .agg parts => uptoBulkAll parts + 1
  | .iface _ d => uptoBulk d + 1
  | .map entries => uptoBulkEntries entries + 1
  | .held _ => 1
def uptoBulkAll {H : Type} : List (DataW H) → Nat
  | [] => 0
  | d :: r => uptoBulk d + uptoBulkAll r
def uptoBulkEntries {H : Type} : List (Lit × DataW H) → Nat
  | [] => 0
  | x :: r => uptoBulkEntry x + uptoBulkEntries r
def uptoBulkEntry {H : Type} : Lit × DataW H → Nat
  | (.string bytes, d) => bytes.length + uptoBulk d + 1
  | (_, d) => uptoBulk d + 1
 end
def uptoSmall : (H : Type) → List (DataW H) → Bool := fun _ ds => decide (uptoBulkAll ds ≤ 1048576)
def OpenSpec.upto (s : _root_.Go.ChangeSpec) : _root_.Go.OpenSpec := { _root_.Go.OpenSpec.ofChange s with cond := some uptoSmall }

/-- 'noonbelllaw06.RecordEncodes', WHERE WHAT IT READS IS OF BULK AT MOST 1048576: true; the input reads as it did. -/
def recordEncodesUptoRow : OpenClaim := { program := "ytnmmcnblepadlaa", sum := "8a069430869598aa08be9ecaabf48ffe0479ee8d835485b51b7018784a74986d", func := "noonbell/noonbelllaw06.RecordEncodes", spec := "recordEncodes", apart := false, narrowed := true }
def RecordEncodesUptoSaid : Prop := recordEncodesUptoRow.holds Try.pinned (OpenSpec.upto recordEncodesSpec)

/-- 'noonbelllaw06.RecordNums', WHERE WHAT IT READS IS OF BULK AT MOST 1048576: true; the input reads as it did. -/
def recordNumsUptoRow : OpenClaim := { program := "ytnmmcnblepadlaa", sum := "8a069430869598aa08be9ecaabf48ffe0479ee8d835485b51b7018784a74986d", func := "noonbell/noonbelllaw06.RecordNums", spec := "recordNums", unfollowed := true, recurses := true, apart := false, narrowed := true }
def RecordNumsUptoSaid : Prop := recordNumsUptoRow.holds Try.pinned (OpenSpec.upto recordNumsSpec)

/-- 'noonbelllaw06.RecordOne', WHERE WHAT IT READS IS OF BULK AT MOST 1048576: true; the input reads as it did. -/
def recordOneUptoRow : OpenClaim := { program := "ytnmmcnblepadlaa", sum := "8a069430869598aa08be9ecaabf48ffe0479ee8d835485b51b7018784a74986d", func := "noonbell/noonbelllaw06.RecordOne", spec := "recordOne", unfollowed := true, recurses := true, apart := false, narrowed := true }
def RecordOneUptoSaid : Prop := recordOneUptoRow.holds Try.pinned (OpenSpec.upto recordOneSpec)

/-- 'noonbelllaw06.RecordDecodes', WHERE WHAT IT READS IS OF BULK AT MOST 1048576: true; the input reads as it did. -/
def recordDecodesUptoRow : OpenClaim := { program := "ytnmmcnblepadlaa", sum := "8a069430869598aa08be9ecaabf48ffe0479ee8d835485b51b7018784a74986d", func := "noonbell/noonbelllaw06.RecordDecodes", spec := "recordDecodes", unfollowed := true, recurses := true, apart := false, narrowed := true }
def RecordDecodesUptoSaid : Prop := recordDecodesUptoRow.holds Try.pinned (OpenSpec.upto recordDecodesSpec)

/-- 'noonbelllaw06.RecordBack', WHERE WHAT IT READS IS OF BULK AT MOST 1048576: true; the input reads as it did. -/
def recordBackUptoRow : OpenClaim := { program := "ytnmmcnblepadlaa", sum := "8a069430869598aa08be9ecaabf48ffe0479ee8d835485b51b7018784a74986d", func := "noonbell/noonbelllaw06.RecordBack", spec := "recordBack", unfollowed := true, recurses := true, apart := false, narrowed := true }
def RecordBackUptoSaid : Prop := recordBackUptoRow.holds Try.pinned (OpenSpec.upto recordBackSpec)

/-- 'noonbelllaw06.RecordJoined', WHERE WHAT IT READS IS OF BULK AT MOST 1048576: true; the input reads as it did. -/
def recordJoinedUptoRow : OpenClaim := { program := "ytnmmcnblepadlaa", sum := "8a069430869598aa08be9ecaabf48ffe0479ee8d835485b51b7018784a74986d", func := "noonbell/noonbelllaw06.RecordJoined", spec := "recordJoined", unfollowed := true, recurses := true, apart := false, narrowed := true }
def RecordJoinedUptoSaid : Prop := recordJoinedUptoRow.holds Try.pinned (OpenSpec.upto recordJoinedSpec)

end Rows
end Go.Proofs.Ytnmmcnblepadlaa
