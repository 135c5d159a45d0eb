/-
  No cell of these rows narrows 'for every input' (looked for: loops, veiled, ifaces, maps, wideKeys, modest, calm, conditions, laid).
  DERIVED. THE GIVEN ROWS OF THIS SEAT. 6 by the template 'for every input the law returns true; each argument reads behind the call as it read before'; 0 by the template 'total and deterministic' (their statements: YtmcmhlbbclnomaaTotals.lean).
  GIVEN WITH THE SEED: the statements are not yours to turn. If you find one false, say at which input.
  Laid BY PROGRAM, IN A SANDBOX (cutbox-rows.mjs): the forced cells as the released guide's own fill.sh prints them over the translation 17ae820749c1d18d… (all of the seat's roots in one cut). By AI agents, Wed Nov 11 2026. No macro, syntax, notation, axiom, sorry.
-/
import Derived.Test.YtmcmhlbbclnomaaChecked
import GoSem.Claim
import GoSem.ClaimJoined
import GoSem.ClaimMapViews
import Derived.JoinedTies
import Derived.KernelRfl
namespace Go.Proofs.Ytmcmhlbbclnomaa
/- THE CELL 'sum', in the pinned program and in every row, IS THE sha256 OF THE DUMP (.gsa) THAT YtmcmhlbbclnomaaProg.lean LOADS. Nothing in Lean hashes anything: it is a label: what it is worth is what the hold of that sum in a sandbox is worth. -/
noncomputable def Try.pinned : Pinned := { name := "ytmcmhlbbclnomaa", sum := "17ae820749c1d18d289f22cff103e127bee0e5ef1d38e9eb1aeaf1ee1a0d7d22", checked := Try.checked }
namespace Rows
def none {H : Type} : Left H := { results := [], args := [] }

/-- 'noonbelllaw05.WalSums': WHATEVER THE INPUT: true; the input reads as it did. -/
def walSumsSpec : ChangeSpec := { name := "walSums", fn := fun _ => fun
  | [d1, d2] => { results := [.lit (.bool true)], args := [d1, d2] }
  | _ => none }
def walSumsRow : OpenClaim := { program := "ytmcmhlbbclnomaa", sum := "17ae820749c1d18d289f22cff103e127bee0e5ef1d38e9eb1aeaf1ee1a0d7d22", func := "noonbell/noonbelllaw05.WalSums", spec := "walSums", apart := false }
def WalSumsSaid : Prop := walSumsRow.holds Try.pinned (OpenSpec.ofChange walSumsSpec)

/-- ITS FALSE NEIGHBOUR: 'it returns false'. Refute it at one input. -/
def walSumsWrong : ChangeSpec := { name := "walSums", fn := fun _ => fun
  | [d1, d2] => { results := [.lit (.bool false)], args := [d1, d2] }
  | _ => none }
def WalSumsWrongFalsely : Prop := walSumsRow.holds Try.pinned (OpenSpec.ofChange walSumsWrong)

/-- 'noonbelllaw05.WalTwice': WHATEVER THE INPUT: true; the input reads as it did. -/
def walTwiceSpec : ChangeSpec := { name := "walTwice", fn := fun _ => fun
  | [d] => { results := [.lit (.bool true)], args := [d] }
  | _ => none }
def walTwiceRow : OpenClaim := { program := "ytmcmhlbbclnomaa", sum := "17ae820749c1d18d289f22cff103e127bee0e5ef1d38e9eb1aeaf1ee1a0d7d22", func := "noonbell/noonbelllaw05.WalTwice", spec := "walTwice", inPlace := ["internal/abi.NoEscape", "internal/bytealg.MakeNoZero"], unfollowed := true, recurses := true, apart := false }
def WalTwiceSaid : Prop := walTwiceRow.holds Try.pinned (OpenSpec.ofChange walTwiceSpec)

/-- ITS FALSE NEIGHBOUR: 'it returns false'. Refute it at one input. -/
def walTwiceWrong : ChangeSpec := { name := "walTwice", fn := fun _ => fun
  | [d] => { results := [.lit (.bool false)], args := [d] }
  | _ => none }
def WalTwiceWrongFalsely : Prop := walTwiceRow.holds Try.pinned (OpenSpec.ofChange walTwiceWrong)

/-- 'noonbelllaw05.WalLong': WHATEVER THE INPUT: true; the input reads as it did. -/
def walLongSpec : ChangeSpec := { name := "walLong", fn := fun _ => fun
  | [d1, d2] => { results := [.lit (.bool true)], args := [d1, d2] }
  | _ => none }
def walLongRow : OpenClaim := { program := "ytmcmhlbbclnomaa", sum := "17ae820749c1d18d289f22cff103e127bee0e5ef1d38e9eb1aeaf1ee1a0d7d22", func := "noonbell/noonbelllaw05.WalLong", spec := "walLong", inPlace := ["internal/abi.NoEscape", "internal/bytealg.MakeNoZero"], unfollowed := true, recurses := true, apart := false }
def WalLongSaid : Prop := walLongRow.holds Try.pinned (OpenSpec.ofChange walLongSpec)

/-- ITS FALSE NEIGHBOUR: 'it returns false'. Refute it at one input. -/
def walLongWrong : ChangeSpec := { name := "walLong", fn := fun _ => fun
  | [d1, d2] => { results := [.lit (.bool false)], args := [d1, d2] }
  | _ => none }
def WalLongWrongFalsely : Prop := walLongRow.holds Try.pinned (OpenSpec.ofChange walLongWrong)

/-- 'noonbelllaw05.WalEach': WHATEVER THE INPUT: true; the input reads as it did. -/
def walEachSpec : ChangeSpec := { name := "walEach", fn := fun _ => fun
  | [d1, d2] => { results := [.lit (.bool true)], args := [d1, d2] }
  | _ => none }
def walEachRow : OpenClaim := { program := "ytmcmhlbbclnomaa", sum := "17ae820749c1d18d289f22cff103e127bee0e5ef1d38e9eb1aeaf1ee1a0d7d22", func := "noonbell/noonbelllaw05.WalEach", spec := "walEach", inPlace := ["internal/abi.NoEscape", "internal/bytealg.MakeNoZero"], unfollowed := true, recurses := true, apart := false }
def WalEachSaid : Prop := walEachRow.holds Try.pinned (OpenSpec.ofChange walEachSpec)

/-- ITS FALSE NEIGHBOUR: 'it returns false'. Refute it at one input. -/
def walEachWrong : ChangeSpec := { name := "walEach", fn := fun _ => fun
  | [d1, d2] => { results := [.lit (.bool false)], args := [d1, d2] }
  | _ => none }
def WalEachWrongFalsely : Prop := walEachRow.holds Try.pinned (OpenSpec.ofChange walEachWrong)

/-- 'noonbelllaw05.WalCuts': WHATEVER THE INPUT: true; the input reads as it did. -/
def walCutsSpec : ChangeSpec := { name := "walCuts", fn := fun _ => fun
  | [d1, d2, d3, d4, d5, d6] => { results := [.lit (.bool true)], args := [d1, d2, d3, d4, d5, d6] }
  | _ => none }
def walCutsRow : OpenClaim := { program := "ytmcmhlbbclnomaa", sum := "17ae820749c1d18d289f22cff103e127bee0e5ef1d38e9eb1aeaf1ee1a0d7d22", func := "noonbell/noonbelllaw05.WalCuts", spec := "walCuts", inPlace := ["internal/abi.NoEscape", "internal/bytealg.MakeNoZero"], unfollowed := true, recurses := true, apart := false }
def WalCutsSaid : Prop := walCutsRow.holds Try.pinned (OpenSpec.ofChange walCutsSpec)

/-- ITS FALSE NEIGHBOUR: 'it returns false'. Refute it at one input. -/
def walCutsWrong : ChangeSpec := { name := "walCuts", fn := fun _ => fun
  | [d1, d2, d3, d4, d5, d6] => { results := [.lit (.bool false)], args := [d1, d2, d3, d4, d5, d6] }
  | _ => none }
def WalCutsWrongFalsely : Prop := walCutsRow.holds Try.pinned (OpenSpec.ofChange walCutsWrong)

/-- 'noonbelllaw05.WalRefuses': WHATEVER THE INPUT: true; the input reads as it did. -/
def walRefusesSpec : ChangeSpec := { name := "walRefuses", fn := fun _ => fun
  | [d1, d2, d3, d4] => { results := [.lit (.bool true)], args := [d1, d2, d3, d4] }
  | _ => none }
def walRefusesRow : OpenClaim := { program := "ytmcmhlbbclnomaa", sum := "17ae820749c1d18d289f22cff103e127bee0e5ef1d38e9eb1aeaf1ee1a0d7d22", func := "noonbell/noonbelllaw05.WalRefuses", spec := "walRefuses", inPlace := ["internal/abi.NoEscape", "internal/bytealg.MakeNoZero"], unfollowed := true, recurses := true, apart := false }
def WalRefusesSaid : Prop := walRefusesRow.holds Try.pinned (OpenSpec.ofChange walRefusesSpec)

/-- ITS FALSE NEIGHBOUR: 'it returns false'. Refute it at one input. -/
def walRefusesWrong : ChangeSpec := { name := "walRefuses", fn := fun _ => fun
  | [d1, d2, d3, d4] => { results := [.lit (.bool false)], args := [d1, d2, d3, d4] }
  | _ => none }
def WalRefusesWrongFalsely : Prop := walRefusesRow.holds Try.pinned (OpenSpec.ofChange walRefusesWrong)

/- THE SECOND FORM. 'bulk': how many values and letters a reading holds, each counted each time it is reached (what is shared counts as often as it is met; a slice's spare places count too). A statement '..UptoSaid' is the law's where the arguments, and the package variables that the reading takes, are together of bulk at most 1048576: NARROWER than '..Said'. Prove '..Said' where nothing that the law and all that it calls make is longer than what came in: it says more and counts as full. Else prove '..UptoSaid'. A law counts once. -/
mutual
def uptoBulk {H : Type} : DataW H → Nat
  | .lit (.string bytes) => bytes.length + 1
  | .lit _ => 1
  | .nil => 1
  | .ptr d => uptoBulk d + 1
  | .slice elems spare => uptoBulkAll elems + uptoBulkAll spare + 1
  | .agg parts => uptoBulkAll parts + 1
  | .iface _ d => uptoBulk d + 1
  | .map entries => uptoBulkEntries entries + 1
  | .held _ => 1
def uptoBulkAll {H : Type} : List (DataW H) → Nat
  | [] => 0
  | d :: r => uptoBulk d + uptoBulkAll r
def uptoBulkEntries {H : Type} : List (Lit × DataW H) → Nat
  | [] => 0
  | x :: r => uptoBulkEntry x + uptoBulkEntries r
def uptoBulkEntry {H : Type} : Lit × DataW H → Nat
  | (.string bytes, d) => bytes.length + uptoBulk d + 1
  | (_, d) => uptoBulk d + 1
 end
def uptoSmall : (H : Type) → List (DataW H) → Bool := fun _ ds => decide (uptoBulkAll ds ≤ 1048576)
def OpenSpec.upto (s : _root_.Go.ChangeSpec) : _root_.Go.OpenSpec := { _root_.Go.OpenSpec.ofChange s with cond := some uptoSmall }

/-- 'noonbelllaw05.WalSums', WHERE WHAT IT READS IS OF BULK AT MOST 1048576: true; the input reads as it did. -/
def walSumsUptoRow : OpenClaim := { program := "ytmcmhlbbclnomaa", sum := "17ae820749c1d18d289f22cff103e127bee0e5ef1d38e9eb1aeaf1ee1a0d7d22", func := "noonbell/noonbelllaw05.WalSums", spec := "walSums", apart := false, narrowed := true }
def WalSumsUptoSaid : Prop := walSumsUptoRow.holds Try.pinned (OpenSpec.upto walSumsSpec)

/-- 'noonbelllaw05.WalTwice', WHERE WHAT IT READS IS OF BULK AT MOST 1048576: true; the input reads as it did. -/
def walTwiceUptoRow : OpenClaim := { program := "ytmcmhlbbclnomaa", sum := "17ae820749c1d18d289f22cff103e127bee0e5ef1d38e9eb1aeaf1ee1a0d7d22", func := "noonbell/noonbelllaw05.WalTwice", spec := "walTwice", inPlace := ["internal/abi.NoEscape", "internal/bytealg.MakeNoZero"], unfollowed := true, recurses := true, apart := false, narrowed := true }
def WalTwiceUptoSaid : Prop := walTwiceUptoRow.holds Try.pinned (OpenSpec.upto walTwiceSpec)

/-- 'noonbelllaw05.WalLong', WHERE WHAT IT READS IS OF BULK AT MOST 1048576: true; the input reads as it did. -/
def walLongUptoRow : OpenClaim := { program := "ytmcmhlbbclnomaa", sum := "17ae820749c1d18d289f22cff103e127bee0e5ef1d38e9eb1aeaf1ee1a0d7d22", func := "noonbell/noonbelllaw05.WalLong", spec := "walLong", inPlace := ["internal/abi.NoEscape", "internal/bytealg.MakeNoZero"], unfollowed := true, recurses := true, apart := false, narrowed := true }
def WalLongUptoSaid : Prop := walLongUptoRow.holds Try.pinned (OpenSpec.upto walLongSpec)

/-- 'noonbelllaw05.WalEach', WHERE WHAT IT READS IS OF BULK AT MOST 1048576: true; the input reads as it did. -/
def walEachUptoRow : OpenClaim := { program := "ytmcmhlbbclnomaa", sum := "17ae820749c1d18d289f22cff103e127bee0e5ef1d38e9eb1aeaf1ee1a0d7d22", func := "noonbell/noonbelllaw05.WalEach", spec := "walEach", inPlace := ["internal/abi.NoEscape", "internal/bytealg.MakeNoZero"], unfollowed := true, recurses := true, apart := false, narrowed := true }
def WalEachUptoSaid : Prop := walEachUptoRow.holds Try.pinned (OpenSpec.upto walEachSpec)

/-- 'noonbelllaw05.WalCuts', WHERE WHAT IT READS IS OF BULK AT MOST 1048576: true; the input reads as it did. -/
def walCutsUptoRow : OpenClaim := { program := "ytmcmhlbbclnomaa", sum := "17ae820749c1d18d289f22cff103e127bee0e5ef1d38e9eb1aeaf1ee1a0d7d22", func := "noonbell/noonbelllaw05.WalCuts", spec := "walCuts", inPlace := ["internal/abi.NoEscape", "internal/bytealg.MakeNoZero"], unfollowed := true, recurses := true, apart := false, narrowed := true }
def WalCutsUptoSaid : Prop := walCutsUptoRow.holds Try.pinned (OpenSpec.upto walCutsSpec)

/-- 'noonbelllaw05.WalRefuses', WHERE WHAT IT READS IS OF BULK AT MOST 1048576: true; the input reads as it did. -/
def walRefusesUptoRow : OpenClaim := { program := "ytmcmhlbbclnomaa", sum := "17ae820749c1d18d289f22cff103e127bee0e5ef1d38e9eb1aeaf1ee1a0d7d22", func := "noonbell/noonbelllaw05.WalRefuses", spec := "walRefuses", inPlace := ["internal/abi.NoEscape", "internal/bytealg.MakeNoZero"], unfollowed := true, recurses := true, apart := false, narrowed := true }
def WalRefusesUptoSaid : Prop := walRefusesUptoRow.holds Try.pinned (OpenSpec.upto walRefusesSpec)

end Rows
end Go.Proofs.Ytmcmhlbbclnomaa
