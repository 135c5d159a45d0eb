/- The reference's disk in memory: a block of 11 cells, and three rows of its own. -/
import Derived.Test.YtjeaejeikgkcaaaK10
namespace Go.Proofs.Ytjeaejeikgkcaaa
set_option linter.unusedSimpArgs false
set_option linter.unusedVariables false
open Go.RowKit
structure RS where
  was : List ByteArray
  is : List ByteArray
  cached : List Nat
  n : Int
  ci : Bool
  cl : Int
  fi : Bool
  fl : Int
  keep : Int
  gone : Bool
  broken : Bool
def rcells (r : RS) (a b c : Value) : List Value := [a, b, c, .int .i64 r.n, .bool r.ci, .int .i64 r.cl, .bool r.fi, .int .i64 r.fl, .int .u64 r.keep, .bool r.gone, .bool r.broken]
/-- Block p is the reference's disk r: its rows lie apart, all of them in F. -/
structure Rdk (w : World) (p : Nat) (F : Nat → Prop) (r : RS) (a b c : Value) : Prop where
  box : Box w p (rcells r a b c).toArray 52
  was : OwnE Value.string 9 0 w a r.was
  is : OwnE Value.string 9 0 w b r.is
  cached : OwnE iE 3 0 w c r.cached
  fp : F p
  fa : ∀ k, Foot a k → F k
  fb : ∀ k, Foot b k → F k
  fc : ∀ k, Foot c k → F k
  ab : ∀ k, Foot a k → ¬ Foot b k
  lt : ∀ k, F k → k < w.heap.size
section
variable {w w' : World} {p : Nat} {F S : Nat → Prop} {r : RS} {a b c : Value}
/-- Other stores leave it as it is. -/
theorem Rdk.frame (h : Rdk w p F r a b c) (hb : But S w w') (hS : ∀ k, F k → ¬ S k) : Rdk w' p F r a b c :=
  ⟨hb.box h.box (hS p h.fp), h.was.frame hb fun k hk => hS k (h.fa k hk), h.is.frame hb fun k hk => hS k (h.fb k hk), h.cached.frame hb fun k hk => hS k (h.fc k hk), h.fp, h.fa, h.fb, h.fc, h.ab, fun k hk => Nat.lt_of_lt_of_le (h.lt k hk) hb.size⟩
theorem Rdk.cell (h : Rdk w p F r a b c) (i : Nat) : w.cell? ⟨p, i, none⟩ = (rcells r a b c)[i]? := by rw [h.box.cell]; simp
theorem Rdk.frozen (h : Rdk w p F r a b c) (i : Nat) : w.frozen? ⟨p, i, none⟩ = false := h.box.frozen i
end
end Go.Proofs.Ytjeaejeikgkcaaa
