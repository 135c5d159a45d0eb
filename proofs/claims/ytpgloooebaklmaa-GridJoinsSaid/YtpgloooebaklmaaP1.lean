/- Islands of small grids, in plain words. -/
import Derived.Test.YtpgloooebaklmaaG4
namespace Go.Proofs.Ytpgloooebaklmaa
set_option linter.unusedSimpArgs false
set_option linter.unusedVariables false
/-- A line: from, to, does it carry something? -/
abbrev Ln := Nat × Nat × Bool
/-- The first line that joins two islands. -/
def step (xs : List Nat) : List Ln → Option (List Nat)
  | [] => none
  | (f, t, c) :: r => if c && xs.getD f 0 != xs.getD t 0 then some ((xs.set f (min (xs.getD f 0) (xs.getD t 0))).set t (min (xs.getD f 0) (xs.getD t 0))) else step xs r
def run (ls : List Ln) : Nat → List Nat → List Nat
  | 0, xs => xs
  | n + 1, xs => match step xs ls with
    | none => xs
    | some ys => run ls n ys
inductive Steps (ls : List Ln) : List Nat → List Nat → Prop
  | refl (xs) : Steps ls xs xs
  | tail {xs ys zs} : Steps ls xs ys → step ys ls = some zs → Steps ls xs zs
theorem Steps.head {ls : List Ln} {xs ys zs : List Nat} (h : step xs ls = some ys) (k : Steps ls ys zs) : Steps ls xs zs := by
  induction k with
  | refl => exact .tail (.refl _) h
  | tail _ h2 ih => exact .tail ih h2
theorem steps_run {ls : List Ln} : ∀ (n : Nat) (xs L : List Nat), Steps ls xs L → step L ls = none → step (run ls n xs) ls = none → run ls n xs = L := by
  have key : ∀ xs L, Steps ls xs L → (xs = L) ∨ ∃ ys, step xs ls = some ys ∧ Steps ls ys L := by
    intro xs L h
    induction h with
    | refl => exact .inl rfl
    | tail h1 h2 ih =>
      rcases ih with rfl | ⟨ys, e, k⟩
      · exact .inr ⟨_, h2, .refl _⟩
      · exact .inr ⟨ys, e, .tail k h2⟩
  intro n
  induction n with
  | zero =>
    intro xs L h hL hr
    rcases key xs L h with rfl | ⟨ys, e, _⟩
    · rfl
    · have : step xs ls = none := hr
      rw [this] at e; cases e
  | succ n ih =>
    intro xs L h hL hr
    rcases key xs L h with rfl | ⟨ys, e, k⟩
    · unfold run
      rw [hL]
    · have e2 : run ls (n + 1) xs = run ls n ys := by
        conv => lhs; unfold run
        rw [e]
      rw [e2] at hr ⊢
      exact ih ys L k hL hr
def pass (r : List Bool) : List Ln → List Bool
  | [] => r
  | (f, t, c) :: ls => if c && (r.getD f false || r.getD t false) then pass ((r.set f true).set t true) ls else pass r ls
def passes (ls : List Ln) : Nat → List Bool → List Bool
  | 0, r => r
  | n + 1, r => pass (passes ls n r) ls
def good (z : Nat) (ls : List Ln) : Bool :=
  let L := run ls 9 (List.range z)
  (step L ls == none) && (L.length == z) && ((List.range z).all fun i => decide (L.getD i 0 ≤ i) && decide (L.getD (L.getD i 0) 0 = L.getD i 0)) &&
  (ls.all fun l => !l.2.2 || decide (L.getD l.1 0 = L.getD l.2.1 0)) &&
  ((List.range z).all fun i => (passes ls z ((List.replicate z false).set (L.getD i 0) true)).getD i false)
def els (z : Nat) : List Ln := (List.range z).flatMap fun f => (List.range z).flatMap fun t => [(f, t, false), (f, t, true)]
def goodAll (z : Nat) : Bool := good z [] && (els z).all fun a => good z [a] && (els z).all fun b => good z [a, b] && (els z).all fun c => good z [a, b, c]
theorem good1 : goodAll 1 = true := by decide +kernel
theorem good2 : goodAll 2 = true := by decide +kernel
theorem good3 : goodAll 3 = true := by decide +kernel
end Go.Proofs.Ytpgloooebaklmaa
