/- What the program's sixth layer makes of parts, and its reference: a pattern that has just these parts, where there is one. -/
import Derived.Test.YtpdpggndhmnggaaF0b
import Derived.Test.YtpdpggndhmnggaaCod2b
import Derived.Test.YtpdpggndhmnggaaF20b
namespace Go.Proofs.Ytpdpggndhmnggaa.M
open Go.RowKit Go.Proofs.YtpdpggndhmnggaaW.PrintWords Go.Proofs.YtpdpggndhmnggaaW.PrintLast Go.Proofs.YtpdpggndhmnggaaW.PrintMore Go.Proofs.Ytpdpggndhmnggaa.F
set_option linter.unusedVariables false
set_option linter.unusedSimpArgs false
/-- A size with its sign is the pattern. -/
def signN (n : Nat) (neg : Bool) (m : Nat) : Nat := if neg = true then ngN m % 2 ^ n else m
/-- The parts of a Real. -/
abbrev F8 := Bool × Bool × Int × Int × Int × Int × Int × Int
noncomputable instance F8.dec (a b : F8) : Decidable (a = b) := Classical.propDecidable (a = b)
def F8.with {ε : Type} (f : F8) (e : ε) : Bool × Bool × Int × Int × Int × Int × Int × Int × ε := (f.1, f.2.1, f.2.2.1, f.2.2.2.1, f.2.2.2.2.1, f.2.2.2.2.2.1, f.2.2.2.2.2.2.1, f.2.2.2.2.2.2.2, e)
/-- May these parts be? -/
def okF (n : Nat) (f : F8) : Prop := 1 ≤ f.2.2.1 ∧ f.2.2.1 ≤ (n : Int) - 1 ∧ 0 ≤ f.2.2.2.2.1 ∧ f.2.2.2.2.1 ≤ 2 ∧ 0 ≤ f.2.2.2.2.2.1 ∧ f.2.2.2.2.2.1 ≤ 3 ∧ 0 ≤ f.2.2.2.2.2.2.1 ∧ f.2.2.2.2.2.2.1 ≤ (n : Int)
end Go.Proofs.Ytpdpggndhmnggaa.M

namespace Go.Proofs.Ytpdpggndhmnggaa.M
open Go.RowKit Go.Proofs.YtpdpggndhmnggaaW.PrintWords Go.Proofs.YtpdpggndhmnggaaW.PrintLast Go.Proofs.YtpdpggndhmnggaaW.PrintMore Go.Proofs.Ytpdpggndhmnggaa.F
set_option linter.unusedVariables false
set_option linter.unusedSimpArgs false
/-- A run and the bit that ends it. -/
def hdN (ones : Bool) (r : Nat) : Nat := if ones = true then (2 ^ r - 1) * 2 else 1
end Go.Proofs.Ytpdpggndhmnggaa.M
