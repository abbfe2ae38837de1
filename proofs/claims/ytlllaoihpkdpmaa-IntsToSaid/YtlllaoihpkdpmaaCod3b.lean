/- What the program's sixth layer makes of parts, and its reference: a pattern that has just these parts, where there is one. -/
import Derived.Test.YtlllaoihpkdpmaaF0b
import Derived.Test.YtlllaoihpkdpmaaCod2b
namespace Go.Proofs.Ytlllaoihpkdpmaa.M
open Go.RowKit Go.Proofs.YtlllaoihpkdpmaaW.PrintWords Go.Proofs.YtlllaoihpkdpmaaW.PrintLast Go.Proofs.YtlllaoihpkdpmaaW.PrintMore Go.Proofs.Ytlllaoihpkdpmaa.F
set_option linter.unusedVariables false
set_option linter.unusedSimpArgs false
/-- A size with its sign is the pattern. -/
def signN (n : Nat) (neg : Bool) (m : Nat) : Nat := if neg = true then ngN m % 2 ^ n else m
/-- The parts of a Real. -/
abbrev F8 := Bool × Bool × Int × Int × Int × Int × Int × Int
noncomputable instance F8.dec (a b : F8) : Decidable (a = b) := Classical.propDecidable (a = b)
def F8.with {ε : Type} (f : F8) (e : ε) : Bool × Bool × Int × Int × Int × Int × Int × Int × ε := (f.1, f.2.1, f.2.2.1, f.2.2.2.1, f.2.2.2.2.1, f.2.2.2.2.2.1, f.2.2.2.2.2.2.1, f.2.2.2.2.2.2.2, e)
end Go.Proofs.Ytlllaoihpkdpmaa.M
