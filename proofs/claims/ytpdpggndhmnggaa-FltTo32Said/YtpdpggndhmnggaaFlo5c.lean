/- The reference's Form.From. -/
import Derived.Test.YtpdpggndhmnggaaF15c
import Derived.Test.YtpdpggndhmnggaaF16c
import Derived.Test.YtpdpggndhmnggaaF17c
import Derived.Test.YtpdpggndhmnggaaF18c
import Derived.Test.YtpdpggndhmnggaaFlo4c
namespace Go.Proofs.Ytpdpggndhmnggaa.M
open Go.RowKit Go.Proofs.YtpdpggndhmnggaaW.PrintWords Go.Proofs.YtpdpggndhmnggaaW.PrintLast Go.Proofs.YtpdpggndhmnggaaW.PrintMore Go.Proofs.Ytpdpggndhmnggaa.F
set_option linter.unusedVariables false
set_option linter.unusedSimpArgs false
theorem two17_l0 (n : Nat) (hn : n ≤ 62) : ∀ (d i : Nat), n - i ≤ d → i ≤ n → Ev (fun k => vernierref17_two.l0 k (n : Int) ((2 ^ i : Nat) : Int) (i : Int)) ((2 ^ n : Nat) : Int) := by
  intro d
  induction d with
  | zero =>
    intro i hd hi
    obtain rfl : i = n := by omega
    refine Ev.step (f := fun k => some ((2 ^ i : Nat) : Int)) (fun k => ?_) (Ev.now _)
    simp only [vernierref17_two.l0]
    rw [if_neg (by omega)]
  | succ d ih =>
    intro i hd hi
    by_cases h : i < n
    · refine Ev.step (f := fun k => vernierref17_two.l0 k (n : Int) ((2 ^ (i + 1) : Nat) : Int) ((i + 1 : Nat) : Int)) (fun k => ?_) (ih (i + 1) (by omega) (by omega))
      simp only [vernierref17_two.l0]
      have hp : 2 ^ i < 2 ^ 62 := Nat.pow_lt_pow_right (by decide) (by omega)
      have e : IntKind.u64.wrap (2 * ((2 ^ i : Nat) : Int)) = ((2 ^ (i + 1) : Nat) : Int) := by
        rw [u64w, Nat.pow_succ]; omega
      rw [if_pos (by omega), e, w64 (by omega) (by omega)]
      rfl
    · exact ih i (by omega) hi
theorem two17_ev {n : Nat} (hn : n ≤ 62) : Ev (fun k => vernierref17_two.f k (n : Int)) ((2 ^ n : Nat) : Int) := two17_l0 n hn n 0 (by omega) (by omega)
def eR (f r : Nat) (low : Int) : Int := if r < f then low else low + ((r / f - 1 : Nat) : Int)
end Go.Proofs.Ytpdpggndhmnggaa.M
