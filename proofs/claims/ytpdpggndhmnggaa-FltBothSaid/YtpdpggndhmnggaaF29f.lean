/- Functions of the given program as plain Lean functions, and for each a proof that the program's call comes to just these answers; no further conditions. (Written by a program of this repo out of the translation.) -/
import Derived.Test.YtpdpggndhmnggaaF0f
import Derived.Test.YtpdpggndhmnggaaF10f
namespace Go.Proofs.Ytpdpggndhmnggaa.F
open Go.RowKit Go.Proofs.YtpdpggndhmnggaaW.PrintWords Go.Proofs.YtpdpggndhmnggaaW.PrintLast Go.Proofs.YtpdpggndhmnggaaW.PrintMore
attribute [local go_sem high] xor_u64 xor_u32 eqErr25 neErr25 eqErrL25 neErrL25
attribute [local go_sem] max2_int min2_int max_two min_two max_three min_three max_four min_four   -- for this text's walks alone
set_option linter.unusedVariables false
set_option linter.unusedSimpArgs false
def order_Neg.f (a0 : Int) (a1 : Int) : Option (Int × Option Int) := (shape_Fold.f a0 (IntKind.u64.wrap (-a1))).bind fun bt687 => (some (bt687.1, bt687.2))
set_option maxHeartbeats 8000000 in
set_option maxRecDepth 100000 in
theorem order_Neg.calls (a0 : Int) (a1 : Int) (r1 : Int) (r2 : Option Int) (w : World) (h : order_Neg.f a0 a1 = some (r1, r2)) :
  Calls Try.prog 27 #[.int .i64 a0, .int .u64 a1] w fun e w' => e = .returned (.tuple #[.int .u64 r1, errW r2]) ∧ Drawn0 w w' := by
 have H : ((shape_Fold.f a0 (IntKind.u64.wrap (-a1))).bind fun bt687 => (some (bt687.1, bt687.2))) = some (r1, r2) := h
 clear h
 replace H := Option.bind_eq_some_iff.mp H
 obtain ⟨⟨t687, t688⟩, A30, H⟩ := H
 try dsimp -simprocs only at H
 have A3 := Aside0.mk A30
 clear A30
 simp only [Option.some.injEq, Prod.mk.injEq] at H
 obtain ⟨rfl, rfl⟩ := H
 go_enter Try.func27, Try.ntmps27
 go_wp2_with (first | ((with_reducible refine gX_ 56 9 rfl rfl ?_); refine goesY_ (some 9) Try.func56 #[.int .i64 a0, .int .u64 (IntKind.u64.wrap (-a1))] ?_; (with_reducible refine (shape_Fold.calls a0 (IntKind.u64.wrap (-a1)) t687 t688 _ A3.out).mono ?_); rintro e w' ⟨rfl, ⟨nd, rfl⟩⟩; refine ⟨_, rfl, ?_⟩; (try simp only [errW_none, errW_some])))
 go_ret2
 exact ⟨by first | rfl | (simp; done) | (simp [*]; done), by repeat (first | exact Drawn0.refl _ | apply Drawn0.step)⟩
end Go.Proofs.Ytpdpggndhmnggaa.F
