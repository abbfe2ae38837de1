/- Functions of the given program as plain Lean functions, and for each a proof that the program's call comes to just these answers; no further conditions. (Written by a program of this repo out of the translation.) -/
import Derived.Test.YtpdpggndhmnggaaF0g
namespace Go.Proofs.Ytpdpggndhmnggaa.F
open Go.RowKit Go.Proofs.YtpdpggndhmnggaaW.PrintWords Go.Proofs.YtpdpggndhmnggaaW.PrintLast Go.Proofs.YtpdpggndhmnggaaW.PrintMore
attribute [local go_sem high] xor_u64 xor_u32 eqErr25 neErr25 eqErrL25 neErrL25
attribute [local go_sem] max2_int min2_int max_two min_two max_three min_three max_four min_four   -- for this text's walks alone
set_option linter.unusedVariables false
set_option linter.unusedSimpArgs false
def math_IsNaN.f (a0 : Nat) : Option (Bool) := some (FloatKind.f64.format.order a0 a0 != some .eq)
set_option maxHeartbeats 8000000 in
set_option maxRecDepth 100000 in
theorem math_IsNaN.calls (a0 : Nat) (r : Bool) (w : World) (h : math_IsNaN.f a0 = some r) :
  Calls Try.prog 30 #[.float .f64 a0] w fun e w' => e = .returned (.bool r) ∧ Drawn0 w w' := by
 have H : (some (FloatKind.f64.format.order a0 a0 != some .eq)) = some r := h
 clear h
 obtain rfl := Option.some.inj H
 go_enter Try.func30, Try.ntmps30
 go_wp2
 go_ret
 exact ⟨by first | rfl | (simp; done) | (simp [*]; done), by repeat (first | exact Drawn0.refl _ | apply Drawn0.step)⟩
def math_Float64frombits.f (a0 : Int) : Option Nat := some a0.toNat
theorem math_Float64frombits.calls (a0 : Int) (r : Nat) (w : World) (h : math_Float64frombits.f a0 = some r) :
  CallsX Try.prog 12 #[.int .u64 a0] w fun e w' => e = .returned (.float .f64 r) ∧ w = w' := by
 obtain rfl := Option.some.inj h
 exact ⟨_, externf_call (F_ := Extern.MathFloatBits.float64frombits) Try.func12 (by kernel_rfl) (by kernel_rfl) (by kernel_rfl) (by kernel_rfl) _ _ (fun _ => rfl) w, rfl, rfl⟩
def math_Float64bits.f (a0 : Nat) : Option Int := some (a0 : Int)
theorem math_Float64bits.calls (a0 : Nat) (r : Int) (w : World) (h : math_Float64bits.f a0 = some r) :
  CallsX Try.prog 19 #[.float .f64 a0] w fun e w' => e = .returned (.int .u64 r) ∧ w = w' := by
 obtain rfl := Option.some.inj h
 exact ⟨_, externf_call (F_ := Extern.MathFloatBits.float64bits) Try.func19 (by kernel_rfl) (by kernel_rfl) (by kernel_rfl) (by kernel_rfl) _ _ (fun _ => rfl) w, rfl, rfl⟩
def math_Abs.f (a0 : Nat) : Option (Nat) := (math_Float64bits.f a0).bind fun t101 => ((math_Float64frombits.f (Go.bits .andNot .u64 t101 9223372036854775808)).bind fun t102 => (some t102))
set_option maxHeartbeats 8000000 in
set_option maxRecDepth 100000 in
theorem math_Abs.calls (a0 : Nat) (r : Nat) (w : World) (h : math_Abs.f a0 = some r) :
  Calls Try.prog 33 #[.float .f64 a0] w fun e w' => e = .returned (.float .f64 r) ∧ Drawn0 w w' := by
 have H : ((math_Float64bits.f a0).bind fun t101 => ((math_Float64frombits.f (Go.bits .andNot .u64 t101 9223372036854775808)).bind fun t102 => (some t102))) = some r := h
 clear h
 replace H := Option.bind_eq_some_iff.mp H
 obtain ⟨t101, A20, H⟩ := H
 try dsimp -simprocs only at H
 have A2 := Aside0.mk A20
 clear A20
 replace H := Option.bind_eq_some_iff.mp H
 obtain ⟨t102, A30, H⟩ := H
 try dsimp -simprocs only at H
 have A3 := Aside0.mk A30
 clear A30
 obtain rfl := Option.some.inj H
 go_enter Try.func33, Try.ntmps33
 go_wp2_with (first | ((with_reducible refine gC (f := 19) rfl ?_); (with_reducible refine gD (N := 4) rfl ?_); refine goesX_ (some 4) #[.float .f64 a0] ?_; (with_reducible refine (math_Float64bits.calls a0 t101 _ A2.out).mono ?_); rintro e w' ⟨rfl, rfl⟩; refine ⟨_, rfl, ?_⟩) | ((with_reducible refine gC (f := 12) rfl ?_); (with_reducible refine gD (N := 6) rfl ?_); refine goesX_ (some 6) #[.int .u64 (Go.bits .andNot .u64 t101 9223372036854775808)] ?_; (with_reducible refine (math_Float64frombits.calls (Go.bits .andNot .u64 t101 9223372036854775808) t102 _ A3.out).mono ?_); rintro e w' ⟨rfl, rfl⟩; refine ⟨_, rfl, ?_⟩))
 go_ret
 exact ⟨by first | rfl | (simp; done) | (simp [*]; done), by repeat (first | exact Drawn0.refl _ | apply Drawn0.step)⟩
def math_IsInf.f (a0 : Nat) (a1 : Int) : Option (Bool) := if a1 = 0 then ((math_Abs.f a0).bind fun t103 => (some (FloatKind.f64.format.order t103 9218868437227405311 == some .gt))) else (if a1 < 0 then (if okF (Op.negFloat .f64 a0) = true then (some (FloatKind.f64.format.order (Op.negFloat .f64 a0) 9218868437227405311 == some .gt)) else (none)) else (some (FloatKind.f64.format.order a0 9218868437227405311 == some .gt)))
set_option maxHeartbeats 8000000 in
set_option maxRecDepth 100000 in
theorem math_IsInf.calls (a0 : Nat) (a1 : Int) (r : Bool) (w : World) (h : math_IsInf.f a0 a1 = some r) :
  Calls Try.prog 31 #[.float .f64 a0, .int .i64 a1] w fun e w' => e = .returned (.bool r) ∧ Drawn0 w w' := by
 have H : (if a1 = 0 then ((math_Abs.f a0).bind fun t103 => (some (FloatKind.f64.format.order t103 9218868437227405311 == some .gt))) else (if a1 < 0 then (if okF (Op.negFloat .f64 a0) = true then (some (FloatKind.f64.format.order (Op.negFloat .f64 a0) 9218868437227405311 == some .gt)) else (none)) else (some (FloatKind.f64.format.order a0 9218868437227405311 == some .gt)))) = some r := h
 clear h
 by_cases c3 : a1 = 0
 ·
  rw [if_pos c3] at H
  have c3b0 : (a1 == 0) = true := beq_iff_eq.mpr c3
  have c3b1 : (a1 != 0) = false := bne_eq_false_iff_eq.mpr c3
  clear c3
  replace H := Option.bind_eq_some_iff.mp H
  obtain ⟨t103, A40, H⟩ := H
  try dsimp -simprocs only at H
  have A4 := Aside0.mk A40
  clear A40
  obtain rfl := Option.some.inj H
  go_enter Try.func31, Try.ntmps31
  go_wp2_with (first | ((with_reducible refine gX_ 33 8 rfl rfl ?_); refine goesY_ (some 8) Try.func33 #[.float .f64 a0] ?_; (with_reducible refine (math_Abs.calls a0 t103 _ A4.out).mono ?_); rintro e w' ⟨rfl, ⟨nd, rfl⟩⟩; refine ⟨_, rfl, ?_⟩))
  go_ret
  exact ⟨by first | rfl | (simp; done) | (simp [*]; done), by repeat (first | exact Drawn0.refl _ | apply Drawn0.step)⟩
 ·
  rw [if_neg c3] at H
  have c3b0 : (a1 == 0) = false := beq_eq_false_iff_ne.mpr c3
  have c3b1 : (a1 != 0) = true := bne_iff_ne.mpr c3
  by_cases c5 : a1 < 0
  ·
   rw [if_pos c5] at H
   have c5b0 : decide (a1 < 0) = true := decide_eq_true c5
   clear c5
   by_cases c6 : okF (Op.negFloat .f64 a0) = true
   ·
    rw [if_pos c6] at H
    have c6x0 : Op.unary .neg (.float .f64 a0) = pure (.float .f64 (Op.negFloat .f64 a0)) := rfl
    clear c6
    obtain rfl := Option.some.inj H
    go_enter Try.func31, Try.ntmps31
    go_wp2
    go_ret
    exact ⟨by first | rfl | (simp; done) | (simp [*]; done), by repeat (first | exact Drawn0.refl _ | apply Drawn0.step)⟩
   ·
    rw [if_neg c6] at H
    exact absurd H (by simp)
  ·
   rw [if_neg c5] at H
   have c5b0 : decide (a1 < 0) = false := decide_eq_false c5
   clear c5
   obtain rfl := Option.some.inj H
   go_enter Try.func31, Try.ntmps31
   go_wp2
   go_ret
   exact ⟨by first | rfl | (simp; done) | (simp [*]; done), by repeat (first | exact Drawn0.refl _ | apply Drawn0.step)⟩
def math_normalize.f (a0 : Nat) : Option (Nat × Int) := (math_Abs.f a0).bind fun t104 => (if (FloatKind.f64.format.order t104 4503599627370496 == some .lt) = true then (if (floatBits .mul .f64 a0 4841369599423283200).isSome = true then (some ((floatBits .mul .f64 a0 4841369599423283200).getD 0, (-52))) else (none)) else (some (a0, 0)))
set_option maxHeartbeats 8000000 in
set_option maxRecDepth 100000 in
theorem math_normalize.calls (a0 : Nat) (r1 : Nat) (r2 : Int) (w : World) (h : math_normalize.f a0 = some (r1, r2)) :
  Calls Try.prog 84 #[.float .f64 a0] w fun e w' => e = .returned (.tuple #[.float .f64 r1, .int .i64 r2]) ∧ Drawn0 w w' := by
 have H : ((math_Abs.f a0).bind fun t104 => (if (FloatKind.f64.format.order t104 4503599627370496 == some .lt) = true then (if (floatBits .mul .f64 a0 4841369599423283200).isSome = true then (some ((floatBits .mul .f64 a0 4841369599423283200).getD 0, (-52))) else (none)) else (some (a0, 0)))) = some (r1, r2) := h
 clear h
 replace H := Option.bind_eq_some_iff.mp H
 obtain ⟨t104, A20, H⟩ := H
 try dsimp -simprocs only at H
 have A2 := Aside0.mk A20
 clear A20
 by_cases c3 : (FloatKind.f64.format.order t104 4503599627370496 == some .lt) = true
 ·
  rw [if_pos c3] at H
  have c3b0 : (FloatKind.f64.format.order t104 4503599627370496 == some .lt) = true := c3
  (try (have c3b1 : decide (FloatKind.f64.format.order t104 4503599627370496 = some .lt) = true := by simpa using c3))
  (try (have c3b2 : (FloatKind.f64.format.order t104 4503599627370496 == some .lt) = true := by simpa using c3))
  clear c3
  by_cases c4 : (floatBits .mul .f64 a0 4841369599423283200).isSome = true
  ·
   rw [if_pos c4] at H
   have c4x0 : ∀ (t_ : TypeId) (w_ : World), (binOp .mul t_ (.float .f64 a0) (.float .f64 4841369599423283200)).run Try.prog w_ = .ok (.float .f64 ((floatBits .mul .f64 a0 4841369599423283200).getD 0)) w_ := fun t_ w_ => run_float_arith w_ _ t_ _ _ _ _ (someD_ c4)
   clear c4
   simp only [Option.some.injEq, Prod.mk.injEq] at H
   obtain ⟨rfl, rfl⟩ := H
   go_enter Try.func84, Try.ntmps84
   go_wp2_with (first | ((with_reducible refine gX_ 33 5 rfl rfl ?_); refine goesY_ (some 5) Try.func33 #[.float .f64 a0] ?_; (with_reducible refine (math_Abs.calls a0 t104 _ A2.out).mono ?_); rintro e w' ⟨rfl, ⟨nd, rfl⟩⟩; refine ⟨_, rfl, ?_⟩))
   go_ret2
   exact ⟨by first | rfl | (simp; done) | (simp [*]; done), by repeat (first | exact Drawn0.refl _ | apply Drawn0.step)⟩
  ·
   rw [if_neg c4] at H
   exact absurd H (by simp)
 ·
  rw [if_neg c3] at H
  have c3b0 : (FloatKind.f64.format.order t104 4503599627370496 == some .lt) = false := by simpa using c3
  (try (have c3b1 : decide (FloatKind.f64.format.order t104 4503599627370496 = some .lt) = false := by simpa using c3))
  (try (have c3b2 : (FloatKind.f64.format.order t104 4503599627370496 == some .lt) = false := by simpa using c3))
  (try (have c3b3 : ¬ (FloatKind.f64.format.order t104 4503599627370496 = some .lt) := by simpa using c3))
  clear c3
  simp only [Option.some.injEq, Prod.mk.injEq] at H
  obtain ⟨rfl, rfl⟩ := H
  go_enter Try.func84, Try.ntmps84
  go_wp2_with (first | ((with_reducible refine gX_ 33 5 rfl rfl ?_); refine goesY_ (some 5) Try.func33 #[.float .f64 a0] ?_; (with_reducible refine (math_Abs.calls a0 t104 _ A2.out).mono ?_); rintro e w' ⟨rfl, ⟨nd, rfl⟩⟩; refine ⟨_, rfl, ?_⟩))
  go_ret2
  exact ⟨by first | rfl | (simp; done) | (simp [*]; done), by repeat (first | exact Drawn0.refl _ | apply Drawn0.step)⟩
def math_frexp.j0 : Nat → Nat → Bool → Option (Nat × Int)
 | 0, _, _ => none
 | k + 1, x0, x9 => if x9 = true then (some (x0, 0)) else ((math_normalize.f x0).bind fun bt107 => ((math_Float64bits.f bt107.1).bind fun t109 => ((math_Float64frombits.f (Go.bits .or .u64 (Go.bits .andNot .u64 t109 9218868437227405312) 4602678819172646912)).bind fun t110 => (some (t110, wrap64 (bt107.2 + (wrap64 ((wrap64 ((wrap64 (Go.bits .and .u64 (t109 / 4503599627370496) 2047)) - 1023)) + 1))))))))
def math_frexp.f (k : Nat) (a0 : Nat) : Option (Nat × Int) := if (FloatKind.f64.format.order a0 0 == some .eq) = true then (some (a0, 0)) else ((math_IsInf.f a0 0).bind fun t105 => (if t105 = true then (math_frexp.j0 k a0 true) else ((math_IsNaN.f a0).bind fun t106 => (math_frexp.j0 k a0 t106))))
set_option maxHeartbeats 8000000 in
set_option maxRecDepth 100000 in
theorem math_frexp.calls (k : Nat) (a0 : Nat) (r1 : Nat) (r2 : Int) (w : World) (h : math_frexp.f k a0 = some (r1, r2)) :
  Calls Try.prog 61 #[.float .f64 a0] w fun e w' => e = .returned (.tuple #[.float .f64 r1, .int .i64 r2]) ∧ Drawn0 w w' := by
 have H : (if (FloatKind.f64.format.order a0 0 == some .eq) = true then (some (a0, 0)) else ((math_IsInf.f a0 0).bind fun t105 => (if t105 = true then (math_frexp.j0 k a0 true) else ((math_IsNaN.f a0).bind fun t106 => (math_frexp.j0 k a0 t106))))) = some (r1, r2) := h
 clear h
 by_cases c2 : (FloatKind.f64.format.order a0 0 == some .eq) = true
 ·
  rw [if_pos c2] at H
  have c2b0 : (FloatKind.f64.format.order a0 0 == some .eq) = true := c2
  (try (have c2b1 : decide (FloatKind.f64.format.order a0 0 = some .eq) = true := by simpa using c2))
  (try (have c2b2 : (FloatKind.f64.format.order a0 0 == some .eq) = true := by simpa using c2))
  clear c2
  simp only [Option.some.injEq, Prod.mk.injEq] at H
  obtain ⟨rfl, rfl⟩ := H
  go_enter Try.func61, Try.ntmps61
  go_wp2
  go_ret2
  exact ⟨by first | rfl | (simp; done) | (simp [*]; done), by repeat (first | exact Drawn0.refl _ | apply Drawn0.step)⟩
 ·
  rw [if_neg c2] at H
  have c2b0 : (FloatKind.f64.format.order a0 0 == some .eq) = false := by simpa using c2
  (try (have c2b1 : decide (FloatKind.f64.format.order a0 0 = some .eq) = false := by simpa using c2))
  (try (have c2b2 : (FloatKind.f64.format.order a0 0 == some .eq) = false := by simpa using c2))
  (try (have c2b3 : ¬ (FloatKind.f64.format.order a0 0 = some .eq) := by simpa using c2))
  clear c2
  have HC3 := Aside0.mk H
  clear H
  go_enter Try.func61, Try.ntmps61
  go_upto_region 3 with (fail)
  go_cut [9] (fun v9 wc => ∃ (kq : Nat) (x9_2 : Bool), v9 = .bool x9_2 ∧ Aside0 (math_frexp.j0 kq a0 x9_2 = some (r1, r2)) ∧ Aside0 (kq ≤ k) ∧ Drawn0 w wc)
  case first =>
   have H := HC3.out
   clear HC3
   replace H := Option.bind_eq_some_iff.mp H
   obtain ⟨t105, A40, H⟩ := H
   try dsimp -simprocs only at H
   have A4 := Aside0.mk A40
   clear A40
   by_cases c5 : t105 = true
   ·
    subst c5
    rw [if_pos rfl] at H
    have H' := Aside0.mk H
    clear H
    go_wp2_with (first | ((with_reducible refine gX_ 31 11 rfl rfl ?_); refine goesY_ (some 11) Try.func31 #[.float .f64 a0, .int .i64 0] ?_; (with_reducible refine (math_IsInf.calls a0 0 true _ A4.out).mono ?_); rintro e w' ⟨rfl, ⟨nd, rfl⟩⟩; refine ⟨_, rfl, ?_⟩))
    go_meet
    case rel => exact ⟨_, (true), (by first | rfl | (simp; done) | (simp [*]; done)), H', ⟨by first | omega | exact Nat.le_refl _⟩, by repeat (first | exact Drawn0.refl _ | apply Drawn0.step)⟩
   ·
    replace c5 := Bool.eq_false_iff.mpr c5
    subst c5
    rw [if_neg (show ¬ (false = true) by decide)] at H
    replace H := Option.bind_eq_some_iff.mp H
    obtain ⟨t106, A60, H⟩ := H
    try dsimp -simprocs only at H
    have A6 := Aside0.mk A60
    clear A60
    have H' := Aside0.mk H
    clear H
    go_wp2_with (first | ((with_reducible refine gX_ 31 11 rfl rfl ?_); refine goesY_ (some 11) Try.func31 #[.float .f64 a0, .int .i64 0] ?_; (with_reducible refine (math_IsInf.calls a0 0 false _ A4.out).mono ?_); rintro e w' ⟨rfl, ⟨nd, rfl⟩⟩; refine ⟨_, rfl, ?_⟩) | (go_at_call 30; (with_reducible refine (math_IsNaN.calls a0 t106 _ A6.out).mono ?_); rintro e w' ⟨rfl, ⟨nd, rfl⟩⟩))
    go_meet
    case rel => exact ⟨_, (t106), (by first | rfl | (simp; done) | (simp [*]; done)), H', ⟨by first | omega | exact Nat.le_refl _⟩, by repeat (first | exact Drawn0.refl _ | apply Drawn0.step)⟩
  case rest =>
   clear HC3
   try clear c2
   try clear c2b0
   try clear c2b1
   try clear c2b2
   try clear p2
   try clear c3
   try clear c5
   try clear c6
   obtain ⟨kq, x9_2, rfl, HA, HJ2, ⟨mc2, rfl⟩⟩ := hcut
   cases kq with
   | zero => exact absurd HA.out (by simp [math_frexp.j0])
   | succ kj2 =>
    have H := HA.out
    clear HA
    simp only [math_frexp.j0] at H
    by_cases c7 : x9_2 = true
    ·
     subst c7
     rw [if_pos rfl] at H
     simp only [Option.some.injEq, Prod.mk.injEq] at H
     obtain ⟨rfl, rfl⟩ := H
     go_wp2
     go_ret2
     exact ⟨by first | rfl | (simp; done) | (simp [*]; done), by repeat (first | exact Drawn0.refl _ | apply Drawn0.step)⟩
    ·
     replace c7 := Bool.eq_false_iff.mpr c7
     subst c7
     rw [if_neg (show ¬ (false = true) by decide)] at H
     replace H := Option.bind_eq_some_iff.mp H
     obtain ⟨⟨t107, t108⟩, A80, H⟩ := H
     try dsimp -simprocs only at H
     have A8 := Aside0.mk A80
     clear A80
     replace H := Option.bind_eq_some_iff.mp H
     obtain ⟨t109, A90, H⟩ := H
     try dsimp -simprocs only at H
     have A9 := Aside0.mk A90
     clear A90
     replace H := Option.bind_eq_some_iff.mp H
     obtain ⟨t110, A100, H⟩ := H
     try dsimp -simprocs only at H
     have A10 := Aside0.mk A100
     clear A100
     simp only [Option.some.injEq, Prod.mk.injEq] at H
     obtain ⟨rfl, rfl⟩ := H
     go_wp2_with (first | ((with_reducible refine gX_ 84 19 rfl rfl ?_); refine goesY_ (some 19) Try.func84 #[.float .f64 a0] ?_; (with_reducible refine (math_normalize.calls a0 t107 t108 _ A8.out).mono ?_); rintro e w' ⟨rfl, ⟨nd, rfl⟩⟩; refine ⟨_, rfl, ?_⟩) | ((with_reducible refine gC (f := 19) rfl ?_); (with_reducible refine gD (N := 23) rfl ?_); refine goesX_ (some 23) #[.float .f64 t107] ?_; (with_reducible refine (math_Float64bits.calls t107 t109 _ A9.out).mono ?_); rintro e w' ⟨rfl, rfl⟩; refine ⟨_, rfl, ?_⟩) | ((with_reducible refine gC (f := 12) rfl ?_); (with_reducible refine gD (N := 37) rfl ?_); refine goesX_ (some 37) #[.int .u64 (Go.bits .or .u64 (Go.bits .andNot .u64 t109 9218868437227405312) 4602678819172646912)] ?_; (with_reducible refine (math_Float64frombits.calls (Go.bits .or .u64 (Go.bits .andNot .u64 t109 9218868437227405312) 4602678819172646912) t110 _ A10.out).mono ?_); rintro e w' ⟨rfl, rfl⟩; refine ⟨_, rfl, ?_⟩))
     go_ret2
     exact ⟨by first | rfl | (simp; done) | (simp [*]; done), by repeat (first | exact Drawn0.refl _ | apply Drawn0.step)⟩
def math_Frexp.f (k : Nat) (a0 : Nat) : Option (Nat × Int) := (math_frexp.f k a0).bind fun bt111 => (some (bt111.1, bt111.2))
set_option maxHeartbeats 8000000 in
set_option maxRecDepth 100000 in
theorem math_Frexp.calls (k : Nat) (a0 : Nat) (r1 : Nat) (r2 : Int) (w : World) (h : math_Frexp.f k a0 = some (r1, r2)) :
  Calls Try.prog 32 #[.float .f64 a0] w fun e w' => e = .returned (.tuple #[.float .f64 r1, .int .i64 r2]) ∧ Drawn0 w w' := by
 have H : ((math_frexp.f k a0).bind fun bt111 => (some (bt111.1, bt111.2))) = some (r1, r2) := h
 clear h
 replace H := Option.bind_eq_some_iff.mp H
 obtain ⟨⟨t111, t112⟩, A20, H⟩ := H
 try dsimp -simprocs only at H
 have A2 := Aside0.mk A20
 clear A20
 simp only [Option.some.injEq, Prod.mk.injEq] at H
 obtain ⟨rfl, rfl⟩ := H
 go_enter Try.func32, Try.ntmps32
 go_wp2_with (first | ((with_reducible refine gX_ 61 9 rfl rfl ?_); refine goesY_ (some 9) Try.func61 #[.float .f64 a0] ?_; (with_reducible refine (math_frexp.calls k a0 t111 t112 _ A2.out).mono ?_); rintro e w' ⟨rfl, ⟨nd, rfl⟩⟩; refine ⟨_, rfl, ?_⟩))
 go_ret2
 exact ⟨by first | rfl | (simp; done) | (simp [*]; done), by repeat (first | exact Drawn0.refl _ | apply Drawn0.step)⟩
def math_Copysign.f (a0 : Nat) (a1 : Nat) : Option (Nat) := (math_Float64bits.f a0).bind fun t129 => ((math_Float64bits.f a1).bind fun t130 => ((math_Float64frombits.f (Go.bits .or .u64 (Go.bits .andNot .u64 t129 9223372036854775808) (Go.bits .and .u64 t130 9223372036854775808))).bind fun t131 => (some t131)))
set_option maxHeartbeats 8000000 in
set_option maxRecDepth 100000 in
theorem math_Copysign.calls (a0 : Nat) (a1 : Nat) (r : Nat) (w : World) (h : math_Copysign.f a0 a1 = some r) :
  Calls Try.prog 87 #[.float .f64 a0, .float .f64 a1] w fun e w' => e = .returned (.float .f64 r) ∧ Drawn0 w w' := by
 have H : ((math_Float64bits.f a0).bind fun t129 => ((math_Float64bits.f a1).bind fun t130 => ((math_Float64frombits.f (Go.bits .or .u64 (Go.bits .andNot .u64 t129 9223372036854775808) (Go.bits .and .u64 t130 9223372036854775808))).bind fun t131 => (some t131)))) = some r := h
 clear h
 replace H := Option.bind_eq_some_iff.mp H
 obtain ⟨t129, A30, H⟩ := H
 try dsimp -simprocs only at H
 have A3 := Aside0.mk A30
 clear A30
 replace H := Option.bind_eq_some_iff.mp H
 obtain ⟨t130, A40, H⟩ := H
 try dsimp -simprocs only at H
 have A4 := Aside0.mk A40
 clear A40
 replace H := Option.bind_eq_some_iff.mp H
 obtain ⟨t131, A50, H⟩ := H
 try dsimp -simprocs only at H
 have A5 := Aside0.mk A50
 clear A50
 obtain rfl := Option.some.inj H
 go_enter Try.func87, Try.ntmps87
 go_wp2_with (first | ((with_reducible refine gC (f := 19) rfl ?_); (with_reducible refine gD (N := 6) rfl ?_); refine goesX_ (some 6) #[.float .f64 a0] ?_; (with_reducible refine (math_Float64bits.calls a0 t129 _ A3.out).mono ?_); rintro e w' ⟨rfl, rfl⟩; refine ⟨_, rfl, ?_⟩) | ((with_reducible refine gC (f := 19) rfl ?_); (with_reducible refine gD (N := 9) rfl ?_); refine goesX_ (some 9) #[.float .f64 a1] ?_; (with_reducible refine (math_Float64bits.calls a1 t130 _ A4.out).mono ?_); rintro e w' ⟨rfl, rfl⟩; refine ⟨_, rfl, ?_⟩) | ((with_reducible refine gC (f := 12) rfl ?_); (with_reducible refine gD (N := 12) rfl ?_); refine goesX_ (some 12) #[.int .u64 (Go.bits .or .u64 (Go.bits .andNot .u64 t129 9223372036854775808) (Go.bits .and .u64 t130 9223372036854775808))] ?_; (with_reducible refine (math_Float64frombits.calls (Go.bits .or .u64 (Go.bits .andNot .u64 t129 9223372036854775808) (Go.bits .and .u64 t130 9223372036854775808)) t131 _ A5.out).mono ?_); rintro e w' ⟨rfl, rfl⟩; refine ⟨_, rfl, ?_⟩))
 go_ret
 exact ⟨by first | rfl | (simp; done) | (simp [*]; done), by repeat (first | exact Drawn0.refl _ | apply Drawn0.step)⟩
def math_Inf.f (a0 : Int) : Option (Nat) := if a0 ≥ 0 then ((math_Float64frombits.f 9218868437227405312).bind fun t132 => (some t132)) else ((math_Float64frombits.f 18442240474082181120).bind fun t133 => (some t133))
set_option maxHeartbeats 8000000 in
set_option maxRecDepth 100000 in
theorem math_Inf.calls (a0 : Int) (r : Nat) (w : World) (h : math_Inf.f a0 = some r) :
  Calls Try.prog 88 #[.int .i64 a0] w fun e w' => e = .returned (.float .f64 r) ∧ Drawn0 w w' := by
 have H : (if a0 ≥ 0 then ((math_Float64frombits.f 9218868437227405312).bind fun t132 => (some t132)) else ((math_Float64frombits.f 18442240474082181120).bind fun t133 => (some t133))) = some r := h
 clear h
 by_cases c2 : a0 ≥ 0
 ·
  rw [if_pos c2] at H
  have c2b0 : decide (0 ≤ a0) = true := decide_eq_true c2
  clear c2
  replace H := Option.bind_eq_some_iff.mp H
  obtain ⟨t132, A30, H⟩ := H
  try dsimp -simprocs only at H
  have A3 := Aside0.mk A30
  clear A30
  obtain rfl := Option.some.inj H
  go_enter Try.func88, Try.ntmps88
  go_wp2_with (first | ((with_reducible refine gC (f := 12) rfl ?_); (with_reducible refine gD (N := 7) rfl ?_); refine goesX_ (some 7) #[.int .u64 9218868437227405312] ?_; (with_reducible refine (math_Float64frombits.calls 9218868437227405312 t132 _ A3.out).mono ?_); rintro e w' ⟨rfl, rfl⟩; refine ⟨_, rfl, ?_⟩))
  go_ret
  exact ⟨by first | rfl | (simp; done) | (simp [*]; done), by repeat (first | exact Drawn0.refl _ | apply Drawn0.step)⟩
 ·
  rw [if_neg c2] at H
  have c2b0 : decide (0 ≤ a0) = false := decide_eq_false c2
  clear c2
  replace H := Option.bind_eq_some_iff.mp H
  obtain ⟨t133, A40, H⟩ := H
  try dsimp -simprocs only at H
  have A4 := Aside0.mk A40
  clear A40
  obtain rfl := Option.some.inj H
  go_enter Try.func88, Try.ntmps88
  go_wp2_with (first | ((with_reducible refine gC (f := 12) rfl ?_); (with_reducible refine gD (N := 7) rfl ?_); refine goesX_ (some 7) #[.int .u64 18442240474082181120] ?_; (with_reducible refine (math_Float64frombits.calls 18442240474082181120 t133 _ A4.out).mono ?_); rintro e w' ⟨rfl, rfl⟩; refine ⟨_, rfl, ?_⟩))
  go_ret
  exact ⟨by first | rfl | (simp; done) | (simp [*]; done), by repeat (first | exact Drawn0.refl _ | apply Drawn0.step)⟩
def math_ldexp.f (a0 : Nat) (a1 : Int) : Option (Nat) := if (FloatKind.f64.format.order a0 0 == some .eq) = true then (some a0) else ((math_IsInf.f a0 0).bind fun t134 => (if t134 = true then (some a0) else ((math_IsNaN.f a0).bind fun t135 => (if t135 = true then (some a0) else ((math_normalize.f a0).bind fun bt136 => ((math_Float64bits.f bt136.1).bind fun t138 => (if (wrap64 ((wrap64 (a1 + bt136.2)) + (wrap64 ((Go.bits .and .i64 (wrap64 (t138 / 4503599627370496)) 2047) - 1023)))) < (-1075) then ((math_Copysign.f 0 bt136.1).bind fun t139 => (some t139)) else (if (wrap64 ((wrap64 (a1 + bt136.2)) + (wrap64 ((Go.bits .and .i64 (wrap64 (t138 / 4503599627370496)) 2047) - 1023)))) > 1023 then (if (FloatKind.f64.format.order bt136.1 0 == some .lt) = true then ((math_Inf.f (-1)).bind fun t140 => (some t140)) else ((math_Inf.f 1).bind fun t141 => (some t141))) else (if (wrap64 ((wrap64 (a1 + bt136.2)) + (wrap64 ((Go.bits .and .i64 (wrap64 (t138 / 4503599627370496)) 2047) - 1023)))) < (-1022) then ((math_Float64frombits.f (Go.bits .or .u64 (Go.bits .andNot .u64 t138 9218868437227405312) (IntKind.u64.wrap ((IntKind.u64.wrap (wrap64 ((wrap64 ((wrap64 ((wrap64 (a1 + bt136.2)) + (wrap64 ((Go.bits .and .i64 (wrap64 (t138 / 4503599627370496)) 2047) - 1023)))) + 53)) + 1023))) * 4503599627370496)))).bind fun t142 => (if (floatBits .mul .f64 4368491638549381120 t142).isSome = true then (some ((floatBits .mul .f64 4368491638549381120 t142).getD 0)) else (none))) else ((math_Float64frombits.f (Go.bits .or .u64 (Go.bits .andNot .u64 t138 9218868437227405312) (IntKind.u64.wrap ((IntKind.u64.wrap (wrap64 ((wrap64 ((wrap64 (a1 + bt136.2)) + (wrap64 ((Go.bits .and .i64 (wrap64 (t138 / 4503599627370496)) 2047) - 1023)))) + 1023))) * 4503599627370496)))).bind fun t143 => (if (floatBits .mul .f64 4607182418800017408 t143).isSome = true then (some ((floatBits .mul .f64 4607182418800017408 t143).getD 0)) else (none))))))))))))
set_option maxHeartbeats 8000000 in
set_option maxRecDepth 100000 in
theorem math_ldexp.calls (a0 : Nat) (a1 : Int) (r : Nat) (w : World) (h : math_ldexp.f a0 a1 = some r) :
  Calls Try.prog 65 #[.float .f64 a0, .int .i64 a1] w fun e w' => e = .returned (.float .f64 r) ∧ Drawn0 w w' := by
 have H : (if (FloatKind.f64.format.order a0 0 == some .eq) = true then (some a0) else ((math_IsInf.f a0 0).bind fun t134 => (if t134 = true then (some a0) else ((math_IsNaN.f a0).bind fun t135 => (if t135 = true then (some a0) else ((math_normalize.f a0).bind fun bt136 => ((math_Float64bits.f bt136.1).bind fun t138 => (if (wrap64 ((wrap64 (a1 + bt136.2)) + (wrap64 ((Go.bits .and .i64 (wrap64 (t138 / 4503599627370496)) 2047) - 1023)))) < (-1075) then ((math_Copysign.f 0 bt136.1).bind fun t139 => (some t139)) else (if (wrap64 ((wrap64 (a1 + bt136.2)) + (wrap64 ((Go.bits .and .i64 (wrap64 (t138 / 4503599627370496)) 2047) - 1023)))) > 1023 then (if (FloatKind.f64.format.order bt136.1 0 == some .lt) = true then ((math_Inf.f (-1)).bind fun t140 => (some t140)) else ((math_Inf.f 1).bind fun t141 => (some t141))) else (if (wrap64 ((wrap64 (a1 + bt136.2)) + (wrap64 ((Go.bits .and .i64 (wrap64 (t138 / 4503599627370496)) 2047) - 1023)))) < (-1022) then ((math_Float64frombits.f (Go.bits .or .u64 (Go.bits .andNot .u64 t138 9218868437227405312) (IntKind.u64.wrap ((IntKind.u64.wrap (wrap64 ((wrap64 ((wrap64 ((wrap64 (a1 + bt136.2)) + (wrap64 ((Go.bits .and .i64 (wrap64 (t138 / 4503599627370496)) 2047) - 1023)))) + 53)) + 1023))) * 4503599627370496)))).bind fun t142 => (if (floatBits .mul .f64 4368491638549381120 t142).isSome = true then (some ((floatBits .mul .f64 4368491638549381120 t142).getD 0)) else (none))) else ((math_Float64frombits.f (Go.bits .or .u64 (Go.bits .andNot .u64 t138 9218868437227405312) (IntKind.u64.wrap ((IntKind.u64.wrap (wrap64 ((wrap64 ((wrap64 (a1 + bt136.2)) + (wrap64 ((Go.bits .and .i64 (wrap64 (t138 / 4503599627370496)) 2047) - 1023)))) + 1023))) * 4503599627370496)))).bind fun t143 => (if (floatBits .mul .f64 4607182418800017408 t143).isSome = true then (some ((floatBits .mul .f64 4607182418800017408 t143).getD 0)) else (none))))))))))))) = some r := h
 clear h
 by_cases c3 : (FloatKind.f64.format.order a0 0 == some .eq) = true
 ·
  rw [if_pos c3] at H
  have c3b0 : (FloatKind.f64.format.order a0 0 == some .eq) = true := c3
  (try (have c3b1 : decide (FloatKind.f64.format.order a0 0 = some .eq) = true := by simpa using c3))
  (try (have c3b2 : (FloatKind.f64.format.order a0 0 == some .eq) = true := by simpa using c3))
  clear c3
  obtain rfl := Option.some.inj H
  go_enter Try.func65, Try.ntmps65
  go_wp2
  go_ret
  exact ⟨by first | rfl | (simp; done) | (simp [*]; done), by repeat (first | exact Drawn0.refl _ | apply Drawn0.step)⟩
 ·
  rw [if_neg c3] at H
  have c3b0 : (FloatKind.f64.format.order a0 0 == some .eq) = false := by simpa using c3
  (try (have c3b1 : decide (FloatKind.f64.format.order a0 0 = some .eq) = false := by simpa using c3))
  (try (have c3b2 : (FloatKind.f64.format.order a0 0 == some .eq) = false := by simpa using c3))
  (try (have c3b3 : ¬ (FloatKind.f64.format.order a0 0 = some .eq) := by simpa using c3))
  clear c3
  replace H := Option.bind_eq_some_iff.mp H
  obtain ⟨t134, A40, H⟩ := H
  try dsimp -simprocs only at H
  have A4 := Aside0.mk A40
  clear A40
  by_cases c5 : t134 = true
  ·
   subst c5
   rw [if_pos rfl] at H
   obtain rfl := Option.some.inj H
   go_enter Try.func65, Try.ntmps65
   go_wp2_with (first | ((with_reducible refine gX_ 31 14 rfl rfl ?_); refine goesY_ (some 14) Try.func31 #[.float .f64 a0, .int .i64 0] ?_; (with_reducible refine (math_IsInf.calls a0 0 true _ A4.out).mono ?_); rintro e w' ⟨rfl, ⟨nd, rfl⟩⟩; refine ⟨_, rfl, ?_⟩))
   go_ret
   exact ⟨by first | rfl | (simp; done) | (simp [*]; done), by repeat (first | exact Drawn0.refl _ | apply Drawn0.step)⟩
  ·
   replace c5 := Bool.eq_false_iff.mpr c5
   subst c5
   rw [if_neg (show ¬ (false = true) by decide)] at H
   replace H := Option.bind_eq_some_iff.mp H
   obtain ⟨t135, A60, H⟩ := H
   try dsimp -simprocs only at H
   have A6 := Aside0.mk A60
   clear A60
   by_cases c7 : t135 = true
   ·
    subst c7
    rw [if_pos rfl] at H
    obtain rfl := Option.some.inj H
    go_enter Try.func65, Try.ntmps65
    go_wp2_with (first | ((with_reducible refine gX_ 31 14 rfl rfl ?_); refine goesY_ (some 14) Try.func31 #[.float .f64 a0, .int .i64 0] ?_; (with_reducible refine (math_IsInf.calls a0 0 false _ A4.out).mono ?_); rintro e w' ⟨rfl, ⟨nd, rfl⟩⟩; refine ⟨_, rfl, ?_⟩) | (go_at_call 30; (with_reducible refine (math_IsNaN.calls a0 true _ A6.out).mono ?_); rintro e w' ⟨rfl, ⟨nd, rfl⟩⟩))
    go_ret
    exact ⟨by first | rfl | (simp; done) | (simp [*]; done), by repeat (first | exact Drawn0.refl _ | apply Drawn0.step)⟩
   ·
    replace c7 := Bool.eq_false_iff.mpr c7
    subst c7
    rw [if_neg (show ¬ (false = true) by decide)] at H
    replace H := Option.bind_eq_some_iff.mp H
    obtain ⟨⟨t136, t137⟩, A80, H⟩ := H
    try dsimp -simprocs only at H
    have A8 := Aside0.mk A80
    clear A80
    replace H := Option.bind_eq_some_iff.mp H
    obtain ⟨t138, A90, H⟩ := H
    try dsimp -simprocs only at H
    have A9 := Aside0.mk A90
    clear A90
    by_cases c10 : (wrap64 ((wrap64 (a1 + t137)) + (wrap64 ((Go.bits .and .i64 (wrap64 (t138 / 4503599627370496)) 2047) - 1023)))) < (-1075)
    ·
     rw [if_pos c10] at H
     have c10b0 : decide ((wrap64 ((wrap64 (a1 + t137)) + (wrap64 ((Go.bits .and .i64 (wrap64 (t138 / 4503599627370496)) 2047) - 1023)))) < (-1075)) = true := decide_eq_true c10
     clear c10
     replace H := Option.bind_eq_some_iff.mp H
     obtain ⟨t139, A110, H⟩ := H
     try dsimp -simprocs only at H
     have A11 := Aside0.mk A110
     clear A110
     obtain rfl := Option.some.inj H
     go_enter Try.func65, Try.ntmps65
     go_wp2_with (first | ((with_reducible refine gX_ 31 14 rfl rfl ?_); refine goesY_ (some 14) Try.func31 #[.float .f64 a0, .int .i64 0] ?_; (with_reducible refine (math_IsInf.calls a0 0 false _ A4.out).mono ?_); rintro e w' ⟨rfl, ⟨nd, rfl⟩⟩; refine ⟨_, rfl, ?_⟩) | (go_at_call 30; (with_reducible refine (math_IsNaN.calls a0 false _ A6.out).mono ?_); rintro e w' ⟨rfl, ⟨nd, rfl⟩⟩) | ((with_reducible refine gX_ 84 22 rfl rfl ?_); refine goesY_ (some 22) Try.func84 #[.float .f64 a0] ?_; (with_reducible refine (math_normalize.calls a0 t136 t137 _ A8.out).mono ?_); rintro e w' ⟨rfl, ⟨nd, rfl⟩⟩; refine ⟨_, rfl, ?_⟩) | ((with_reducible refine gC (f := 19) rfl ?_); (with_reducible refine gD (N := 29) rfl ?_); refine goesX_ (some 29) #[.float .f64 t136] ?_; (with_reducible refine (math_Float64bits.calls t136 t138 _ A9.out).mono ?_); rintro e w' ⟨rfl, rfl⟩; refine ⟨_, rfl, ?_⟩) | ((with_reducible refine gX_ 87 40 rfl rfl ?_); refine goesY_ (some 40) Try.func87 #[.float .f64 0, .float .f64 t136] ?_; (with_reducible refine (math_Copysign.calls 0 t136 t139 _ A11.out).mono ?_); rintro e w' ⟨rfl, ⟨nd, rfl⟩⟩; refine ⟨_, rfl, ?_⟩))
     go_ret
     exact ⟨by first | rfl | (simp; done) | (simp [*]; done), by repeat (first | exact Drawn0.refl _ | apply Drawn0.step)⟩
    ·
     rw [if_neg c10] at H
     have c10b0 : decide ((wrap64 ((wrap64 (a1 + t137)) + (wrap64 ((Go.bits .and .i64 (wrap64 (t138 / 4503599627370496)) 2047) - 1023)))) < (-1075)) = false := decide_eq_false c10
     clear c10
     by_cases c12 : (wrap64 ((wrap64 (a1 + t137)) + (wrap64 ((Go.bits .and .i64 (wrap64 (t138 / 4503599627370496)) 2047) - 1023)))) > 1023
     ·
      rw [if_pos c12] at H
      have c12b0 : decide (1023 < (wrap64 ((wrap64 (a1 + t137)) + (wrap64 ((Go.bits .and .i64 (wrap64 (t138 / 4503599627370496)) 2047) - 1023))))) = true := decide_eq_true c12
      clear c12
      by_cases c13 : (FloatKind.f64.format.order t136 0 == some .lt) = true
      ·
       rw [if_pos c13] at H
       have c13b0 : (FloatKind.f64.format.order t136 0 == some .lt) = true := c13
       (try (have c13b1 : decide (FloatKind.f64.format.order t136 0 = some .lt) = true := by simpa using c13))
       (try (have c13b2 : (FloatKind.f64.format.order t136 0 == some .lt) = true := by simpa using c13))
       clear c13
       replace H := Option.bind_eq_some_iff.mp H
       obtain ⟨t140, A140, H⟩ := H
       try dsimp -simprocs only at H
       have A14 := Aside0.mk A140
       clear A140
       obtain rfl := Option.some.inj H
       go_enter Try.func65, Try.ntmps65
       go_wp2_with (first | ((with_reducible refine gX_ 31 14 rfl rfl ?_); refine goesY_ (some 14) Try.func31 #[.float .f64 a0, .int .i64 0] ?_; (with_reducible refine (math_IsInf.calls a0 0 false _ A4.out).mono ?_); rintro e w' ⟨rfl, ⟨nd, rfl⟩⟩; refine ⟨_, rfl, ?_⟩) | (go_at_call 30; (with_reducible refine (math_IsNaN.calls a0 false _ A6.out).mono ?_); rintro e w' ⟨rfl, ⟨nd, rfl⟩⟩) | ((with_reducible refine gX_ 84 22 rfl rfl ?_); refine goesY_ (some 22) Try.func84 #[.float .f64 a0] ?_; (with_reducible refine (math_normalize.calls a0 t136 t137 _ A8.out).mono ?_); rintro e w' ⟨rfl, ⟨nd, rfl⟩⟩; refine ⟨_, rfl, ?_⟩) | ((with_reducible refine gC (f := 19) rfl ?_); (with_reducible refine gD (N := 29) rfl ?_); refine goesX_ (some 29) #[.float .f64 t136] ?_; (with_reducible refine (math_Float64bits.calls t136 t138 _ A9.out).mono ?_); rintro e w' ⟨rfl, rfl⟩; refine ⟨_, rfl, ?_⟩) | ((with_reducible refine gX_ 88 45 rfl rfl ?_); refine goesY_ (some 45) Try.func88 #[.int .i64 (-1)] ?_; (with_reducible refine (math_Inf.calls (-1) t140 _ A14.out).mono ?_); rintro e w' ⟨rfl, ⟨nd, rfl⟩⟩; refine ⟨_, rfl, ?_⟩))
       go_ret
       exact ⟨by first | rfl | (simp; done) | (simp [*]; done), by repeat (first | exact Drawn0.refl _ | apply Drawn0.step)⟩
      ·
       rw [if_neg c13] at H
       have c13b0 : (FloatKind.f64.format.order t136 0 == some .lt) = false := by simpa using c13
       (try (have c13b1 : decide (FloatKind.f64.format.order t136 0 = some .lt) = false := by simpa using c13))
       (try (have c13b2 : (FloatKind.f64.format.order t136 0 == some .lt) = false := by simpa using c13))
       (try (have c13b3 : ¬ (FloatKind.f64.format.order t136 0 = some .lt) := by simpa using c13))
       clear c13
       replace H := Option.bind_eq_some_iff.mp H
       obtain ⟨t141, A150, H⟩ := H
       try dsimp -simprocs only at H
       have A15 := Aside0.mk A150
       clear A150
       obtain rfl := Option.some.inj H
       go_enter Try.func65, Try.ntmps65
       go_wp2_with (first | ((with_reducible refine gX_ 31 14 rfl rfl ?_); refine goesY_ (some 14) Try.func31 #[.float .f64 a0, .int .i64 0] ?_; (with_reducible refine (math_IsInf.calls a0 0 false _ A4.out).mono ?_); rintro e w' ⟨rfl, ⟨nd, rfl⟩⟩; refine ⟨_, rfl, ?_⟩) | (go_at_call 30; (with_reducible refine (math_IsNaN.calls a0 false _ A6.out).mono ?_); rintro e w' ⟨rfl, ⟨nd, rfl⟩⟩) | ((with_reducible refine gX_ 84 22 rfl rfl ?_); refine goesY_ (some 22) Try.func84 #[.float .f64 a0] ?_; (with_reducible refine (math_normalize.calls a0 t136 t137 _ A8.out).mono ?_); rintro e w' ⟨rfl, ⟨nd, rfl⟩⟩; refine ⟨_, rfl, ?_⟩) | ((with_reducible refine gC (f := 19) rfl ?_); (with_reducible refine gD (N := 29) rfl ?_); refine goesX_ (some 29) #[.float .f64 t136] ?_; (with_reducible refine (math_Float64bits.calls t136 t138 _ A9.out).mono ?_); rintro e w' ⟨rfl, rfl⟩; refine ⟨_, rfl, ?_⟩) | ((with_reducible refine gX_ 88 46 rfl rfl ?_); refine goesY_ (some 46) Try.func88 #[.int .i64 1] ?_; (with_reducible refine (math_Inf.calls 1 t141 _ A15.out).mono ?_); rintro e w' ⟨rfl, ⟨nd, rfl⟩⟩; refine ⟨_, rfl, ?_⟩))
       go_ret
       exact ⟨by first | rfl | (simp; done) | (simp [*]; done), by repeat (first | exact Drawn0.refl _ | apply Drawn0.step)⟩
     ·
      rw [if_neg c12] at H
      have c12b0 : decide (1023 < (wrap64 ((wrap64 (a1 + t137)) + (wrap64 ((Go.bits .and .i64 (wrap64 (t138 / 4503599627370496)) 2047) - 1023))))) = false := decide_eq_false c12
      clear c12
      by_cases c16 : (wrap64 ((wrap64 (a1 + t137)) + (wrap64 ((Go.bits .and .i64 (wrap64 (t138 / 4503599627370496)) 2047) - 1023)))) < (-1022)
      ·
       rw [if_pos c16] at H
       have c16b0 : decide ((wrap64 ((wrap64 (a1 + t137)) + (wrap64 ((Go.bits .and .i64 (wrap64 (t138 / 4503599627370496)) 2047) - 1023)))) < (-1022)) = true := decide_eq_true c16
       clear c16
       replace H := Option.bind_eq_some_iff.mp H
       obtain ⟨t142, A170, H⟩ := H
       try dsimp -simprocs only at H
       have A17 := Aside0.mk A170
       clear A170
       by_cases c18 : (floatBits .mul .f64 4368491638549381120 t142).isSome = true
       ·
        rw [if_pos c18] at H
        have c18x0 : ∀ (t_ : TypeId) (w_ : World), (binOp .mul t_ (.float .f64 4368491638549381120) (.float .f64 t142)).run Try.prog w_ = .ok (.float .f64 ((floatBits .mul .f64 4368491638549381120 t142).getD 0)) w_ := fun t_ w_ => run_float_arith w_ _ t_ _ _ _ _ (someD_ c18)
        clear c18
        obtain rfl := Option.some.inj H
        go_enter Try.func65, Try.ntmps65
        go_wp2_with (first | ((with_reducible refine gX_ 31 14 rfl rfl ?_); refine goesY_ (some 14) Try.func31 #[.float .f64 a0, .int .i64 0] ?_; (with_reducible refine (math_IsInf.calls a0 0 false _ A4.out).mono ?_); rintro e w' ⟨rfl, ⟨nd, rfl⟩⟩; refine ⟨_, rfl, ?_⟩) | (go_at_call 30; (with_reducible refine (math_IsNaN.calls a0 false _ A6.out).mono ?_); rintro e w' ⟨rfl, ⟨nd, rfl⟩⟩) | ((with_reducible refine gX_ 84 22 rfl rfl ?_); refine goesY_ (some 22) Try.func84 #[.float .f64 a0] ?_; (with_reducible refine (math_normalize.calls a0 t136 t137 _ A8.out).mono ?_); rintro e w' ⟨rfl, ⟨nd, rfl⟩⟩; refine ⟨_, rfl, ?_⟩) | ((with_reducible refine gC (f := 19) rfl ?_); (with_reducible refine gD (N := 29) rfl ?_); refine goesX_ (some 29) #[.float .f64 t136] ?_; (with_reducible refine (math_Float64bits.calls t136 t138 _ A9.out).mono ?_); rintro e w' ⟨rfl, rfl⟩; refine ⟨_, rfl, ?_⟩) | ((with_reducible refine gC (f := 12) rfl ?_); (with_reducible refine gD (N := 61) rfl ?_); refine goesX_ (some 61) #[.int .u64 (Go.bits .or .u64 (Go.bits .andNot .u64 t138 9218868437227405312) (IntKind.u64.wrap ((IntKind.u64.wrap (wrap64 ((wrap64 ((wrap64 ((wrap64 (a1 + t137)) + (wrap64 ((Go.bits .and .i64 (wrap64 (t138 / 4503599627370496)) 2047) - 1023)))) + 53)) + 1023))) * 4503599627370496)))] ?_; (with_reducible refine (math_Float64frombits.calls (Go.bits .or .u64 (Go.bits .andNot .u64 t138 9218868437227405312) (IntKind.u64.wrap ((IntKind.u64.wrap (wrap64 ((wrap64 ((wrap64 ((wrap64 (a1 + t137)) + (wrap64 ((Go.bits .and .i64 (wrap64 (t138 / 4503599627370496)) 2047) - 1023)))) + 53)) + 1023))) * 4503599627370496))) t142 _ A17.out).mono ?_); rintro e w' ⟨rfl, rfl⟩; refine ⟨_, rfl, ?_⟩))
        go_ret
        exact ⟨by first | rfl | (simp; done) | (simp [*]; done), by repeat (first | exact Drawn0.refl _ | apply Drawn0.step)⟩
       ·
        rw [if_neg c18] at H
        exact absurd H (by simp)
      ·
       rw [if_neg c16] at H
       have c16b0 : decide ((wrap64 ((wrap64 (a1 + t137)) + (wrap64 ((Go.bits .and .i64 (wrap64 (t138 / 4503599627370496)) 2047) - 1023)))) < (-1022)) = false := decide_eq_false c16
       clear c16
       replace H := Option.bind_eq_some_iff.mp H
       obtain ⟨t143, A190, H⟩ := H
       try dsimp -simprocs only at H
       have A19 := Aside0.mk A190
       clear A190
       by_cases c20 : (floatBits .mul .f64 4607182418800017408 t143).isSome = true
       ·
        rw [if_pos c20] at H
        have c20x0 : ∀ (t_ : TypeId) (w_ : World), (binOp .mul t_ (.float .f64 4607182418800017408) (.float .f64 t143)).run Try.prog w_ = .ok (.float .f64 ((floatBits .mul .f64 4607182418800017408 t143).getD 0)) w_ := fun t_ w_ => run_float_arith w_ _ t_ _ _ _ _ (someD_ c20)
        clear c20
        obtain rfl := Option.some.inj H
        go_enter Try.func65, Try.ntmps65
        go_wp2_with (first | ((with_reducible refine gX_ 31 14 rfl rfl ?_); refine goesY_ (some 14) Try.func31 #[.float .f64 a0, .int .i64 0] ?_; (with_reducible refine (math_IsInf.calls a0 0 false _ A4.out).mono ?_); rintro e w' ⟨rfl, ⟨nd, rfl⟩⟩; refine ⟨_, rfl, ?_⟩) | (go_at_call 30; (with_reducible refine (math_IsNaN.calls a0 false _ A6.out).mono ?_); rintro e w' ⟨rfl, ⟨nd, rfl⟩⟩) | ((with_reducible refine gX_ 84 22 rfl rfl ?_); refine goesY_ (some 22) Try.func84 #[.float .f64 a0] ?_; (with_reducible refine (math_normalize.calls a0 t136 t137 _ A8.out).mono ?_); rintro e w' ⟨rfl, ⟨nd, rfl⟩⟩; refine ⟨_, rfl, ?_⟩) | ((with_reducible refine gC (f := 19) rfl ?_); (with_reducible refine gD (N := 29) rfl ?_); refine goesX_ (some 29) #[.float .f64 t136] ?_; (with_reducible refine (math_Float64bits.calls t136 t138 _ A9.out).mono ?_); rintro e w' ⟨rfl, rfl⟩; refine ⟨_, rfl, ?_⟩) | ((with_reducible refine gC (f := 12) rfl ?_); (with_reducible refine gD (N := 61) rfl ?_); refine goesX_ (some 61) #[.int .u64 (Go.bits .or .u64 (Go.bits .andNot .u64 t138 9218868437227405312) (IntKind.u64.wrap ((IntKind.u64.wrap (wrap64 ((wrap64 ((wrap64 (a1 + t137)) + (wrap64 ((Go.bits .and .i64 (wrap64 (t138 / 4503599627370496)) 2047) - 1023)))) + 1023))) * 4503599627370496)))] ?_; (with_reducible refine (math_Float64frombits.calls (Go.bits .or .u64 (Go.bits .andNot .u64 t138 9218868437227405312) (IntKind.u64.wrap ((IntKind.u64.wrap (wrap64 ((wrap64 ((wrap64 (a1 + t137)) + (wrap64 ((Go.bits .and .i64 (wrap64 (t138 / 4503599627370496)) 2047) - 1023)))) + 1023))) * 4503599627370496))) t143 _ A19.out).mono ?_); rintro e w' ⟨rfl, rfl⟩; refine ⟨_, rfl, ?_⟩))
        go_ret
        exact ⟨by first | rfl | (simp; done) | (simp [*]; done), by repeat (first | exact Drawn0.refl _ | apply Drawn0.step)⟩
       ·
        rw [if_neg c20] at H
        exact absurd H (by simp)
def math_Ldexp.f (a0 : Nat) (a1 : Int) : Option (Nat) := (math_ldexp.f a0 a1).bind fun t144 => (some t144)
set_option maxHeartbeats 8000000 in
set_option maxRecDepth 100000 in
theorem math_Ldexp.calls (a0 : Nat) (a1 : Int) (r : Nat) (w : World) (h : math_Ldexp.f a0 a1 = some r) :
  Calls Try.prog 35 #[.float .f64 a0, .int .i64 a1] w fun e w' => e = .returned (.float .f64 r) ∧ Drawn0 w w' := by
 have H : ((math_ldexp.f a0 a1).bind fun t144 => (some t144)) = some r := h
 clear h
 replace H := Option.bind_eq_some_iff.mp H
 obtain ⟨t144, A30, H⟩ := H
 try dsimp -simprocs only at H
 have A3 := Aside0.mk A30
 clear A30
 obtain rfl := Option.some.inj H
 go_enter Try.func35, Try.ntmps35
 go_wp2_with (first | ((with_reducible refine gX_ 65 10 rfl rfl ?_); refine goesY_ (some 10) Try.func65 #[.float .f64 a0, .int .i64 a1] ?_; (with_reducible refine (math_ldexp.calls a0 a1 t144 _ A3.out).mono ?_); rintro e w' ⟨rfl, ⟨nd, rfl⟩⟩; refine ⟨_, rfl, ?_⟩))
 go_ret
 exact ⟨by first | rfl | (simp; done) | (simp [*]; done), by repeat (first | exact Drawn0.refl _ | apply Drawn0.step)⟩
def math_NaN.f  : Option (Nat) := (math_Float64frombits.f 9221120237041090561).bind fun t295 => (some t295)
set_option maxHeartbeats 8000000 in
set_option maxRecDepth 100000 in
theorem math_NaN.calls  (r : Nat) (w : World) (h : math_NaN.f  = some r) :
  Calls Try.prog 45 #[] w fun e w' => e = .returned (.float .f64 r) ∧ Drawn0 w w' := by
 have H : ((math_Float64frombits.f 9221120237041090561).bind fun t295 => (some t295)) = some r := h
 clear h
 replace H := Option.bind_eq_some_iff.mp H
 obtain ⟨t295, A10, H⟩ := H
 try dsimp -simprocs only at H
 have A1 := Aside0.mk A10
 clear A10
 obtain rfl := Option.some.inj H
 go_enter Try.func45, Try.ntmps45
 go_wp2_with (first | ((with_reducible refine gC (f := 12) rfl ?_); (with_reducible refine gD (N := 1) rfl ?_); refine goesX_ (some 1) #[.int .u64 9221120237041090561] ?_; (with_reducible refine (math_Float64frombits.calls 9221120237041090561 t295 _ A1.out).mono ?_); rintro e w' ⟨rfl, rfl⟩; refine ⟨_, rfl, ?_⟩))
 go_ret
 exact ⟨by first | rfl | (simp; done) | (simp [*]; done), by repeat (first | exact Drawn0.refl _ | apply Drawn0.step)⟩
def math_Float32frombits.f (a0 : Int) : Option Nat := some a0.toNat
theorem math_Float32frombits.calls (a0 : Int) (r : Nat) (w : World) (h : math_Float32frombits.f a0 = some r) :
  CallsX Try.prog 22 #[.int .u32 a0] w fun e w' => e = .returned (.float .f32 r) ∧ w = w' := by
 obtain rfl := Option.some.inj h
 exact ⟨_, externf_call (F_ := Extern.MathFloatBits.float32frombits) Try.func22 (by kernel_rfl) (by kernel_rfl) (by kernel_rfl) (by kernel_rfl) _ _ (fun _ => rfl) w, rfl, rfl⟩
end Go.Proofs.Ytpdpggndhmnggaa.F
