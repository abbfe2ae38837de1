/- Functions of the given program as plain Lean functions, and for each a proof that the program's call comes to just these answers; no further conditions. (Written by a program of this repo out of the translation.) -/
import Derived.Test.YtlllaoihpkdpmaaF0b
import Derived.Test.YtlllaoihpkdpmaaF9b
import Derived.Test.YtlllaoihpkdpmaaF11b
import Derived.Test.YtlllaoihpkdpmaaF18b
import Derived.Test.YtlllaoihpkdpmaaF19b
namespace Go.Proofs.Ytlllaoihpkdpmaa.F
open Go.RowKit Go.Proofs.YtlllaoihpkdpmaaW.PrintWords Go.Proofs.YtlllaoihpkdpmaaW.PrintLast Go.Proofs.YtlllaoihpkdpmaaW.PrintMore
attribute [local go_sem high] xor_u64 xor_u32 eqErr25 neErr25 eqErrL25 neErrL25
attribute [local go_sem] max2_int min2_int max_two min_two max_three min_three max_four min_four   -- for this text's walks alone
set_option linter.unusedVariables false
set_option linter.unusedSimpArgs false
def vernierlaw16_IntsTo.f (k : Nat) (a0 : Int) (a1 : Int) (a2 : Int) : Option (Bool) := (vernierlaw16_shown.f k).bind fun t593 => ((ints_ToInt.f k a0 a1 a2).bind fun bt594 => ((ints_ToUint.f k a0 a1 a2).bind fun bt596 => ((vernierref16_Int.f k a0 a1 a2).bind fun bt598 => ((vernierref16_Uint.f k a0 a1 a2).bind fun bt600 => (if t593 = true then (if bt594.1 = bt598.1 then (if bt596.1 = bt600.1 then ((vernierlaw00_Code.f bt594.2).bind fun t602 => (if t602 = bt598.2 then ((vernierlaw00_Code.f bt596.2).bind fun t603 => (some (t603 == bt600.2))) else (some false))) else (some false)) else (some false)) else (some false))))))
set_option maxHeartbeats 8000000 in
set_option maxRecDepth 100000 in
theorem vernierlaw16_IntsTo.calls (k : Nat) (a0 : Int) (a1 : Int) (a2 : Int) (r : Bool) (w : World) (h : vernierlaw16_IntsTo.f k a0 a1 a2 = some r) :
    Calls Try.prog 4 #[.int .i64 a0, .int .u64 a1, .int .i64 a2] w fun e w' => e = .returned (.bool r) ∧ Below w.heap.size w w' := by
  have HB := Aside0.mk (Below.refl w.heap.size w)
  have H : ((vernierlaw16_shown.f k).bind fun t593 => ((ints_ToInt.f k a0 a1 a2).bind fun bt594 => ((ints_ToUint.f k a0 a1 a2).bind fun bt596 => ((vernierref16_Int.f k a0 a1 a2).bind fun bt598 => ((vernierref16_Uint.f k a0 a1 a2).bind fun bt600 => (if t593 = true then (if bt594.1 = bt598.1 then (if bt596.1 = bt600.1 then ((vernierlaw00_Code.f bt594.2).bind fun t602 => (if t602 = bt598.2 then ((vernierlaw00_Code.f bt596.2).bind fun t603 => (some (t603 == bt600.2))) else (some false))) else (some false)) else (some false)) else (some false))))))) = some r := h
  clear h
  replace H := Option.bind_eq_some_iff.mp H
  obtain ⟨t593, A40, H⟩ := H
  try dsimp -simprocs only at H
  have A4 := Aside0.mk A40
  clear A40
  replace H := Option.bind_eq_some_iff.mp H
  obtain ⟨⟨t594, t595⟩, A50, H⟩ := H
  try dsimp -simprocs only at H
  have A5 := Aside0.mk A50
  clear A50
  replace H := Option.bind_eq_some_iff.mp H
  obtain ⟨⟨t596, t597⟩, A60, H⟩ := H
  try dsimp -simprocs only at H
  have A6 := Aside0.mk A60
  clear A60
  replace H := Option.bind_eq_some_iff.mp H
  obtain ⟨⟨t598, t599⟩, A70, H⟩ := H
  try dsimp -simprocs only at H
  have A7 := Aside0.mk A70
  clear A70
  replace H := Option.bind_eq_some_iff.mp H
  obtain ⟨⟨t600, t601⟩, A80, H⟩ := H
  try dsimp -simprocs only at H
  have A8 := Aside0.mk A80
  clear A80
  by_cases c9 : t593 = true
  · subst c9
    rw [if_pos rfl] at H
    by_cases c10 : t594 = t598
    · rw [if_pos c10] at H
      have c10b0 : (t594 == t598) = true := beq_iff_eq.mpr c10
      have c10b1 : (t594 != t598) = false := bne_eq_false_iff_eq.mpr c10
      clear c10
      by_cases c11 : t596 = t600
      · rw [if_pos c11] at H
        have c11b0 : (t596 == t600) = true := beq_iff_eq.mpr c11
        have c11b1 : (t596 != t600) = false := bne_eq_false_iff_eq.mpr c11
        clear c11
        replace H := Option.bind_eq_some_iff.mp H
        obtain ⟨t602, A120, H⟩ := H
        try dsimp -simprocs only at H
        have A12 := Aside0.mk A120
        clear A120
        by_cases c13 : t602 = t599
        · rw [if_pos c13] at H
          have c13b0 : (t602 == t599) = true := beq_iff_eq.mpr c13
          have c13b1 : (t602 != t599) = false := bne_eq_false_iff_eq.mpr c13
          clear c13
          replace H := Option.bind_eq_some_iff.mp H
          obtain ⟨t603, A140, H⟩ := H
          try dsimp -simprocs only at H
          have A14 := Aside0.mk A140
          clear A140
          obtain rfl := Option.some.inj H
          go_enter Try.func4, Try.ntmps4
          go_wp2_with (first | ((with_reducible refine gC (f := 7) rfl ?_); (with_reducible refine gD (N := 16) rfl ?_); refine goesY_ (some 16) Try.func7 #[] ?_; (with_reducible refine (vernierlaw16_shown.calls k  true _ A4.out).mono ?_); rintro e w15 ⟨rfl, hb⟩; refine ⟨_, rfl, ?_⟩; have n0_ := Aside0.mk (bS3 HB.out hb); clear HB; have HB := n0_; clear n0_; (try clear hb); (try clear hb2); (try clear hk); (try clear hi)) | ((with_reducible refine gC (f := 13) rfl ?_); (with_reducible refine gD (N := 21) rfl ?_); refine goesY_ (some 21) Try.func13 #[.int .i64 a0, .int .u64 a1, .int .i64 a2] ?_; (with_reducible refine (ints_ToInt.calls k a0 a1 a2 t594 t595 _ A5.out).mono ?_); rintro e w16 ⟨rfl, hb⟩; refine ⟨_, rfl, ?_⟩; have n0_ := Aside0.mk (bS3 HB.out hb); clear HB; have HB := n0_; clear n0_; (try clear hb); (try clear hb2); (try clear hk); (try clear hi); (try simp only [errW_none, errW_some])) | ((with_reducible refine gC (f := 14) rfl ?_); (with_reducible refine gD (N := 28) rfl ?_); refine goesY_ (some 28) Try.func14 #[.int .i64 a0, .int .u64 a1, .int .i64 a2] ?_; (with_reducible refine (ints_ToUint.calls k a0 a1 a2 t596 t597 _ A6.out).mono ?_); rintro e w17 ⟨rfl, hb⟩; refine ⟨_, rfl, ?_⟩; have n0_ := Aside0.mk (bS3 HB.out hb); clear HB; have HB := n0_; clear n0_; (try clear hb); (try clear hb2); (try clear hk); (try clear hi); (try simp only [errW_none, errW_some])) | ((with_reducible refine gC (f := 15) rfl ?_); (with_reducible refine gD (N := 35) rfl ?_); refine goesY_ (some 35) Try.func15 #[.int .i64 a0, .int .u64 a1, .int .i64 a2] ?_; (with_reducible refine (vernierref16_Int.calls k a0 a1 a2 t598 t599 _ A7.out).mono ?_); rintro e w18 ⟨rfl, hb⟩; refine ⟨_, rfl, ?_⟩; have n0_ := Aside0.mk (bS3 HB.out hb); clear HB; have HB := n0_; clear n0_; (try clear hb); (try clear hb2); (try clear hk); (try clear hi)) | ((with_reducible refine gC (f := 16) rfl ?_); (with_reducible refine gD (N := 42) rfl ?_); refine goesY_ (some 42) Try.func16 #[.int .i64 a0, .int .u64 a1, .int .i64 a2] ?_; (with_reducible refine (vernierref16_Uint.calls k a0 a1 a2 t600 t601 _ A8.out).mono ?_); rintro e w19 ⟨rfl, hb⟩; refine ⟨_, rfl, ?_⟩; have n0_ := Aside0.mk (bS3 HB.out hb); clear HB; have HB := n0_; clear n0_; (try clear hb); (try clear hb2); (try clear hk); (try clear hi); have CA12 := fun W => vernierlaw00_Code.calls t595 t602 W A12.out; try simp only [errW_none, errW_some] at CA12) | (go_at_call 12; (with_reducible refine (CA12 _).mono ?_); rintro e w' ⟨rfl, ⟨nd, rfl⟩⟩; have CA14 := fun W => vernierlaw00_Code.calls t597 t603 W A14.out; try simp only [errW_none, errW_some] at CA14) | (go_at_call 12; (with_reducible refine (CA14 _).mono ?_); rintro e w' ⟨rfl, ⟨nd, rfl⟩⟩))
          go_ret
          exact ⟨eR3, bR3 HB.out⟩
        · rw [if_neg c13] at H
          have c13b0 : (t602 == t599) = false := beq_eq_false_iff_ne.mpr c13
          have c13b1 : (t602 != t599) = true := bne_iff_ne.mpr c13
          obtain rfl := Option.some.inj H
          go_enter Try.func4, Try.ntmps4
          go_wp2_with (first | ((with_reducible refine gC (f := 7) rfl ?_); (with_reducible refine gD (N := 16) rfl ?_); refine goesY_ (some 16) Try.func7 #[] ?_; (with_reducible refine (vernierlaw16_shown.calls k  true _ A4.out).mono ?_); rintro e w20 ⟨rfl, hb⟩; refine ⟨_, rfl, ?_⟩; have n0_ := Aside0.mk (bS3 HB.out hb); clear HB; have HB := n0_; clear n0_; (try clear hb); (try clear hb2); (try clear hk); (try clear hi)) | ((with_reducible refine gC (f := 13) rfl ?_); (with_reducible refine gD (N := 21) rfl ?_); refine goesY_ (some 21) Try.func13 #[.int .i64 a0, .int .u64 a1, .int .i64 a2] ?_; (with_reducible refine (ints_ToInt.calls k a0 a1 a2 t594 t595 _ A5.out).mono ?_); rintro e w21 ⟨rfl, hb⟩; refine ⟨_, rfl, ?_⟩; have n0_ := Aside0.mk (bS3 HB.out hb); clear HB; have HB := n0_; clear n0_; (try clear hb); (try clear hb2); (try clear hk); (try clear hi); (try simp only [errW_none, errW_some])) | ((with_reducible refine gC (f := 14) rfl ?_); (with_reducible refine gD (N := 28) rfl ?_); refine goesY_ (some 28) Try.func14 #[.int .i64 a0, .int .u64 a1, .int .i64 a2] ?_; (with_reducible refine (ints_ToUint.calls k a0 a1 a2 t596 t597 _ A6.out).mono ?_); rintro e w22 ⟨rfl, hb⟩; refine ⟨_, rfl, ?_⟩; have n0_ := Aside0.mk (bS3 HB.out hb); clear HB; have HB := n0_; clear n0_; (try clear hb); (try clear hb2); (try clear hk); (try clear hi); (try simp only [errW_none, errW_some])) | ((with_reducible refine gC (f := 15) rfl ?_); (with_reducible refine gD (N := 35) rfl ?_); refine goesY_ (some 35) Try.func15 #[.int .i64 a0, .int .u64 a1, .int .i64 a2] ?_; (with_reducible refine (vernierref16_Int.calls k a0 a1 a2 t598 t599 _ A7.out).mono ?_); rintro e w23 ⟨rfl, hb⟩; refine ⟨_, rfl, ?_⟩; have n0_ := Aside0.mk (bS3 HB.out hb); clear HB; have HB := n0_; clear n0_; (try clear hb); (try clear hb2); (try clear hk); (try clear hi)) | ((with_reducible refine gC (f := 16) rfl ?_); (with_reducible refine gD (N := 42) rfl ?_); refine goesY_ (some 42) Try.func16 #[.int .i64 a0, .int .u64 a1, .int .i64 a2] ?_; (with_reducible refine (vernierref16_Uint.calls k a0 a1 a2 t600 t601 _ A8.out).mono ?_); rintro e w24 ⟨rfl, hb⟩; refine ⟨_, rfl, ?_⟩; have n0_ := Aside0.mk (bS3 HB.out hb); clear HB; have HB := n0_; clear n0_; (try clear hb); (try clear hb2); (try clear hk); (try clear hi); have CA12 := fun W => vernierlaw00_Code.calls t595 t602 W A12.out; try simp only [errW_none, errW_some] at CA12) | (go_at_call 12; (with_reducible refine (CA12 _).mono ?_); rintro e w' ⟨rfl, ⟨nd, rfl⟩⟩))
          go_ret
          exact ⟨eR3, bR3 HB.out⟩
      · rw [if_neg c11] at H
        have c11b0 : (t596 == t600) = false := beq_eq_false_iff_ne.mpr c11
        have c11b1 : (t596 != t600) = true := bne_iff_ne.mpr c11
        obtain rfl := Option.some.inj H
        go_enter Try.func4, Try.ntmps4
        go_wp2_with (first | ((with_reducible refine gC (f := 7) rfl ?_); (with_reducible refine gD (N := 16) rfl ?_); refine goesY_ (some 16) Try.func7 #[] ?_; (with_reducible refine (vernierlaw16_shown.calls k  true _ A4.out).mono ?_); rintro e w25 ⟨rfl, hb⟩; refine ⟨_, rfl, ?_⟩; have n0_ := Aside0.mk (bS3 HB.out hb); clear HB; have HB := n0_; clear n0_; (try clear hb); (try clear hb2); (try clear hk); (try clear hi)) | ((with_reducible refine gC (f := 13) rfl ?_); (with_reducible refine gD (N := 21) rfl ?_); refine goesY_ (some 21) Try.func13 #[.int .i64 a0, .int .u64 a1, .int .i64 a2] ?_; (with_reducible refine (ints_ToInt.calls k a0 a1 a2 t594 t595 _ A5.out).mono ?_); rintro e w26 ⟨rfl, hb⟩; refine ⟨_, rfl, ?_⟩; have n0_ := Aside0.mk (bS3 HB.out hb); clear HB; have HB := n0_; clear n0_; (try clear hb); (try clear hb2); (try clear hk); (try clear hi); (try simp only [errW_none, errW_some])) | ((with_reducible refine gC (f := 14) rfl ?_); (with_reducible refine gD (N := 28) rfl ?_); refine goesY_ (some 28) Try.func14 #[.int .i64 a0, .int .u64 a1, .int .i64 a2] ?_; (with_reducible refine (ints_ToUint.calls k a0 a1 a2 t596 t597 _ A6.out).mono ?_); rintro e w27 ⟨rfl, hb⟩; refine ⟨_, rfl, ?_⟩; have n0_ := Aside0.mk (bS3 HB.out hb); clear HB; have HB := n0_; clear n0_; (try clear hb); (try clear hb2); (try clear hk); (try clear hi); (try simp only [errW_none, errW_some])) | ((with_reducible refine gC (f := 15) rfl ?_); (with_reducible refine gD (N := 35) rfl ?_); refine goesY_ (some 35) Try.func15 #[.int .i64 a0, .int .u64 a1, .int .i64 a2] ?_; (with_reducible refine (vernierref16_Int.calls k a0 a1 a2 t598 t599 _ A7.out).mono ?_); rintro e w28 ⟨rfl, hb⟩; refine ⟨_, rfl, ?_⟩; have n0_ := Aside0.mk (bS3 HB.out hb); clear HB; have HB := n0_; clear n0_; (try clear hb); (try clear hb2); (try clear hk); (try clear hi)) | ((with_reducible refine gC (f := 16) rfl ?_); (with_reducible refine gD (N := 42) rfl ?_); refine goesY_ (some 42) Try.func16 #[.int .i64 a0, .int .u64 a1, .int .i64 a2] ?_; (with_reducible refine (vernierref16_Uint.calls k a0 a1 a2 t600 t601 _ A8.out).mono ?_); rintro e w29 ⟨rfl, hb⟩; refine ⟨_, rfl, ?_⟩; have n0_ := Aside0.mk (bS3 HB.out hb); clear HB; have HB := n0_; clear n0_; (try clear hb); (try clear hb2); (try clear hk); (try clear hi)))
        go_ret
        exact ⟨eR3, bR3 HB.out⟩
    · rw [if_neg c10] at H
      have c10b0 : (t594 == t598) = false := beq_eq_false_iff_ne.mpr c10
      have c10b1 : (t594 != t598) = true := bne_iff_ne.mpr c10
      obtain rfl := Option.some.inj H
      go_enter Try.func4, Try.ntmps4
      go_wp2_with (first | ((with_reducible refine gC (f := 7) rfl ?_); (with_reducible refine gD (N := 16) rfl ?_); refine goesY_ (some 16) Try.func7 #[] ?_; (with_reducible refine (vernierlaw16_shown.calls k  true _ A4.out).mono ?_); rintro e w30 ⟨rfl, hb⟩; refine ⟨_, rfl, ?_⟩; have n0_ := Aside0.mk (bS3 HB.out hb); clear HB; have HB := n0_; clear n0_; (try clear hb); (try clear hb2); (try clear hk); (try clear hi)) | ((with_reducible refine gC (f := 13) rfl ?_); (with_reducible refine gD (N := 21) rfl ?_); refine goesY_ (some 21) Try.func13 #[.int .i64 a0, .int .u64 a1, .int .i64 a2] ?_; (with_reducible refine (ints_ToInt.calls k a0 a1 a2 t594 t595 _ A5.out).mono ?_); rintro e w31 ⟨rfl, hb⟩; refine ⟨_, rfl, ?_⟩; have n0_ := Aside0.mk (bS3 HB.out hb); clear HB; have HB := n0_; clear n0_; (try clear hb); (try clear hb2); (try clear hk); (try clear hi); (try simp only [errW_none, errW_some])) | ((with_reducible refine gC (f := 14) rfl ?_); (with_reducible refine gD (N := 28) rfl ?_); refine goesY_ (some 28) Try.func14 #[.int .i64 a0, .int .u64 a1, .int .i64 a2] ?_; (with_reducible refine (ints_ToUint.calls k a0 a1 a2 t596 t597 _ A6.out).mono ?_); rintro e w32 ⟨rfl, hb⟩; refine ⟨_, rfl, ?_⟩; have n0_ := Aside0.mk (bS3 HB.out hb); clear HB; have HB := n0_; clear n0_; (try clear hb); (try clear hb2); (try clear hk); (try clear hi); (try simp only [errW_none, errW_some])) | ((with_reducible refine gC (f := 15) rfl ?_); (with_reducible refine gD (N := 35) rfl ?_); refine goesY_ (some 35) Try.func15 #[.int .i64 a0, .int .u64 a1, .int .i64 a2] ?_; (with_reducible refine (vernierref16_Int.calls k a0 a1 a2 t598 t599 _ A7.out).mono ?_); rintro e w33 ⟨rfl, hb⟩; refine ⟨_, rfl, ?_⟩; have n0_ := Aside0.mk (bS3 HB.out hb); clear HB; have HB := n0_; clear n0_; (try clear hb); (try clear hb2); (try clear hk); (try clear hi)) | ((with_reducible refine gC (f := 16) rfl ?_); (with_reducible refine gD (N := 42) rfl ?_); refine goesY_ (some 42) Try.func16 #[.int .i64 a0, .int .u64 a1, .int .i64 a2] ?_; (with_reducible refine (vernierref16_Uint.calls k a0 a1 a2 t600 t601 _ A8.out).mono ?_); rintro e w34 ⟨rfl, hb⟩; refine ⟨_, rfl, ?_⟩; have n0_ := Aside0.mk (bS3 HB.out hb); clear HB; have HB := n0_; clear n0_; (try clear hb); (try clear hb2); (try clear hk); (try clear hi)))
      go_ret
      exact ⟨eR3, bR3 HB.out⟩
  · replace c9 := Bool.eq_false_iff.mpr c9
    subst c9
    rw [if_neg (show ¬ (false = true) by decide)] at H
    obtain rfl := Option.some.inj H
    go_enter Try.func4, Try.ntmps4
    go_wp2_with (first | ((with_reducible refine gC (f := 7) rfl ?_); (with_reducible refine gD (N := 16) rfl ?_); refine goesY_ (some 16) Try.func7 #[] ?_; (with_reducible refine (vernierlaw16_shown.calls k  false _ A4.out).mono ?_); rintro e w35 ⟨rfl, hb⟩; refine ⟨_, rfl, ?_⟩; have n0_ := Aside0.mk (bS3 HB.out hb); clear HB; have HB := n0_; clear n0_; (try clear hb); (try clear hb2); (try clear hk); (try clear hi)) | ((with_reducible refine gC (f := 13) rfl ?_); (with_reducible refine gD (N := 21) rfl ?_); refine goesY_ (some 21) Try.func13 #[.int .i64 a0, .int .u64 a1, .int .i64 a2] ?_; (with_reducible refine (ints_ToInt.calls k a0 a1 a2 t594 t595 _ A5.out).mono ?_); rintro e w36 ⟨rfl, hb⟩; refine ⟨_, rfl, ?_⟩; have n0_ := Aside0.mk (bS3 HB.out hb); clear HB; have HB := n0_; clear n0_; (try clear hb); (try clear hb2); (try clear hk); (try clear hi); (try simp only [errW_none, errW_some])) | ((with_reducible refine gC (f := 14) rfl ?_); (with_reducible refine gD (N := 28) rfl ?_); refine goesY_ (some 28) Try.func14 #[.int .i64 a0, .int .u64 a1, .int .i64 a2] ?_; (with_reducible refine (ints_ToUint.calls k a0 a1 a2 t596 t597 _ A6.out).mono ?_); rintro e w37 ⟨rfl, hb⟩; refine ⟨_, rfl, ?_⟩; have n0_ := Aside0.mk (bS3 HB.out hb); clear HB; have HB := n0_; clear n0_; (try clear hb); (try clear hb2); (try clear hk); (try clear hi); (try simp only [errW_none, errW_some])) | ((with_reducible refine gC (f := 15) rfl ?_); (with_reducible refine gD (N := 35) rfl ?_); refine goesY_ (some 35) Try.func15 #[.int .i64 a0, .int .u64 a1, .int .i64 a2] ?_; (with_reducible refine (vernierref16_Int.calls k a0 a1 a2 t598 t599 _ A7.out).mono ?_); rintro e w38 ⟨rfl, hb⟩; refine ⟨_, rfl, ?_⟩; have n0_ := Aside0.mk (bS3 HB.out hb); clear HB; have HB := n0_; clear n0_; (try clear hb); (try clear hb2); (try clear hk); (try clear hi)) | ((with_reducible refine gC (f := 16) rfl ?_); (with_reducible refine gD (N := 42) rfl ?_); refine goesY_ (some 42) Try.func16 #[.int .i64 a0, .int .u64 a1, .int .i64 a2] ?_; (with_reducible refine (vernierref16_Uint.calls k a0 a1 a2 t600 t601 _ A8.out).mono ?_); rintro e w39 ⟨rfl, hb⟩; refine ⟨_, rfl, ?_⟩; have n0_ := Aside0.mk (bS3 HB.out hb); clear HB; have HB := n0_; clear n0_; (try clear hb); (try clear hb2); (try clear hk); (try clear hi)))
    go_ret
    exact ⟨eR3, bR3 HB.out⟩
/-- THE ONE PURE STATEMENT of vernierlaw16_IntsTo: yours. -/
def vernierlaw16_IntsTo.Pure : Prop := ∀ (a0 : Int) (a1 : Int) (a2 : Int), (Lit.int .i64 a0).wf = true → (Lit.int .u64 a1).wf = true → (Lit.int .i64 a2).wf = true → ∃ k, vernierlaw16_IntsTo.f k a0 a1 a2 = some true
theorem vernierlaw16_IntsTo.walk (P : vernierlaw16_IntsTo.Pure) (a0 : Int) (a1 : Int) (a2 : Int) (w : World) (w0 : (Lit.int .i64 a0).wf = true) (w1 : (Lit.int .u64 a1).wf = true) (w2 : (Lit.int .i64 a2).wf = true) :
    Calls Try.prog 4 #[.int .i64 a0, .int .u64 a1, .int .i64 a2] w fun e w' => e = .returned (.bool true) ∧ Below w.heap.size w w' := by
  obtain ⟨k, h⟩ := P a0 a1 a2 w0 w1 w2
  refine (vernierlaw16_IntsTo.calls k a0 a1 a2 true w h).mono ?_
  rintro e w' ⟨rfl, hd⟩
  exact ⟨rfl, hd⟩
end Go.Proofs.Ytlllaoihpkdpmaa.F
