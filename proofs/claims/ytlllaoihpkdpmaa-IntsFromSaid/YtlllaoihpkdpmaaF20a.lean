/- Functions of the given program as plain Lean functions, and for each a proof that the program's call comes to just these answers; no further conditions. (Written by a program of this repo out of the translation.) -/
import Derived.Test.YtlllaoihpkdpmaaF0a
import Derived.Test.YtlllaoihpkdpmaaF9a
import Derived.Test.YtlllaoihpkdpmaaF11a
import Derived.Test.YtlllaoihpkdpmaaF18a
import Derived.Test.YtlllaoihpkdpmaaF19a
namespace Go.Proofs.Ytlllaoihpkdpmaa.F
open Go.RowKit Go.Proofs.YtlllaoihpkdpmaaW.PrintWords Go.Proofs.YtlllaoihpkdpmaaW.PrintLast Go.Proofs.YtlllaoihpkdpmaaW.PrintMore
attribute [local go_sem high] xor_u64 xor_u32 eqErr25 neErr25 eqErrL25 neErrL25
attribute [local go_sem] max2_int min2_int max_two min_two max_three min_three max_four min_four   -- for this text's walks alone
set_option linter.unusedVariables false
set_option linter.unusedSimpArgs false
def vernierlaw16_IntsFrom.f (k : Nat) (a0 : Int) (a1 : Int) (a2 : Int) : Option (Bool) := (vernierlaw16_shown.f k).bind fun t434 => ((ints_FromInt.f k a0 a1).bind fun bt435 => ((ints_FromUint.f k a0 a2).bind fun bt437 => ((vernierref16_Size.f a1).bind fun t439 => ((vernierref16_From.f k a0 (decide (a1 < 0)) t439).bind fun bt440 => ((vernierref16_From.f k a0 false a2).bind fun bt442 => (if t434 = true then (if bt435.1 = bt440.1 then (if bt437.1 = bt442.1 then ((vernierlaw00_Code.f bt435.2).bind fun t444 => (if t444 = bt440.2 then ((vernierlaw00_Code.f bt437.2).bind fun t445 => (some (t445 == bt442.2))) else (some false))) else (some false)) else (some false)) else (some false)))))))
set_option maxHeartbeats 8000000 in
set_option maxRecDepth 100000 in
theorem vernierlaw16_IntsFrom.calls (k : Nat) (a0 : Int) (a1 : Int) (a2 : Int) (r : Bool) (w : World) (h : vernierlaw16_IntsFrom.f k a0 a1 a2 = some r) :
    Calls Try.prog 3 #[.int .i64 a0, .int .i64 a1, .int .u64 a2] w fun e w' => e = .returned (.bool r) ∧ Below w.heap.size w w' := by
  have HB := Aside0.mk (Below.refl w.heap.size w)
  have H : ((vernierlaw16_shown.f k).bind fun t434 => ((ints_FromInt.f k a0 a1).bind fun bt435 => ((ints_FromUint.f k a0 a2).bind fun bt437 => ((vernierref16_Size.f a1).bind fun t439 => ((vernierref16_From.f k a0 (decide (a1 < 0)) t439).bind fun bt440 => ((vernierref16_From.f k a0 false a2).bind fun bt442 => (if t434 = true then (if bt435.1 = bt440.1 then (if bt437.1 = bt442.1 then ((vernierlaw00_Code.f bt435.2).bind fun t444 => (if t444 = bt440.2 then ((vernierlaw00_Code.f bt437.2).bind fun t445 => (some (t445 == bt442.2))) else (some false))) else (some false)) else (some false)) else (some false)))))))) = some r := h
  clear h
  replace H := Option.bind_eq_some_iff.mp H
  obtain ⟨t434, A40, H⟩ := H
  try dsimp -simprocs only at H
  have A4 := Aside0.mk A40
  clear A40
  replace H := Option.bind_eq_some_iff.mp H
  obtain ⟨⟨t435, t436⟩, A50, H⟩ := H
  try dsimp -simprocs only at H
  have A5 := Aside0.mk A50
  clear A50
  replace H := Option.bind_eq_some_iff.mp H
  obtain ⟨⟨t437, t438⟩, A60, H⟩ := H
  try dsimp -simprocs only at H
  have A6 := Aside0.mk A60
  clear A60
  replace H := Option.bind_eq_some_iff.mp H
  obtain ⟨t439, A70, H⟩ := H
  try dsimp -simprocs only at H
  have A7 := Aside0.mk A70
  clear A70
  replace H := Option.bind_eq_some_iff.mp H
  obtain ⟨⟨t440, t441⟩, A80, H⟩ := H
  try dsimp -simprocs only at H
  have A8 := Aside0.mk A80
  clear A80
  replace H := Option.bind_eq_some_iff.mp H
  obtain ⟨⟨t442, t443⟩, A90, H⟩ := H
  try dsimp -simprocs only at H
  have A9 := Aside0.mk A90
  clear A90
  by_cases c10 : t434 = true
  · subst c10
    rw [if_pos rfl] at H
    by_cases c11 : t435 = t440
    · rw [if_pos c11] at H
      have c11b0 : (t435 == t440) = true := beq_iff_eq.mpr c11
      have c11b1 : (t435 != t440) = false := bne_eq_false_iff_eq.mpr c11
      clear c11
      by_cases c12 : t437 = t442
      · rw [if_pos c12] at H
        have c12b0 : (t437 == t442) = true := beq_iff_eq.mpr c12
        have c12b1 : (t437 != t442) = false := bne_eq_false_iff_eq.mpr c12
        clear c12
        replace H := Option.bind_eq_some_iff.mp H
        obtain ⟨t444, A130, H⟩ := H
        try dsimp -simprocs only at H
        have A13 := Aside0.mk A130
        clear A130
        by_cases c14 : t444 = t441
        · rw [if_pos c14] at H
          have c14b0 : (t444 == t441) = true := beq_iff_eq.mpr c14
          have c14b1 : (t444 != t441) = false := bne_eq_false_iff_eq.mpr c14
          clear c14
          replace H := Option.bind_eq_some_iff.mp H
          obtain ⟨t445, A150, H⟩ := H
          try dsimp -simprocs only at H
          have A15 := Aside0.mk A150
          clear A150
          obtain rfl := Option.some.inj H
          go_enter Try.func3, Try.ntmps3
          go_wp2_with (first | ((with_reducible refine gC (f := 7) rfl ?_); (with_reducible refine gD (N := 16) rfl ?_); refine goesY_ (some 16) Try.func7 #[] ?_; (with_reducible refine (vernierlaw16_shown.calls k  true _ A4.out).mono ?_); rintro e w16 ⟨rfl, hb⟩; refine ⟨_, rfl, ?_⟩; have n0_ := Aside0.mk (bS3 HB.out hb); clear HB; have HB := n0_; clear n0_; (try clear hb); (try clear hb2); (try clear hk); (try clear hi)) | ((with_reducible refine gC (f := 8) rfl ?_); (with_reducible refine gD (N := 20) rfl ?_); refine goesY_ (some 20) Try.func8 #[.int .i64 a0, .int .i64 a1] ?_; (with_reducible refine (ints_FromInt.calls k a0 a1 t435 t436 _ A5.out).mono ?_); rintro e w17 ⟨rfl, hb⟩; refine ⟨_, rfl, ?_⟩; have n0_ := Aside0.mk (bS3 HB.out hb); clear HB; have HB := n0_; clear n0_; (try clear hb); (try clear hb2); (try clear hk); (try clear hi); (try simp only [errW_none, errW_some])) | ((with_reducible refine gC (f := 9) rfl ?_); (with_reducible refine gD (N := 26) rfl ?_); refine goesY_ (some 26) Try.func9 #[.int .i64 a0, .int .u64 a2] ?_; (with_reducible refine (ints_FromUint.calls k a0 a2 t437 t438 _ A6.out).mono ?_); rintro e w18 ⟨rfl, hb⟩; refine ⟨_, rfl, ?_⟩; have n0_ := Aside0.mk (bS3 HB.out hb); clear HB; have HB := n0_; clear n0_; (try clear hb); (try clear hb2); (try clear hk); (try clear hi); (try simp only [errW_none, errW_some])) | ((with_reducible refine gC (f := 11) rfl ?_); (with_reducible refine gD (N := 34) rfl ?_); refine goesY_ (some 34) Try.func11 #[.int .i64 a1] ?_; (with_reducible refine (vernierref16_Size.calls a1 t439 _ A7.out).mono ?_); rintro e w' ⟨rfl, ⟨nd, rfl⟩⟩; refine ⟨_, rfl, ?_⟩) | ((with_reducible refine gC (f := 10) rfl ?_); (with_reducible refine gD (N := 35) rfl ?_); refine goesY_ (some 35) Try.func10 #[.int .i64 a0, .bool (decide (a1 < 0)), .int .u64 t439] ?_; (with_reducible refine (vernierref16_From.calls k a0 (decide (a1 < 0)) t439 t440 t441 _ A8.out).mono ?_); rintro e w19 ⟨rfl, hb⟩; refine ⟨_, rfl, ?_⟩; have n0_ := Aside0.mk (bS3 HB.out hb); clear HB; have HB := n0_; clear n0_; (try clear hb); (try clear hb2); (try clear hk); (try clear hi)) | ((with_reducible refine gC (f := 10) rfl ?_); (with_reducible refine gD (N := 41) rfl ?_); refine goesY_ (some 41) Try.func10 #[.int .i64 a0, .bool false, .int .u64 a2] ?_; (with_reducible refine (vernierref16_From.calls k a0 false a2 t442 t443 _ A9.out).mono ?_); rintro e w20 ⟨rfl, hb⟩; refine ⟨_, rfl, ?_⟩; have n0_ := Aside0.mk (bS3 HB.out hb); clear HB; have HB := n0_; clear n0_; (try clear hb); (try clear hb2); (try clear hk); (try clear hi); have CA13 := fun W => vernierlaw00_Code.calls t436 t444 W A13.out; try simp only [errW_none, errW_some] at CA13) | (go_at_call 12; (with_reducible refine (CA13 _).mono ?_); rintro e w' ⟨rfl, ⟨nd, rfl⟩⟩; have CA15 := fun W => vernierlaw00_Code.calls t438 t445 W A15.out; try simp only [errW_none, errW_some] at CA15) | (go_at_call 12; (with_reducible refine (CA15 _).mono ?_); rintro e w' ⟨rfl, ⟨nd, rfl⟩⟩))
          go_ret
          exact ⟨eR3, bR3 HB.out⟩
        · rw [if_neg c14] at H
          have c14b0 : (t444 == t441) = false := beq_eq_false_iff_ne.mpr c14
          have c14b1 : (t444 != t441) = true := bne_iff_ne.mpr c14
          obtain rfl := Option.some.inj H
          go_enter Try.func3, Try.ntmps3
          go_wp2_with (first | ((with_reducible refine gC (f := 7) rfl ?_); (with_reducible refine gD (N := 16) rfl ?_); refine goesY_ (some 16) Try.func7 #[] ?_; (with_reducible refine (vernierlaw16_shown.calls k  true _ A4.out).mono ?_); rintro e w21 ⟨rfl, hb⟩; refine ⟨_, rfl, ?_⟩; have n0_ := Aside0.mk (bS3 HB.out hb); clear HB; have HB := n0_; clear n0_; (try clear hb); (try clear hb2); (try clear hk); (try clear hi)) | ((with_reducible refine gC (f := 8) rfl ?_); (with_reducible refine gD (N := 20) rfl ?_); refine goesY_ (some 20) Try.func8 #[.int .i64 a0, .int .i64 a1] ?_; (with_reducible refine (ints_FromInt.calls k a0 a1 t435 t436 _ A5.out).mono ?_); rintro e w22 ⟨rfl, hb⟩; refine ⟨_, rfl, ?_⟩; have n0_ := Aside0.mk (bS3 HB.out hb); clear HB; have HB := n0_; clear n0_; (try clear hb); (try clear hb2); (try clear hk); (try clear hi); (try simp only [errW_none, errW_some])) | ((with_reducible refine gC (f := 9) rfl ?_); (with_reducible refine gD (N := 26) rfl ?_); refine goesY_ (some 26) Try.func9 #[.int .i64 a0, .int .u64 a2] ?_; (with_reducible refine (ints_FromUint.calls k a0 a2 t437 t438 _ A6.out).mono ?_); rintro e w23 ⟨rfl, hb⟩; refine ⟨_, rfl, ?_⟩; have n0_ := Aside0.mk (bS3 HB.out hb); clear HB; have HB := n0_; clear n0_; (try clear hb); (try clear hb2); (try clear hk); (try clear hi); (try simp only [errW_none, errW_some])) | ((with_reducible refine gC (f := 11) rfl ?_); (with_reducible refine gD (N := 34) rfl ?_); refine goesY_ (some 34) Try.func11 #[.int .i64 a1] ?_; (with_reducible refine (vernierref16_Size.calls a1 t439 _ A7.out).mono ?_); rintro e w' ⟨rfl, ⟨nd, rfl⟩⟩; refine ⟨_, rfl, ?_⟩) | ((with_reducible refine gC (f := 10) rfl ?_); (with_reducible refine gD (N := 35) rfl ?_); refine goesY_ (some 35) Try.func10 #[.int .i64 a0, .bool (decide (a1 < 0)), .int .u64 t439] ?_; (with_reducible refine (vernierref16_From.calls k a0 (decide (a1 < 0)) t439 t440 t441 _ A8.out).mono ?_); rintro e w24 ⟨rfl, hb⟩; refine ⟨_, rfl, ?_⟩; have n0_ := Aside0.mk (bS3 HB.out hb); clear HB; have HB := n0_; clear n0_; (try clear hb); (try clear hb2); (try clear hk); (try clear hi)) | ((with_reducible refine gC (f := 10) rfl ?_); (with_reducible refine gD (N := 41) rfl ?_); refine goesY_ (some 41) Try.func10 #[.int .i64 a0, .bool false, .int .u64 a2] ?_; (with_reducible refine (vernierref16_From.calls k a0 false a2 t442 t443 _ A9.out).mono ?_); rintro e w25 ⟨rfl, hb⟩; refine ⟨_, rfl, ?_⟩; have n0_ := Aside0.mk (bS3 HB.out hb); clear HB; have HB := n0_; clear n0_; (try clear hb); (try clear hb2); (try clear hk); (try clear hi); have CA13 := fun W => vernierlaw00_Code.calls t436 t444 W A13.out; try simp only [errW_none, errW_some] at CA13) | (go_at_call 12; (with_reducible refine (CA13 _).mono ?_); rintro e w' ⟨rfl, ⟨nd, rfl⟩⟩))
          go_ret
          exact ⟨eR3, bR3 HB.out⟩
      · rw [if_neg c12] at H
        have c12b0 : (t437 == t442) = false := beq_eq_false_iff_ne.mpr c12
        have c12b1 : (t437 != t442) = true := bne_iff_ne.mpr c12
        obtain rfl := Option.some.inj H
        go_enter Try.func3, Try.ntmps3
        go_wp2_with (first | ((with_reducible refine gC (f := 7) rfl ?_); (with_reducible refine gD (N := 16) rfl ?_); refine goesY_ (some 16) Try.func7 #[] ?_; (with_reducible refine (vernierlaw16_shown.calls k  true _ A4.out).mono ?_); rintro e w26 ⟨rfl, hb⟩; refine ⟨_, rfl, ?_⟩; have n0_ := Aside0.mk (bS3 HB.out hb); clear HB; have HB := n0_; clear n0_; (try clear hb); (try clear hb2); (try clear hk); (try clear hi)) | ((with_reducible refine gC (f := 8) rfl ?_); (with_reducible refine gD (N := 20) rfl ?_); refine goesY_ (some 20) Try.func8 #[.int .i64 a0, .int .i64 a1] ?_; (with_reducible refine (ints_FromInt.calls k a0 a1 t435 t436 _ A5.out).mono ?_); rintro e w27 ⟨rfl, hb⟩; refine ⟨_, rfl, ?_⟩; have n0_ := Aside0.mk (bS3 HB.out hb); clear HB; have HB := n0_; clear n0_; (try clear hb); (try clear hb2); (try clear hk); (try clear hi); (try simp only [errW_none, errW_some])) | ((with_reducible refine gC (f := 9) rfl ?_); (with_reducible refine gD (N := 26) rfl ?_); refine goesY_ (some 26) Try.func9 #[.int .i64 a0, .int .u64 a2] ?_; (with_reducible refine (ints_FromUint.calls k a0 a2 t437 t438 _ A6.out).mono ?_); rintro e w28 ⟨rfl, hb⟩; refine ⟨_, rfl, ?_⟩; have n0_ := Aside0.mk (bS3 HB.out hb); clear HB; have HB := n0_; clear n0_; (try clear hb); (try clear hb2); (try clear hk); (try clear hi); (try simp only [errW_none, errW_some])) | ((with_reducible refine gC (f := 11) rfl ?_); (with_reducible refine gD (N := 34) rfl ?_); refine goesY_ (some 34) Try.func11 #[.int .i64 a1] ?_; (with_reducible refine (vernierref16_Size.calls a1 t439 _ A7.out).mono ?_); rintro e w' ⟨rfl, ⟨nd, rfl⟩⟩; refine ⟨_, rfl, ?_⟩) | ((with_reducible refine gC (f := 10) rfl ?_); (with_reducible refine gD (N := 35) rfl ?_); refine goesY_ (some 35) Try.func10 #[.int .i64 a0, .bool (decide (a1 < 0)), .int .u64 t439] ?_; (with_reducible refine (vernierref16_From.calls k a0 (decide (a1 < 0)) t439 t440 t441 _ A8.out).mono ?_); rintro e w29 ⟨rfl, hb⟩; refine ⟨_, rfl, ?_⟩; have n0_ := Aside0.mk (bS3 HB.out hb); clear HB; have HB := n0_; clear n0_; (try clear hb); (try clear hb2); (try clear hk); (try clear hi)) | ((with_reducible refine gC (f := 10) rfl ?_); (with_reducible refine gD (N := 41) rfl ?_); refine goesY_ (some 41) Try.func10 #[.int .i64 a0, .bool false, .int .u64 a2] ?_; (with_reducible refine (vernierref16_From.calls k a0 false a2 t442 t443 _ A9.out).mono ?_); rintro e w30 ⟨rfl, hb⟩; refine ⟨_, rfl, ?_⟩; have n0_ := Aside0.mk (bS3 HB.out hb); clear HB; have HB := n0_; clear n0_; (try clear hb); (try clear hb2); (try clear hk); (try clear hi)))
        go_ret
        exact ⟨eR3, bR3 HB.out⟩
    · rw [if_neg c11] at H
      have c11b0 : (t435 == t440) = false := beq_eq_false_iff_ne.mpr c11
      have c11b1 : (t435 != t440) = true := bne_iff_ne.mpr c11
      obtain rfl := Option.some.inj H
      go_enter Try.func3, Try.ntmps3
      go_wp2_with (first | ((with_reducible refine gC (f := 7) rfl ?_); (with_reducible refine gD (N := 16) rfl ?_); refine goesY_ (some 16) Try.func7 #[] ?_; (with_reducible refine (vernierlaw16_shown.calls k  true _ A4.out).mono ?_); rintro e w31 ⟨rfl, hb⟩; refine ⟨_, rfl, ?_⟩; have n0_ := Aside0.mk (bS3 HB.out hb); clear HB; have HB := n0_; clear n0_; (try clear hb); (try clear hb2); (try clear hk); (try clear hi)) | ((with_reducible refine gC (f := 8) rfl ?_); (with_reducible refine gD (N := 20) rfl ?_); refine goesY_ (some 20) Try.func8 #[.int .i64 a0, .int .i64 a1] ?_; (with_reducible refine (ints_FromInt.calls k a0 a1 t435 t436 _ A5.out).mono ?_); rintro e w32 ⟨rfl, hb⟩; refine ⟨_, rfl, ?_⟩; have n0_ := Aside0.mk (bS3 HB.out hb); clear HB; have HB := n0_; clear n0_; (try clear hb); (try clear hb2); (try clear hk); (try clear hi); (try simp only [errW_none, errW_some])) | ((with_reducible refine gC (f := 9) rfl ?_); (with_reducible refine gD (N := 26) rfl ?_); refine goesY_ (some 26) Try.func9 #[.int .i64 a0, .int .u64 a2] ?_; (with_reducible refine (ints_FromUint.calls k a0 a2 t437 t438 _ A6.out).mono ?_); rintro e w33 ⟨rfl, hb⟩; refine ⟨_, rfl, ?_⟩; have n0_ := Aside0.mk (bS3 HB.out hb); clear HB; have HB := n0_; clear n0_; (try clear hb); (try clear hb2); (try clear hk); (try clear hi); (try simp only [errW_none, errW_some])) | ((with_reducible refine gC (f := 11) rfl ?_); (with_reducible refine gD (N := 34) rfl ?_); refine goesY_ (some 34) Try.func11 #[.int .i64 a1] ?_; (with_reducible refine (vernierref16_Size.calls a1 t439 _ A7.out).mono ?_); rintro e w' ⟨rfl, ⟨nd, rfl⟩⟩; refine ⟨_, rfl, ?_⟩) | ((with_reducible refine gC (f := 10) rfl ?_); (with_reducible refine gD (N := 35) rfl ?_); refine goesY_ (some 35) Try.func10 #[.int .i64 a0, .bool (decide (a1 < 0)), .int .u64 t439] ?_; (with_reducible refine (vernierref16_From.calls k a0 (decide (a1 < 0)) t439 t440 t441 _ A8.out).mono ?_); rintro e w34 ⟨rfl, hb⟩; refine ⟨_, rfl, ?_⟩; have n0_ := Aside0.mk (bS3 HB.out hb); clear HB; have HB := n0_; clear n0_; (try clear hb); (try clear hb2); (try clear hk); (try clear hi)) | ((with_reducible refine gC (f := 10) rfl ?_); (with_reducible refine gD (N := 41) rfl ?_); refine goesY_ (some 41) Try.func10 #[.int .i64 a0, .bool false, .int .u64 a2] ?_; (with_reducible refine (vernierref16_From.calls k a0 false a2 t442 t443 _ A9.out).mono ?_); rintro e w35 ⟨rfl, hb⟩; refine ⟨_, rfl, ?_⟩; have n0_ := Aside0.mk (bS3 HB.out hb); clear HB; have HB := n0_; clear n0_; (try clear hb); (try clear hb2); (try clear hk); (try clear hi)))
      go_ret
      exact ⟨eR3, bR3 HB.out⟩
  · replace c10 := Bool.eq_false_iff.mpr c10
    subst c10
    rw [if_neg (show ¬ (false = true) by decide)] at H
    obtain rfl := Option.some.inj H
    go_enter Try.func3, Try.ntmps3
    go_wp2_with (first | ((with_reducible refine gC (f := 7) rfl ?_); (with_reducible refine gD (N := 16) rfl ?_); refine goesY_ (some 16) Try.func7 #[] ?_; (with_reducible refine (vernierlaw16_shown.calls k  false _ A4.out).mono ?_); rintro e w36 ⟨rfl, hb⟩; refine ⟨_, rfl, ?_⟩; have n0_ := Aside0.mk (bS3 HB.out hb); clear HB; have HB := n0_; clear n0_; (try clear hb); (try clear hb2); (try clear hk); (try clear hi)) | ((with_reducible refine gC (f := 8) rfl ?_); (with_reducible refine gD (N := 20) rfl ?_); refine goesY_ (some 20) Try.func8 #[.int .i64 a0, .int .i64 a1] ?_; (with_reducible refine (ints_FromInt.calls k a0 a1 t435 t436 _ A5.out).mono ?_); rintro e w37 ⟨rfl, hb⟩; refine ⟨_, rfl, ?_⟩; have n0_ := Aside0.mk (bS3 HB.out hb); clear HB; have HB := n0_; clear n0_; (try clear hb); (try clear hb2); (try clear hk); (try clear hi); (try simp only [errW_none, errW_some])) | ((with_reducible refine gC (f := 9) rfl ?_); (with_reducible refine gD (N := 26) rfl ?_); refine goesY_ (some 26) Try.func9 #[.int .i64 a0, .int .u64 a2] ?_; (with_reducible refine (ints_FromUint.calls k a0 a2 t437 t438 _ A6.out).mono ?_); rintro e w38 ⟨rfl, hb⟩; refine ⟨_, rfl, ?_⟩; have n0_ := Aside0.mk (bS3 HB.out hb); clear HB; have HB := n0_; clear n0_; (try clear hb); (try clear hb2); (try clear hk); (try clear hi); (try simp only [errW_none, errW_some])) | ((with_reducible refine gC (f := 11) rfl ?_); (with_reducible refine gD (N := 34) rfl ?_); refine goesY_ (some 34) Try.func11 #[.int .i64 a1] ?_; (with_reducible refine (vernierref16_Size.calls a1 t439 _ A7.out).mono ?_); rintro e w' ⟨rfl, ⟨nd, rfl⟩⟩; refine ⟨_, rfl, ?_⟩) | ((with_reducible refine gC (f := 10) rfl ?_); (with_reducible refine gD (N := 35) rfl ?_); refine goesY_ (some 35) Try.func10 #[.int .i64 a0, .bool (decide (a1 < 0)), .int .u64 t439] ?_; (with_reducible refine (vernierref16_From.calls k a0 (decide (a1 < 0)) t439 t440 t441 _ A8.out).mono ?_); rintro e w39 ⟨rfl, hb⟩; refine ⟨_, rfl, ?_⟩; have n0_ := Aside0.mk (bS3 HB.out hb); clear HB; have HB := n0_; clear n0_; (try clear hb); (try clear hb2); (try clear hk); (try clear hi)) | ((with_reducible refine gC (f := 10) rfl ?_); (with_reducible refine gD (N := 41) rfl ?_); refine goesY_ (some 41) Try.func10 #[.int .i64 a0, .bool false, .int .u64 a2] ?_; (with_reducible refine (vernierref16_From.calls k a0 false a2 t442 t443 _ A9.out).mono ?_); rintro e w40 ⟨rfl, hb⟩; refine ⟨_, rfl, ?_⟩; have n0_ := Aside0.mk (bS3 HB.out hb); clear HB; have HB := n0_; clear n0_; (try clear hb); (try clear hb2); (try clear hk); (try clear hi)))
    go_ret
    exact ⟨eR3, bR3 HB.out⟩
/-- THE ONE PURE STATEMENT of vernierlaw16_IntsFrom: yours. -/
def vernierlaw16_IntsFrom.Pure : Prop := ∀ (a0 : Int) (a1 : Int) (a2 : Int), (Lit.int .i64 a0).wf = true → (Lit.int .i64 a1).wf = true → (Lit.int .u64 a2).wf = true → ∃ k, vernierlaw16_IntsFrom.f k a0 a1 a2 = some true
theorem vernierlaw16_IntsFrom.walk (P : vernierlaw16_IntsFrom.Pure) (a0 : Int) (a1 : Int) (a2 : Int) (w : World) (w0 : (Lit.int .i64 a0).wf = true) (w1 : (Lit.int .i64 a1).wf = true) (w2 : (Lit.int .u64 a2).wf = true) :
    Calls Try.prog 3 #[.int .i64 a0, .int .i64 a1, .int .u64 a2] w fun e w' => e = .returned (.bool true) ∧ Below w.heap.size w w' := by
  obtain ⟨k, h⟩ := P a0 a1 a2 w0 w1 w2
  refine (vernierlaw16_IntsFrom.calls k a0 a1 a2 true w h).mono ?_
  rintro e w' ⟨rfl, hd⟩
  exact ⟨rfl, hd⟩
end Go.Proofs.Ytlllaoihpkdpmaa.F
