/- Functions of the given program as plain Lean functions, and for each a proof that the program's call comes to just these answers; no further conditions. (Written by a program of this repo out of the translation.) -/
import Derived.Test.YtpdpggndhmnggaaF0g
import Derived.Test.YtpdpggndhmnggaaF12g
namespace Go.Proofs.Ytpdpggndhmnggaa.F
open Go.RowKit Go.Proofs.YtpdpggndhmnggaaW.PrintWords Go.Proofs.YtpdpggndhmnggaaW.PrintLast Go.Proofs.YtpdpggndhmnggaaW.PrintMore
attribute [local go_sem high] xor_u64 xor_u32 eqErr25 neErr25 eqErrL25 neErrL25
attribute [local go_sem] max2_int min2_int max_two min_two max_three min_three max_four min_four   -- for this text's walks alone
set_option linter.unusedVariables false
set_option linter.unusedSimpArgs false
def vernierlaw17_shown.f (k : Nat)  : Option (Bool) := (flt_From64.f k 8 4609434218613702656).bind fun bt323 => ((flt_To64.f k 8 68).bind fun bt325 => ((flt_To32.f k 64 1).bind fun bt327 => ((flt_To32.f k 7 1).bind fun bt329 => (if bt323.1 = 68 then (if bt323.2.isNone = true then (if (FloatKind.f64.format.order bt325.1 4609434218613702656 == some .eq) = true then (if bt325.2.isNone = true then (if (FloatKind.f32.format.order bt327.1 0 == some .eq) = true then (if bt327.2.isNone = true then (if bt329.2.isNone = true then (some false) else (some ((bt329.2.getD 0) == 2))) else (some false)) else (some false)) else (some false)) else (some false)) else (some false)) else (some false)))))
set_option maxHeartbeats 8000000 in
set_option maxRecDepth 100000 in
theorem vernierlaw17_shown.calls (k : Nat)  (r : Bool) (w : World) (h : vernierlaw17_shown.f k  = some r) :
  Calls Try.prog 10 #[] w fun e w' => e = .returned (.bool r) ∧ Below w.heap.size w w' := by
 have hu25 := Try.underlying25
 have hu40 := Try.underlying40
 have HB := Aside0.mk (Below.refl w.heap.size w)
 have H : ((flt_From64.f k 8 4609434218613702656).bind fun bt323 => ((flt_To64.f k 8 68).bind fun bt325 => ((flt_To32.f k 64 1).bind fun bt327 => ((flt_To32.f k 7 1).bind fun bt329 => (if bt323.1 = 68 then (if bt323.2.isNone = true then (if (FloatKind.f64.format.order bt325.1 4609434218613702656 == some .eq) = true then (if bt325.2.isNone = true then (if (FloatKind.f32.format.order bt327.1 0 == some .eq) = true then (if bt327.2.isNone = true then (if bt329.2.isNone = true then (some false) else (some ((bt329.2.getD 0) == 2))) else (some false)) else (some false)) else (some false)) else (some false)) else (some false)) else (some false)))))) = some r := h
 clear h
 replace H := Option.bind_eq_some_iff.mp H
 obtain ⟨⟨t323, t324⟩, A10, H⟩ := H
 try dsimp -simprocs only at H
 have A1 := Aside0.mk A10
 clear A10
 replace H := Option.bind_eq_some_iff.mp H
 obtain ⟨⟨t325, t326⟩, A20, H⟩ := H
 try dsimp -simprocs only at H
 have A2 := Aside0.mk A20
 clear A20
 replace H := Option.bind_eq_some_iff.mp H
 obtain ⟨⟨t327, t328⟩, A30, H⟩ := H
 try dsimp -simprocs only at H
 have A3 := Aside0.mk A30
 clear A30
 replace H := Option.bind_eq_some_iff.mp H
 obtain ⟨⟨t329, t330⟩, A40, H⟩ := H
 try dsimp -simprocs only at H
 have A4 := Aside0.mk A40
 clear A40
 by_cases c5 : t323 = 68
 ·
  rw [if_pos c5] at H
  have c5b0 : (t323 == 68) = true := beq_iff_eq.mpr c5
  have c5b1 : (t323 != 68) = false := bne_eq_false_iff_eq.mpr c5
  clear c5
  rcases t324 with _ | q331
  ·
   rw [if_pos (show (none : Option Int).isNone = true by rfl)] at H
   try simp only [Option.getD_some] at H
   try simp only [errW_none, errW_some]
   by_cases c6 : (FloatKind.f64.format.order t325 4609434218613702656 == some .eq) = true
   ·
    rw [if_pos c6] at H
    have c6b0 : (FloatKind.f64.format.order t325 4609434218613702656 == some .eq) = true := c6
    (try (have c6b1 : decide (FloatKind.f64.format.order t325 4609434218613702656 = some .eq) = true := by simpa using c6))
    (try (have c6b2 : (FloatKind.f64.format.order t325 4609434218613702656 == some .eq) = true := by simpa using c6))
    clear c6
    rcases t326 with _ | q332
    ·
     rw [if_pos (show (none : Option Int).isNone = true by rfl)] at H
     try simp only [Option.getD_some] at H
     try simp only [errW_none, errW_some]
     by_cases c7 : (FloatKind.f32.format.order t327 0 == some .eq) = true
     ·
      rw [if_pos c7] at H
      have c7b0 : (FloatKind.f32.format.order t327 0 == some .eq) = true := c7
      (try (have c7b1 : decide (FloatKind.f32.format.order t327 0 = some .eq) = true := by simpa using c7))
      (try (have c7b2 : (FloatKind.f32.format.order t327 0 == some .eq) = true := by simpa using c7))
      clear c7
      rcases t328 with _ | q333
      ·
       rw [if_pos (show (none : Option Int).isNone = true by rfl)] at H
       try simp only [Option.getD_some] at H
       try simp only [errW_none, errW_some]
       rcases t330 with _ | q334
       ·
        rw [if_pos (show (none : Option Int).isNone = true by rfl)] at H
        try simp only [Option.getD_some] at H
        try simp only [errW_none, errW_some]
        obtain rfl := Option.some.inj H
        go_enter Try.func10, Try.ntmps10
        go_wp2_with (first | ((with_reducible refine gX_ 11 10 rfl rfl ?_); refine goesY_ (some 10) Try.func11 #[.int .i64 8, .float .f64 4609434218613702656] ?_; (with_reducible refine (flt_From64.calls k 8 4609434218613702656 t323 none _ A1.out).mono ?_); rintro e w8 ⟨rfl, hb⟩; refine ⟨_, rfl, ?_⟩; replace HB := Aside0.mk (bS3 HB.out hb); (try clear hb); (try clear hk); (try simp only [errW_none, errW_some])) | ((with_reducible refine gX_ 16 14 rfl rfl ?_); refine goesY_ (some 14) Try.func16 #[.int .i64 8, .int .u64 68] ?_; (with_reducible refine (flt_To64.calls k 8 68 t325 none _ A2.out).mono ?_); rintro e w9 ⟨rfl, hb⟩; refine ⟨_, rfl, ?_⟩; replace HB := Aside0.mk (bS3 HB.out hb); (try clear hb); (try clear hk); (try simp only [errW_none, errW_some])) | ((with_reducible refine gX_ 24 18 rfl rfl ?_); refine goesY_ (some 18) Try.func24 #[.int .i64 64, .int .u64 1] ?_; (with_reducible refine (flt_To32.calls k 64 1 t327 none _ A3.out).mono ?_); rintro e w10 ⟨rfl, hb⟩; refine ⟨_, rfl, ?_⟩; replace HB := Aside0.mk (bS3 HB.out hb); (try clear hb); (try clear hk); (try simp only [errW_none, errW_some])) | ((with_reducible refine gX_ 24 22 rfl rfl ?_); refine goesY_ (some 22) Try.func24 #[.int .i64 7, .int .u64 1] ?_; (with_reducible refine (flt_To32.calls k 7 1 t329 none _ A4.out).mono ?_); rintro e w11 ⟨rfl, hb⟩; refine ⟨_, rfl, ?_⟩; replace HB := Aside0.mk (bS3 HB.out hb); (try clear hb); (try clear hk); (try simp only [errW_none, errW_some])))
        go_ret
        exact ⟨eR3, bR3 HB.out⟩
       ·
        rw [if_neg (show ¬ (some q334).isNone = true by simp)] at H
        try simp only [Option.getD_some] at H
        try simp only [errW_none, errW_some]
        obtain rfl := Option.some.inj H
        go_enter Try.func10, Try.ntmps10
        go_wp2_with (first | ((with_reducible refine gX_ 11 10 rfl rfl ?_); refine goesY_ (some 10) Try.func11 #[.int .i64 8, .float .f64 4609434218613702656] ?_; (with_reducible refine (flt_From64.calls k 8 4609434218613702656 t323 none _ A1.out).mono ?_); rintro e w12 ⟨rfl, hb⟩; refine ⟨_, rfl, ?_⟩; replace HB := Aside0.mk (bS3 HB.out hb); (try clear hb); (try clear hk); (try simp only [errW_none, errW_some])) | ((with_reducible refine gX_ 16 14 rfl rfl ?_); refine goesY_ (some 14) Try.func16 #[.int .i64 8, .int .u64 68] ?_; (with_reducible refine (flt_To64.calls k 8 68 t325 none _ A2.out).mono ?_); rintro e w13 ⟨rfl, hb⟩; refine ⟨_, rfl, ?_⟩; replace HB := Aside0.mk (bS3 HB.out hb); (try clear hb); (try clear hk); (try simp only [errW_none, errW_some])) | ((with_reducible refine gX_ 24 18 rfl rfl ?_); refine goesY_ (some 18) Try.func24 #[.int .i64 64, .int .u64 1] ?_; (with_reducible refine (flt_To32.calls k 64 1 t327 none _ A3.out).mono ?_); rintro e w14 ⟨rfl, hb⟩; refine ⟨_, rfl, ?_⟩; replace HB := Aside0.mk (bS3 HB.out hb); (try clear hb); (try clear hk); (try simp only [errW_none, errW_some])) | ((with_reducible refine gX_ 24 22 rfl rfl ?_); refine goesY_ (some 22) Try.func24 #[.int .i64 7, .int .u64 1] ?_; (with_reducible refine (flt_To32.calls k 7 1 t329 (some q334) _ A4.out).mono ?_); rintro e w15 ⟨rfl, hb⟩; refine ⟨_, rfl, ?_⟩; replace HB := Aside0.mk (bS3 HB.out hb); (try clear hb); (try clear hk); (try simp only [errW_none, errW_some])))
        go_ret
        exact ⟨eR3, bR3 HB.out⟩
      ·
       rw [if_neg (show ¬ (some q333).isNone = true by simp)] at H
       try simp only [Option.getD_some] at H
       try simp only [errW_none, errW_some]
       obtain rfl := Option.some.inj H
       go_enter Try.func10, Try.ntmps10
       go_wp2_with (first | ((with_reducible refine gX_ 11 10 rfl rfl ?_); refine goesY_ (some 10) Try.func11 #[.int .i64 8, .float .f64 4609434218613702656] ?_; (with_reducible refine (flt_From64.calls k 8 4609434218613702656 t323 none _ A1.out).mono ?_); rintro e w16 ⟨rfl, hb⟩; refine ⟨_, rfl, ?_⟩; replace HB := Aside0.mk (bS3 HB.out hb); (try clear hb); (try clear hk); (try simp only [errW_none, errW_some])) | ((with_reducible refine gX_ 16 14 rfl rfl ?_); refine goesY_ (some 14) Try.func16 #[.int .i64 8, .int .u64 68] ?_; (with_reducible refine (flt_To64.calls k 8 68 t325 none _ A2.out).mono ?_); rintro e w17 ⟨rfl, hb⟩; refine ⟨_, rfl, ?_⟩; replace HB := Aside0.mk (bS3 HB.out hb); (try clear hb); (try clear hk); (try simp only [errW_none, errW_some])) | ((with_reducible refine gX_ 24 18 rfl rfl ?_); refine goesY_ (some 18) Try.func24 #[.int .i64 64, .int .u64 1] ?_; (with_reducible refine (flt_To32.calls k 64 1 t327 (some q333) _ A3.out).mono ?_); rintro e w18 ⟨rfl, hb⟩; refine ⟨_, rfl, ?_⟩; replace HB := Aside0.mk (bS3 HB.out hb); (try clear hb); (try clear hk); (try simp only [errW_none, errW_some])) | ((with_reducible refine gX_ 24 22 rfl rfl ?_); refine goesY_ (some 22) Try.func24 #[.int .i64 7, .int .u64 1] ?_; (with_reducible refine (flt_To32.calls k 7 1 t329 t330 _ A4.out).mono ?_); rintro e w19 ⟨rfl, hb⟩; refine ⟨_, rfl, ?_⟩; replace HB := Aside0.mk (bS3 HB.out hb); (try clear hb); (try clear hk); (try simp only [errW_none, errW_some])))
       go_ret
       exact ⟨eR3, bR3 HB.out⟩
     ·
      rw [if_neg c7] at H
      have c7b0 : (FloatKind.f32.format.order t327 0 == some .eq) = false := by simpa using c7
      (try (have c7b1 : decide (FloatKind.f32.format.order t327 0 = some .eq) = false := by simpa using c7))
      (try (have c7b2 : (FloatKind.f32.format.order t327 0 == some .eq) = false := by simpa using c7))
      (try (have c7b3 : ¬ (FloatKind.f32.format.order t327 0 = some .eq) := by simpa using c7))
      clear c7
      obtain rfl := Option.some.inj H
      go_enter Try.func10, Try.ntmps10
      go_wp2_with (first | ((with_reducible refine gX_ 11 10 rfl rfl ?_); refine goesY_ (some 10) Try.func11 #[.int .i64 8, .float .f64 4609434218613702656] ?_; (with_reducible refine (flt_From64.calls k 8 4609434218613702656 t323 none _ A1.out).mono ?_); rintro e w20 ⟨rfl, hb⟩; refine ⟨_, rfl, ?_⟩; replace HB := Aside0.mk (bS3 HB.out hb); (try clear hb); (try clear hk); (try simp only [errW_none, errW_some])) | ((with_reducible refine gX_ 16 14 rfl rfl ?_); refine goesY_ (some 14) Try.func16 #[.int .i64 8, .int .u64 68] ?_; (with_reducible refine (flt_To64.calls k 8 68 t325 none _ A2.out).mono ?_); rintro e w21 ⟨rfl, hb⟩; refine ⟨_, rfl, ?_⟩; replace HB := Aside0.mk (bS3 HB.out hb); (try clear hb); (try clear hk); (try simp only [errW_none, errW_some])) | ((with_reducible refine gX_ 24 18 rfl rfl ?_); refine goesY_ (some 18) Try.func24 #[.int .i64 64, .int .u64 1] ?_; (with_reducible refine (flt_To32.calls k 64 1 t327 t328 _ A3.out).mono ?_); rintro e w22 ⟨rfl, hb⟩; refine ⟨_, rfl, ?_⟩; replace HB := Aside0.mk (bS3 HB.out hb); (try clear hb); (try clear hk); (try simp only [errW_none, errW_some])) | ((with_reducible refine gX_ 24 22 rfl rfl ?_); refine goesY_ (some 22) Try.func24 #[.int .i64 7, .int .u64 1] ?_; (with_reducible refine (flt_To32.calls k 7 1 t329 t330 _ A4.out).mono ?_); rintro e w23 ⟨rfl, hb⟩; refine ⟨_, rfl, ?_⟩; replace HB := Aside0.mk (bS3 HB.out hb); (try clear hb); (try clear hk); (try simp only [errW_none, errW_some])))
      go_ret
      exact ⟨eR3, bR3 HB.out⟩
    ·
     rw [if_neg (show ¬ (some q332).isNone = true by simp)] at H
     try simp only [Option.getD_some] at H
     try simp only [errW_none, errW_some]
     obtain rfl := Option.some.inj H
     go_enter Try.func10, Try.ntmps10
     go_wp2_with (first | ((with_reducible refine gX_ 11 10 rfl rfl ?_); refine goesY_ (some 10) Try.func11 #[.int .i64 8, .float .f64 4609434218613702656] ?_; (with_reducible refine (flt_From64.calls k 8 4609434218613702656 t323 none _ A1.out).mono ?_); rintro e w24 ⟨rfl, hb⟩; refine ⟨_, rfl, ?_⟩; replace HB := Aside0.mk (bS3 HB.out hb); (try clear hb); (try clear hk); (try simp only [errW_none, errW_some])) | ((with_reducible refine gX_ 16 14 rfl rfl ?_); refine goesY_ (some 14) Try.func16 #[.int .i64 8, .int .u64 68] ?_; (with_reducible refine (flt_To64.calls k 8 68 t325 (some q332) _ A2.out).mono ?_); rintro e w25 ⟨rfl, hb⟩; refine ⟨_, rfl, ?_⟩; replace HB := Aside0.mk (bS3 HB.out hb); (try clear hb); (try clear hk); (try simp only [errW_none, errW_some])) | ((with_reducible refine gX_ 24 18 rfl rfl ?_); refine goesY_ (some 18) Try.func24 #[.int .i64 64, .int .u64 1] ?_; (with_reducible refine (flt_To32.calls k 64 1 t327 t328 _ A3.out).mono ?_); rintro e w26 ⟨rfl, hb⟩; refine ⟨_, rfl, ?_⟩; replace HB := Aside0.mk (bS3 HB.out hb); (try clear hb); (try clear hk); (try simp only [errW_none, errW_some])) | ((with_reducible refine gX_ 24 22 rfl rfl ?_); refine goesY_ (some 22) Try.func24 #[.int .i64 7, .int .u64 1] ?_; (with_reducible refine (flt_To32.calls k 7 1 t329 t330 _ A4.out).mono ?_); rintro e w27 ⟨rfl, hb⟩; refine ⟨_, rfl, ?_⟩; replace HB := Aside0.mk (bS3 HB.out hb); (try clear hb); (try clear hk); (try simp only [errW_none, errW_some])))
     go_ret
     exact ⟨eR3, bR3 HB.out⟩
   ·
    rw [if_neg c6] at H
    have c6b0 : (FloatKind.f64.format.order t325 4609434218613702656 == some .eq) = false := by simpa using c6
    (try (have c6b1 : decide (FloatKind.f64.format.order t325 4609434218613702656 = some .eq) = false := by simpa using c6))
    (try (have c6b2 : (FloatKind.f64.format.order t325 4609434218613702656 == some .eq) = false := by simpa using c6))
    (try (have c6b3 : ¬ (FloatKind.f64.format.order t325 4609434218613702656 = some .eq) := by simpa using c6))
    clear c6
    obtain rfl := Option.some.inj H
    go_enter Try.func10, Try.ntmps10
    go_wp2_with (first | ((with_reducible refine gX_ 11 10 rfl rfl ?_); refine goesY_ (some 10) Try.func11 #[.int .i64 8, .float .f64 4609434218613702656] ?_; (with_reducible refine (flt_From64.calls k 8 4609434218613702656 t323 none _ A1.out).mono ?_); rintro e w28 ⟨rfl, hb⟩; refine ⟨_, rfl, ?_⟩; replace HB := Aside0.mk (bS3 HB.out hb); (try clear hb); (try clear hk); (try simp only [errW_none, errW_some])) | ((with_reducible refine gX_ 16 14 rfl rfl ?_); refine goesY_ (some 14) Try.func16 #[.int .i64 8, .int .u64 68] ?_; (with_reducible refine (flt_To64.calls k 8 68 t325 t326 _ A2.out).mono ?_); rintro e w29 ⟨rfl, hb⟩; refine ⟨_, rfl, ?_⟩; replace HB := Aside0.mk (bS3 HB.out hb); (try clear hb); (try clear hk); (try simp only [errW_none, errW_some])) | ((with_reducible refine gX_ 24 18 rfl rfl ?_); refine goesY_ (some 18) Try.func24 #[.int .i64 64, .int .u64 1] ?_; (with_reducible refine (flt_To32.calls k 64 1 t327 t328 _ A3.out).mono ?_); rintro e w30 ⟨rfl, hb⟩; refine ⟨_, rfl, ?_⟩; replace HB := Aside0.mk (bS3 HB.out hb); (try clear hb); (try clear hk); (try simp only [errW_none, errW_some])) | ((with_reducible refine gX_ 24 22 rfl rfl ?_); refine goesY_ (some 22) Try.func24 #[.int .i64 7, .int .u64 1] ?_; (with_reducible refine (flt_To32.calls k 7 1 t329 t330 _ A4.out).mono ?_); rintro e w31 ⟨rfl, hb⟩; refine ⟨_, rfl, ?_⟩; replace HB := Aside0.mk (bS3 HB.out hb); (try clear hb); (try clear hk); (try simp only [errW_none, errW_some])))
    go_ret
    exact ⟨eR3, bR3 HB.out⟩
  ·
   rw [if_neg (show ¬ (some q331).isNone = true by simp)] at H
   try simp only [Option.getD_some] at H
   try simp only [errW_none, errW_some]
   obtain rfl := Option.some.inj H
   go_enter Try.func10, Try.ntmps10
   go_wp2_with (first | ((with_reducible refine gX_ 11 10 rfl rfl ?_); refine goesY_ (some 10) Try.func11 #[.int .i64 8, .float .f64 4609434218613702656] ?_; (with_reducible refine (flt_From64.calls k 8 4609434218613702656 t323 (some q331) _ A1.out).mono ?_); rintro e w32 ⟨rfl, hb⟩; refine ⟨_, rfl, ?_⟩; replace HB := Aside0.mk (bS3 HB.out hb); (try clear hb); (try clear hk); (try simp only [errW_none, errW_some])) | ((with_reducible refine gX_ 16 14 rfl rfl ?_); refine goesY_ (some 14) Try.func16 #[.int .i64 8, .int .u64 68] ?_; (with_reducible refine (flt_To64.calls k 8 68 t325 t326 _ A2.out).mono ?_); rintro e w33 ⟨rfl, hb⟩; refine ⟨_, rfl, ?_⟩; replace HB := Aside0.mk (bS3 HB.out hb); (try clear hb); (try clear hk); (try simp only [errW_none, errW_some])) | ((with_reducible refine gX_ 24 18 rfl rfl ?_); refine goesY_ (some 18) Try.func24 #[.int .i64 64, .int .u64 1] ?_; (with_reducible refine (flt_To32.calls k 64 1 t327 t328 _ A3.out).mono ?_); rintro e w34 ⟨rfl, hb⟩; refine ⟨_, rfl, ?_⟩; replace HB := Aside0.mk (bS3 HB.out hb); (try clear hb); (try clear hk); (try simp only [errW_none, errW_some])) | ((with_reducible refine gX_ 24 22 rfl rfl ?_); refine goesY_ (some 22) Try.func24 #[.int .i64 7, .int .u64 1] ?_; (with_reducible refine (flt_To32.calls k 7 1 t329 t330 _ A4.out).mono ?_); rintro e w35 ⟨rfl, hb⟩; refine ⟨_, rfl, ?_⟩; replace HB := Aside0.mk (bS3 HB.out hb); (try clear hb); (try clear hk); (try simp only [errW_none, errW_some])))
   go_ret
   exact ⟨eR3, bR3 HB.out⟩
 ·
  rw [if_neg c5] at H
  have c5b0 : (t323 == 68) = false := beq_eq_false_iff_ne.mpr c5
  have c5b1 : (t323 != 68) = true := bne_iff_ne.mpr c5
  obtain rfl := Option.some.inj H
  go_enter Try.func10, Try.ntmps10
  go_wp2_with (first | ((with_reducible refine gX_ 11 10 rfl rfl ?_); refine goesY_ (some 10) Try.func11 #[.int .i64 8, .float .f64 4609434218613702656] ?_; (with_reducible refine (flt_From64.calls k 8 4609434218613702656 t323 t324 _ A1.out).mono ?_); rintro e w36 ⟨rfl, hb⟩; refine ⟨_, rfl, ?_⟩; replace HB := Aside0.mk (bS3 HB.out hb); (try clear hb); (try clear hk); (try simp only [errW_none, errW_some])) | ((with_reducible refine gX_ 16 14 rfl rfl ?_); refine goesY_ (some 14) Try.func16 #[.int .i64 8, .int .u64 68] ?_; (with_reducible refine (flt_To64.calls k 8 68 t325 t326 _ A2.out).mono ?_); rintro e w37 ⟨rfl, hb⟩; refine ⟨_, rfl, ?_⟩; replace HB := Aside0.mk (bS3 HB.out hb); (try clear hb); (try clear hk); (try simp only [errW_none, errW_some])) | ((with_reducible refine gX_ 24 18 rfl rfl ?_); refine goesY_ (some 18) Try.func24 #[.int .i64 64, .int .u64 1] ?_; (with_reducible refine (flt_To32.calls k 64 1 t327 t328 _ A3.out).mono ?_); rintro e w38 ⟨rfl, hb⟩; refine ⟨_, rfl, ?_⟩; replace HB := Aside0.mk (bS3 HB.out hb); (try clear hb); (try clear hk); (try simp only [errW_none, errW_some])) | ((with_reducible refine gX_ 24 22 rfl rfl ?_); refine goesY_ (some 22) Try.func24 #[.int .i64 7, .int .u64 1] ?_; (with_reducible refine (flt_To32.calls k 7 1 t329 t330 _ A4.out).mono ?_); rintro e w39 ⟨rfl, hb⟩; refine ⟨_, rfl, ?_⟩; replace HB := Aside0.mk (bS3 HB.out hb); (try clear hb); (try clear hk); (try simp only [errW_none, errW_some])))
  go_ret
  exact ⟨eR3, bR3 HB.out⟩
def vernierlaw17_pick.f (a0 : Int) (a1 : Int) : Option (Int) := if a0 < 0 then (if a1 = 0 then (none) else (some (Int.tmod (wrap64 (-(wrap64 (a0 + 1)))) a1))) else (if a1 = 0 then (none) else (some (Int.tmod a0 a1)))
set_option maxHeartbeats 8000000 in
set_option maxRecDepth 100000 in
theorem vernierlaw17_pick.calls (a0 : Int) (a1 : Int) (r : Int) (w : World) (h : vernierlaw17_pick.f a0 a1 = some r) :
  Calls Try.prog 55 #[.int .i64 a0, .int .i64 a1] w fun e w' => e = .returned (.int .i64 r) ∧ Drawn0 w w' := by
 have H : (if a0 < 0 then (if a1 = 0 then (none) else (some (Int.tmod (wrap64 (-(wrap64 (a0 + 1)))) a1))) else (if a1 = 0 then (none) else (some (Int.tmod a0 a1)))) = some r := h
 clear h
 by_cases c3 : a0 < 0
 ·
  rw [if_pos c3] at H
  have c3b0 : decide (a0 < 0) = true := decide_eq_true c3
  clear c3
  by_cases c4 : a1 = 0
  ·
   rw [if_pos c4] at H
   exact absurd H (by simp)
  ·
   rw [if_neg c4] at H
   have c4b0 : (a1 == 0) = false := beq_eq_false_iff_ne.mpr c4
   have c4b1 : (a1 != 0) = true := bne_iff_ne.mpr c4
   obtain rfl := Option.some.inj H
   go_enter Try.func55, Try.ntmps55
   go_wp2
   go_ret
   exact ⟨by first | rfl | (simp; done) | (simp [*]; done), by repeat (first | exact Drawn0.refl _ | apply Drawn0.step)⟩
 ·
  rw [if_neg c3] at H
  have c3b0 : decide (a0 < 0) = false := decide_eq_false c3
  clear c3
  by_cases c5 : a1 = 0
  ·
   rw [if_pos c5] at H
   exact absurd H (by simp)
  ·
   rw [if_neg c5] at H
   have c5b0 : (a1 == 0) = false := beq_eq_false_iff_ne.mpr c5
   have c5b1 : (a1 != 0) = true := bne_iff_ne.mpr c5
   obtain rfl := Option.some.inj H
   go_enter Try.func55, Try.ntmps55
   go_wp2
   go_ret
   exact ⟨by first | rfl | (simp; done) | (simp [*]; done), by repeat (first | exact Drawn0.refl _ | apply Drawn0.step)⟩
def vernierlaw17_width.l0 : Nat → Int → Int → Option (Int)
 | 0, _, _ => none
 | k + 1, x3, x4 => if x4 > 0 then (vernierlaw17_width.l0 k (wrap64 (2 * x3)) (wrap64 (x4 - 1))) else (some x3)
def vernierlaw17_width.f (k : Nat) (a0 : Int) : Option (Int) := (vernierlaw17_pick.f a0 4).bind fun t637 => (vernierlaw17_width.l0 k 8 t637)
set_option maxHeartbeats 8000000 in
set_option maxRecDepth 100000 in
theorem vernierlaw17_width.calls (k : Nat) (a0 : Int) (r : Int) (w : World) (h : vernierlaw17_width.f k a0 = some r) :
  Calls Try.prog 26 #[.int .i64 a0] w fun e w' => e = .returned (.int .i64 r) ∧ Drawn0 w w' := by
 have H : ((vernierlaw17_pick.f a0 4).bind fun t637 => (vernierlaw17_width.l0 k 8 t637)) = some r := h
 clear h
 replace H := Option.bind_eq_some_iff.mp H
 obtain ⟨t637, A20, H⟩ := H
 try dsimp -simprocs only at H
 have A2 := Aside0.mk A20
 clear A20
 have H' := Aside0.mk H
 clear H
 go_enter Try.func26, Try.ntmps26
 go_wp2_with (first | ((with_reducible refine gX_ 55 6 rfl rfl ?_); refine goesY_ (some 6) Try.func55 #[.int .i64 a0, .int .i64 4] ?_; (with_reducible refine (vernierlaw17_pick.calls a0 4 t637 _ A2.out).mono ?_); rintro e w' ⟨rfl, ⟨nd, rfl⟩⟩; refine ⟨_, rfl, ?_⟩))
 go_loopg [3, 4] k (fun kq v3 v4 w' => ∃ (x3_1 : Int) (x4_1 : Int), v3 = .int .i64 x3_1 ∧ v4 = .int .i64 x4_1 ∧ Aside0 (vernierlaw17_width.l0 kq x3_1 x4_1 = some r) ∧ Aside0 (kq ≤ k) ∧ Drawn0 w w')
 case atStart => exact ⟨(8), (t637), (by first | rfl | (simp; done) | (simp [*]; done)), (by first | rfl | (simp; done) | (simp [*]; done)), H', ⟨Nat.le_refl _⟩, by repeat (first | exact Drawn0.refl _ | apply Drawn0.step)⟩
 case round =>
  clear H'
  try clear c2
  try clear p2
  obtain ⟨x3_1, x4_1, rfl, rfl, HA, HK1, ⟨m1, rfl⟩⟩ := hrel
  cases gk with
  | zero => exact absurd HA.out (by simp [vernierlaw17_width.l0])
  | succ k1 =>
   have H := HA.out
   clear HA
   simp only [vernierlaw17_width.l0] at H
   by_cases c3 : x4_1 > 0
   ·
    rw [if_pos c3] at H
    have c3b0 : decide (0 < x4_1) = true := decide_eq_true c3
    clear c3
    have H' := Aside0.mk H
    clear H
    go_wp2
    go_roundg k1
    case measure => have := HK1.out; omega
    case rel => exact ⟨(wrap64 (2 * x3_1)), (wrap64 (x4_1 - 1)), (by first | rfl | (simp; done) | (simp [*]; done)), (by first | rfl | (simp; done) | (simp [*]; done)), H', ⟨by have := HK1.out; omega⟩, by repeat (first | exact Drawn0.refl _ | apply Drawn0.step)⟩
   ·
    rw [if_neg c3] at H
    have c3b0 : decide (0 < x4_1) = false := decide_eq_false c3
    clear c3
    obtain rfl := Option.some.inj H
    go_wp2
    go_ret
    exact ⟨by first | rfl | (simp; done) | (simp [*]; done), by repeat (first | exact Drawn0.refl _ | apply Drawn0.step)⟩
end Go.Proofs.Ytpdpggndhmnggaa.F
