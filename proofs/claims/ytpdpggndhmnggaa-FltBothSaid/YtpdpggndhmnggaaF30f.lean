/- Functions of the given program as plain Lean functions, and for each a proof that the program's call comes to just these answers; no further conditions. (Written by a program of this repo out of the translation.) -/
import Derived.Test.YtpdpggndhmnggaaF0f
import Derived.Test.YtpdpggndhmnggaaF3f
import Derived.Test.YtpdpggndhmnggaaF12f
import Derived.Test.YtpdpggndhmnggaaF40f
import Derived.Test.YtpdpggndhmnggaaF14f
import Derived.Test.YtpdpggndhmnggaaF29f
namespace Go.Proofs.Ytpdpggndhmnggaa.F
open Go.RowKit Go.Proofs.YtpdpggndhmnggaaW.PrintWords Go.Proofs.YtpdpggndhmnggaaW.PrintLast Go.Proofs.YtpdpggndhmnggaaW.PrintMore
attribute [local go_sem high] xor_u64 xor_u32 eqErr25 neErr25 eqErrL25 neErrL25
attribute [local go_sem] max2_int min2_int max_two min_two max_three min_three max_four min_four   -- for this text's walks alone
set_option linter.unusedVariables false
set_option linter.unusedSimpArgs false
def vernierlaw17_FltBotho.f (k : Nat) (a0 : Int) (a1 : Int) : Option (Bool) := (vernierlaw17_shown.f k).bind fun t689 => ((vernierlaw17_width.f k a0).bind fun t690 => ((math_Float32frombits.f a1).bind fun t691 => ((flt_From32.f k t690 t691).bind fun bt692 => (if (floatToFloatBits .f32 t691 .f64).isSome = true then ((flt_From64.f k t690 ((floatToFloatBits .f32 t691 .f64).getD 0)).bind fun bt694 => (if okF (Op.negFloat .f64 ((floatToFloatBits .f32 t691 .f64).getD 0)) = true then ((flt_From64.f k t690 (Op.negFloat .f64 ((floatToFloatBits .f32 t691 .f64).getD 0))).bind fun bt696 => ((order_Neg.f t690 bt692.1).bind fun bt698 => (if t689 = true then (if bt692.2.isNone = true then (if bt694.2.isNone = true then (if bt696.2.isNone = true then (if bt698.2.isNone = true then (if bt692.1 = bt694.1 then (some (bt696.1 == bt698.1)) else (some false)) else (some false)) else (some false)) else (some false)) else (some false)) else (some false)))) else (none))) else (none)))))
set_option maxHeartbeats 8000000 in
set_option maxRecDepth 100000 in
theorem vernierlaw17_FltBotho.calls (k : Nat) (a0 : Int) (a1 : Int) (r : Bool) (w : World) (h : vernierlaw17_FltBotho.f k a0 a1 = some r) :
  Calls Try.prog 7 #[.int .i64 a0, .int .u32 a1] w fun e w' => e = .returned (.bool r) ∧ Below w.heap.size w w' := by
 have hu25 := Try.underlying25
 have hu40 := Try.underlying40
 have HB := Aside0.mk (Below.refl w.heap.size w)
 have H : ((vernierlaw17_shown.f k).bind fun t689 => ((vernierlaw17_width.f k a0).bind fun t690 => ((math_Float32frombits.f a1).bind fun t691 => ((flt_From32.f k t690 t691).bind fun bt692 => (if (floatToFloatBits .f32 t691 .f64).isSome = true then ((flt_From64.f k t690 ((floatToFloatBits .f32 t691 .f64).getD 0)).bind fun bt694 => (if okF (Op.negFloat .f64 ((floatToFloatBits .f32 t691 .f64).getD 0)) = true then ((flt_From64.f k t690 (Op.negFloat .f64 ((floatToFloatBits .f32 t691 .f64).getD 0))).bind fun bt696 => ((order_Neg.f t690 bt692.1).bind fun bt698 => (if t689 = true then (if bt692.2.isNone = true then (if bt694.2.isNone = true then (if bt696.2.isNone = true then (if bt698.2.isNone = true then (if bt692.1 = bt694.1 then (some (bt696.1 == bt698.1)) else (some false)) else (some false)) else (some false)) else (some false)) else (some false)) else (some false)))) else (none))) else (none)))))) = some r := h
 clear h
 replace H := Option.bind_eq_some_iff.mp H
 obtain ⟨t689, A30, H⟩ := H
 try dsimp -simprocs only at H
 have A3 := Aside0.mk A30
 clear A30
 replace H := Option.bind_eq_some_iff.mp H
 obtain ⟨t690, A40, H⟩ := H
 try dsimp -simprocs only at H
 have A4 := Aside0.mk A40
 clear A40
 replace H := Option.bind_eq_some_iff.mp H
 obtain ⟨t691, A50, H⟩ := H
 try dsimp -simprocs only at H
 have A5 := Aside0.mk A50
 clear A50
 replace H := Option.bind_eq_some_iff.mp H
 obtain ⟨⟨t692, t693⟩, A60, H⟩ := H
 try dsimp -simprocs only at H
 have A6 := Aside0.mk A60
 clear A60
 by_cases c7 : (floatToFloatBits .f32 t691 .f64).isSome = true
 ·
  rw [if_pos c7] at H
  have c7x0 : ∀ w_ : World, (convert 48 28 (.float .f32 t691)).run Try.prog w_ = .ok (.float .f64 ((floatToFloatBits .f32 t691 .f64).getD 0)) w_ := fun w_ => run_convert_float_float w_ 48 28 .f32 .f64 t691 _ rfl Try.underlying28 (someD_ c7)
  clear c7
  replace H := Option.bind_eq_some_iff.mp H
  obtain ⟨⟨t694, t695⟩, A80, H⟩ := H
  try dsimp -simprocs only at H
  have A8 := Aside0.mk A80
  clear A80
  by_cases c9 : okF (Op.negFloat .f64 ((floatToFloatBits .f32 t691 .f64).getD 0)) = true
  ·
   rw [if_pos c9] at H
   have c9x0 : Op.unary .neg (.float .f64 ((floatToFloatBits .f32 t691 .f64).getD 0)) = pure (.float .f64 (Op.negFloat .f64 ((floatToFloatBits .f32 t691 .f64).getD 0))) := rfl
   clear c9
   replace H := Option.bind_eq_some_iff.mp H
   obtain ⟨⟨t696, t697⟩, A100, H⟩ := H
   try dsimp -simprocs only at H
   have A10 := Aside0.mk A100
   clear A100
   replace H := Option.bind_eq_some_iff.mp H
   obtain ⟨⟨t698, t699⟩, A110, H⟩ := H
   try dsimp -simprocs only at H
   have A11 := Aside0.mk A110
   clear A110
   by_cases c12 : t689 = true
   ·
    subst c12
    rw [if_pos rfl] at H
    rcases t693 with _ | q700
    ·
     rw [if_pos (show (none : Option Int).isNone = true by rfl)] at H
     try simp only [Option.getD_some] at H
     try simp only [errW_none, errW_some]
     rcases t695 with _ | q701
     ·
      rw [if_pos (show (none : Option Int).isNone = true by rfl)] at H
      try simp only [Option.getD_some] at H
      try simp only [errW_none, errW_some]
      rcases t697 with _ | q702
      ·
       rw [if_pos (show (none : Option Int).isNone = true by rfl)] at H
       try simp only [Option.getD_some] at H
       try simp only [errW_none, errW_some]
       rcases t699 with _ | q703
       ·
        rw [if_pos (show (none : Option Int).isNone = true by rfl)] at H
        try simp only [Option.getD_some] at H
        try simp only [errW_none, errW_some]
        by_cases c13 : t692 = t694
        ·
         rw [if_pos c13] at H
         have c13b0 : (t692 == t694) = true := beq_iff_eq.mpr c13
         have c13b1 : (t692 != t694) = false := bne_eq_false_iff_eq.mpr c13
         clear c13
         obtain rfl := Option.some.inj H
         go_enter Try.func7, Try.ntmps7
         go_wp2_with (first | ((with_reducible refine gX_ 10 16 rfl rfl ?_); refine goesY_ (some 16) Try.func10 #[] ?_; (with_reducible refine (vernierlaw17_shown.calls k  true _ A3.out).mono ?_); rintro e w14 ⟨rfl, hb⟩; refine ⟨_, rfl, ?_⟩; replace HB := Aside0.mk (bS3 HB.out hb); (try clear hb); (try clear hk)) | ((with_reducible refine gX_ 26 18 rfl rfl ?_); refine goesY_ (some 18) Try.func26 #[.int .i64 a0] ?_; (with_reducible refine (vernierlaw17_width.calls k a0 t690 _ A4.out).mono ?_); rintro e w' ⟨rfl, ⟨nd, rfl⟩⟩; refine ⟨_, rfl, ?_⟩) | ((with_reducible refine gC (f := 22) rfl ?_); (with_reducible refine gD (N := 20) rfl ?_); refine goesX_ (some 20) #[.int .u32 a1] ?_; (with_reducible refine (math_Float32frombits.calls a1 t691 _ A5.out).mono ?_); rintro e w' ⟨rfl, rfl⟩; refine ⟨_, rfl, ?_⟩) | ((with_reducible refine gX_ 21 24 rfl rfl ?_); refine goesY_ (some 24) Try.func21 #[.int .i64 t690, .float .f32 t691] ?_; (with_reducible refine (flt_From32.calls k t690 t691 t692 none _ A6.out).mono ?_); rintro e w15 ⟨rfl, hb⟩; refine ⟨_, rfl, ?_⟩; replace HB := Aside0.mk (bS3 HB.out hb); (try clear hb); (try clear hk); (try simp only [errW_none, errW_some])) | ((with_reducible refine gX_ 11 31 rfl rfl ?_); refine goesY_ (some 31) Try.func11 #[.int .i64 t690, .float .f64 ((floatToFloatBits .f32 t691 .f64).getD 0)] ?_; (with_reducible refine (flt_From64.calls k t690 ((floatToFloatBits .f32 t691 .f64).getD 0) t694 none _ A8.out).mono ?_); rintro e w16 ⟨rfl, hb⟩; refine ⟨_, rfl, ?_⟩; replace HB := Aside0.mk (bS3 HB.out hb); (try clear hb); (try clear hk); (try simp only [errW_none, errW_some])) | ((with_reducible refine gX_ 11 39 rfl rfl ?_); refine goesY_ (some 39) Try.func11 #[.int .i64 t690, .float .f64 (Op.negFloat .f64 ((floatToFloatBits .f32 t691 .f64).getD 0))] ?_; (with_reducible refine (flt_From64.calls k t690 (Op.negFloat .f64 ((floatToFloatBits .f32 t691 .f64).getD 0)) t696 none _ A10.out).mono ?_); rintro e w17 ⟨rfl, hb⟩; refine ⟨_, rfl, ?_⟩; replace HB := Aside0.mk (bS3 HB.out hb); (try clear hb); (try clear hk); (try simp only [errW_none, errW_some])) | ((with_reducible refine gX_ 27 45 rfl rfl ?_); refine goesY_ (some 45) Try.func27 #[.int .i64 t690, .int .u64 t692] ?_; (with_reducible refine (order_Neg.calls t690 t692 t698 none _ A11.out).mono ?_); rintro e w' ⟨rfl, ⟨nd, rfl⟩⟩; refine ⟨_, rfl, ?_⟩; (try simp only [errW_none, errW_some])))
         go_ret
         exact ⟨eR3, bR3 HB.out⟩
        ·
         rw [if_neg c13] at H
         have c13b0 : (t692 == t694) = false := beq_eq_false_iff_ne.mpr c13
         have c13b1 : (t692 != t694) = true := bne_iff_ne.mpr c13
         obtain rfl := Option.some.inj H
         go_enter Try.func7, Try.ntmps7
         go_wp2_with (first | ((with_reducible refine gX_ 10 16 rfl rfl ?_); refine goesY_ (some 16) Try.func10 #[] ?_; (with_reducible refine (vernierlaw17_shown.calls k  true _ A3.out).mono ?_); rintro e w18 ⟨rfl, hb⟩; refine ⟨_, rfl, ?_⟩; replace HB := Aside0.mk (bS3 HB.out hb); (try clear hb); (try clear hk)) | ((with_reducible refine gX_ 26 18 rfl rfl ?_); refine goesY_ (some 18) Try.func26 #[.int .i64 a0] ?_; (with_reducible refine (vernierlaw17_width.calls k a0 t690 _ A4.out).mono ?_); rintro e w' ⟨rfl, ⟨nd, rfl⟩⟩; refine ⟨_, rfl, ?_⟩) | ((with_reducible refine gC (f := 22) rfl ?_); (with_reducible refine gD (N := 20) rfl ?_); refine goesX_ (some 20) #[.int .u32 a1] ?_; (with_reducible refine (math_Float32frombits.calls a1 t691 _ A5.out).mono ?_); rintro e w' ⟨rfl, rfl⟩; refine ⟨_, rfl, ?_⟩) | ((with_reducible refine gX_ 21 24 rfl rfl ?_); refine goesY_ (some 24) Try.func21 #[.int .i64 t690, .float .f32 t691] ?_; (with_reducible refine (flt_From32.calls k t690 t691 t692 none _ A6.out).mono ?_); rintro e w19 ⟨rfl, hb⟩; refine ⟨_, rfl, ?_⟩; replace HB := Aside0.mk (bS3 HB.out hb); (try clear hb); (try clear hk); (try simp only [errW_none, errW_some])) | ((with_reducible refine gX_ 11 31 rfl rfl ?_); refine goesY_ (some 31) Try.func11 #[.int .i64 t690, .float .f64 ((floatToFloatBits .f32 t691 .f64).getD 0)] ?_; (with_reducible refine (flt_From64.calls k t690 ((floatToFloatBits .f32 t691 .f64).getD 0) t694 none _ A8.out).mono ?_); rintro e w20 ⟨rfl, hb⟩; refine ⟨_, rfl, ?_⟩; replace HB := Aside0.mk (bS3 HB.out hb); (try clear hb); (try clear hk); (try simp only [errW_none, errW_some])) | ((with_reducible refine gX_ 11 39 rfl rfl ?_); refine goesY_ (some 39) Try.func11 #[.int .i64 t690, .float .f64 (Op.negFloat .f64 ((floatToFloatBits .f32 t691 .f64).getD 0))] ?_; (with_reducible refine (flt_From64.calls k t690 (Op.negFloat .f64 ((floatToFloatBits .f32 t691 .f64).getD 0)) t696 none _ A10.out).mono ?_); rintro e w21 ⟨rfl, hb⟩; refine ⟨_, rfl, ?_⟩; replace HB := Aside0.mk (bS3 HB.out hb); (try clear hb); (try clear hk); (try simp only [errW_none, errW_some])) | ((with_reducible refine gX_ 27 45 rfl rfl ?_); refine goesY_ (some 45) Try.func27 #[.int .i64 t690, .int .u64 t692] ?_; (with_reducible refine (order_Neg.calls t690 t692 t698 none _ A11.out).mono ?_); rintro e w' ⟨rfl, ⟨nd, rfl⟩⟩; refine ⟨_, rfl, ?_⟩; (try simp only [errW_none, errW_some])))
         go_ret
         exact ⟨eR3, bR3 HB.out⟩
       ·
        rw [if_neg (show ¬ (some q703).isNone = true by simp)] at H
        try simp only [Option.getD_some] at H
        try simp only [errW_none, errW_some]
        obtain rfl := Option.some.inj H
        go_enter Try.func7, Try.ntmps7
        go_wp2_with (first | ((with_reducible refine gX_ 10 16 rfl rfl ?_); refine goesY_ (some 16) Try.func10 #[] ?_; (with_reducible refine (vernierlaw17_shown.calls k  true _ A3.out).mono ?_); rintro e w22 ⟨rfl, hb⟩; refine ⟨_, rfl, ?_⟩; replace HB := Aside0.mk (bS3 HB.out hb); (try clear hb); (try clear hk)) | ((with_reducible refine gX_ 26 18 rfl rfl ?_); refine goesY_ (some 18) Try.func26 #[.int .i64 a0] ?_; (with_reducible refine (vernierlaw17_width.calls k a0 t690 _ A4.out).mono ?_); rintro e w' ⟨rfl, ⟨nd, rfl⟩⟩; refine ⟨_, rfl, ?_⟩) | ((with_reducible refine gC (f := 22) rfl ?_); (with_reducible refine gD (N := 20) rfl ?_); refine goesX_ (some 20) #[.int .u32 a1] ?_; (with_reducible refine (math_Float32frombits.calls a1 t691 _ A5.out).mono ?_); rintro e w' ⟨rfl, rfl⟩; refine ⟨_, rfl, ?_⟩) | ((with_reducible refine gX_ 21 24 rfl rfl ?_); refine goesY_ (some 24) Try.func21 #[.int .i64 t690, .float .f32 t691] ?_; (with_reducible refine (flt_From32.calls k t690 t691 t692 none _ A6.out).mono ?_); rintro e w23 ⟨rfl, hb⟩; refine ⟨_, rfl, ?_⟩; replace HB := Aside0.mk (bS3 HB.out hb); (try clear hb); (try clear hk); (try simp only [errW_none, errW_some])) | ((with_reducible refine gX_ 11 31 rfl rfl ?_); refine goesY_ (some 31) Try.func11 #[.int .i64 t690, .float .f64 ((floatToFloatBits .f32 t691 .f64).getD 0)] ?_; (with_reducible refine (flt_From64.calls k t690 ((floatToFloatBits .f32 t691 .f64).getD 0) t694 none _ A8.out).mono ?_); rintro e w24 ⟨rfl, hb⟩; refine ⟨_, rfl, ?_⟩; replace HB := Aside0.mk (bS3 HB.out hb); (try clear hb); (try clear hk); (try simp only [errW_none, errW_some])) | ((with_reducible refine gX_ 11 39 rfl rfl ?_); refine goesY_ (some 39) Try.func11 #[.int .i64 t690, .float .f64 (Op.negFloat .f64 ((floatToFloatBits .f32 t691 .f64).getD 0))] ?_; (with_reducible refine (flt_From64.calls k t690 (Op.negFloat .f64 ((floatToFloatBits .f32 t691 .f64).getD 0)) t696 none _ A10.out).mono ?_); rintro e w25 ⟨rfl, hb⟩; refine ⟨_, rfl, ?_⟩; replace HB := Aside0.mk (bS3 HB.out hb); (try clear hb); (try clear hk); (try simp only [errW_none, errW_some])) | ((with_reducible refine gX_ 27 45 rfl rfl ?_); refine goesY_ (some 45) Try.func27 #[.int .i64 t690, .int .u64 t692] ?_; (with_reducible refine (order_Neg.calls t690 t692 t698 (some q703) _ A11.out).mono ?_); rintro e w' ⟨rfl, ⟨nd, rfl⟩⟩; refine ⟨_, rfl, ?_⟩; (try simp only [errW_none, errW_some])))
        go_ret
        exact ⟨eR3, bR3 HB.out⟩
      ·
       rw [if_neg (show ¬ (some q702).isNone = true by simp)] at H
       try simp only [Option.getD_some] at H
       try simp only [errW_none, errW_some]
       obtain rfl := Option.some.inj H
       go_enter Try.func7, Try.ntmps7
       go_wp2_with (first | ((with_reducible refine gX_ 10 16 rfl rfl ?_); refine goesY_ (some 16) Try.func10 #[] ?_; (with_reducible refine (vernierlaw17_shown.calls k  true _ A3.out).mono ?_); rintro e w26 ⟨rfl, hb⟩; refine ⟨_, rfl, ?_⟩; replace HB := Aside0.mk (bS3 HB.out hb); (try clear hb); (try clear hk)) | ((with_reducible refine gX_ 26 18 rfl rfl ?_); refine goesY_ (some 18) Try.func26 #[.int .i64 a0] ?_; (with_reducible refine (vernierlaw17_width.calls k a0 t690 _ A4.out).mono ?_); rintro e w' ⟨rfl, ⟨nd, rfl⟩⟩; refine ⟨_, rfl, ?_⟩) | ((with_reducible refine gC (f := 22) rfl ?_); (with_reducible refine gD (N := 20) rfl ?_); refine goesX_ (some 20) #[.int .u32 a1] ?_; (with_reducible refine (math_Float32frombits.calls a1 t691 _ A5.out).mono ?_); rintro e w' ⟨rfl, rfl⟩; refine ⟨_, rfl, ?_⟩) | ((with_reducible refine gX_ 21 24 rfl rfl ?_); refine goesY_ (some 24) Try.func21 #[.int .i64 t690, .float .f32 t691] ?_; (with_reducible refine (flt_From32.calls k t690 t691 t692 none _ A6.out).mono ?_); rintro e w27 ⟨rfl, hb⟩; refine ⟨_, rfl, ?_⟩; replace HB := Aside0.mk (bS3 HB.out hb); (try clear hb); (try clear hk); (try simp only [errW_none, errW_some])) | ((with_reducible refine gX_ 11 31 rfl rfl ?_); refine goesY_ (some 31) Try.func11 #[.int .i64 t690, .float .f64 ((floatToFloatBits .f32 t691 .f64).getD 0)] ?_; (with_reducible refine (flt_From64.calls k t690 ((floatToFloatBits .f32 t691 .f64).getD 0) t694 none _ A8.out).mono ?_); rintro e w28 ⟨rfl, hb⟩; refine ⟨_, rfl, ?_⟩; replace HB := Aside0.mk (bS3 HB.out hb); (try clear hb); (try clear hk); (try simp only [errW_none, errW_some])) | ((with_reducible refine gX_ 11 39 rfl rfl ?_); refine goesY_ (some 39) Try.func11 #[.int .i64 t690, .float .f64 (Op.negFloat .f64 ((floatToFloatBits .f32 t691 .f64).getD 0))] ?_; (with_reducible refine (flt_From64.calls k t690 (Op.negFloat .f64 ((floatToFloatBits .f32 t691 .f64).getD 0)) t696 (some q702) _ A10.out).mono ?_); rintro e w29 ⟨rfl, hb⟩; refine ⟨_, rfl, ?_⟩; replace HB := Aside0.mk (bS3 HB.out hb); (try clear hb); (try clear hk); (try simp only [errW_none, errW_some])) | ((with_reducible refine gX_ 27 45 rfl rfl ?_); refine goesY_ (some 45) Try.func27 #[.int .i64 t690, .int .u64 t692] ?_; (with_reducible refine (order_Neg.calls t690 t692 t698 t699 _ A11.out).mono ?_); rintro e w' ⟨rfl, ⟨nd, rfl⟩⟩; refine ⟨_, rfl, ?_⟩; (try simp only [errW_none, errW_some])))
       go_ret
       exact ⟨eR3, bR3 HB.out⟩
     ·
      rw [if_neg (show ¬ (some q701).isNone = true by simp)] at H
      try simp only [Option.getD_some] at H
      try simp only [errW_none, errW_some]
      obtain rfl := Option.some.inj H
      go_enter Try.func7, Try.ntmps7
      go_wp2_with (first | ((with_reducible refine gX_ 10 16 rfl rfl ?_); refine goesY_ (some 16) Try.func10 #[] ?_; (with_reducible refine (vernierlaw17_shown.calls k  true _ A3.out).mono ?_); rintro e w30 ⟨rfl, hb⟩; refine ⟨_, rfl, ?_⟩; replace HB := Aside0.mk (bS3 HB.out hb); (try clear hb); (try clear hk)) | ((with_reducible refine gX_ 26 18 rfl rfl ?_); refine goesY_ (some 18) Try.func26 #[.int .i64 a0] ?_; (with_reducible refine (vernierlaw17_width.calls k a0 t690 _ A4.out).mono ?_); rintro e w' ⟨rfl, ⟨nd, rfl⟩⟩; refine ⟨_, rfl, ?_⟩) | ((with_reducible refine gC (f := 22) rfl ?_); (with_reducible refine gD (N := 20) rfl ?_); refine goesX_ (some 20) #[.int .u32 a1] ?_; (with_reducible refine (math_Float32frombits.calls a1 t691 _ A5.out).mono ?_); rintro e w' ⟨rfl, rfl⟩; refine ⟨_, rfl, ?_⟩) | ((with_reducible refine gX_ 21 24 rfl rfl ?_); refine goesY_ (some 24) Try.func21 #[.int .i64 t690, .float .f32 t691] ?_; (with_reducible refine (flt_From32.calls k t690 t691 t692 none _ A6.out).mono ?_); rintro e w31 ⟨rfl, hb⟩; refine ⟨_, rfl, ?_⟩; replace HB := Aside0.mk (bS3 HB.out hb); (try clear hb); (try clear hk); (try simp only [errW_none, errW_some])) | ((with_reducible refine gX_ 11 31 rfl rfl ?_); refine goesY_ (some 31) Try.func11 #[.int .i64 t690, .float .f64 ((floatToFloatBits .f32 t691 .f64).getD 0)] ?_; (with_reducible refine (flt_From64.calls k t690 ((floatToFloatBits .f32 t691 .f64).getD 0) t694 (some q701) _ A8.out).mono ?_); rintro e w32 ⟨rfl, hb⟩; refine ⟨_, rfl, ?_⟩; replace HB := Aside0.mk (bS3 HB.out hb); (try clear hb); (try clear hk); (try simp only [errW_none, errW_some])) | ((with_reducible refine gX_ 11 39 rfl rfl ?_); refine goesY_ (some 39) Try.func11 #[.int .i64 t690, .float .f64 (Op.negFloat .f64 ((floatToFloatBits .f32 t691 .f64).getD 0))] ?_; (with_reducible refine (flt_From64.calls k t690 (Op.negFloat .f64 ((floatToFloatBits .f32 t691 .f64).getD 0)) t696 t697 _ A10.out).mono ?_); rintro e w33 ⟨rfl, hb⟩; refine ⟨_, rfl, ?_⟩; replace HB := Aside0.mk (bS3 HB.out hb); (try clear hb); (try clear hk); (try simp only [errW_none, errW_some])) | ((with_reducible refine gX_ 27 45 rfl rfl ?_); refine goesY_ (some 45) Try.func27 #[.int .i64 t690, .int .u64 t692] ?_; (with_reducible refine (order_Neg.calls t690 t692 t698 t699 _ A11.out).mono ?_); rintro e w' ⟨rfl, ⟨nd, rfl⟩⟩; refine ⟨_, rfl, ?_⟩; (try simp only [errW_none, errW_some])))
      go_ret
      exact ⟨eR3, bR3 HB.out⟩
    ·
     rw [if_neg (show ¬ (some q700).isNone = true by simp)] at H
     try simp only [Option.getD_some] at H
     try simp only [errW_none, errW_some]
     obtain rfl := Option.some.inj H
     go_enter Try.func7, Try.ntmps7
     go_wp2_with (first | ((with_reducible refine gX_ 10 16 rfl rfl ?_); refine goesY_ (some 16) Try.func10 #[] ?_; (with_reducible refine (vernierlaw17_shown.calls k  true _ A3.out).mono ?_); rintro e w34 ⟨rfl, hb⟩; refine ⟨_, rfl, ?_⟩; replace HB := Aside0.mk (bS3 HB.out hb); (try clear hb); (try clear hk)) | ((with_reducible refine gX_ 26 18 rfl rfl ?_); refine goesY_ (some 18) Try.func26 #[.int .i64 a0] ?_; (with_reducible refine (vernierlaw17_width.calls k a0 t690 _ A4.out).mono ?_); rintro e w' ⟨rfl, ⟨nd, rfl⟩⟩; refine ⟨_, rfl, ?_⟩) | ((with_reducible refine gC (f := 22) rfl ?_); (with_reducible refine gD (N := 20) rfl ?_); refine goesX_ (some 20) #[.int .u32 a1] ?_; (with_reducible refine (math_Float32frombits.calls a1 t691 _ A5.out).mono ?_); rintro e w' ⟨rfl, rfl⟩; refine ⟨_, rfl, ?_⟩) | ((with_reducible refine gX_ 21 24 rfl rfl ?_); refine goesY_ (some 24) Try.func21 #[.int .i64 t690, .float .f32 t691] ?_; (with_reducible refine (flt_From32.calls k t690 t691 t692 (some q700) _ A6.out).mono ?_); rintro e w35 ⟨rfl, hb⟩; refine ⟨_, rfl, ?_⟩; replace HB := Aside0.mk (bS3 HB.out hb); (try clear hb); (try clear hk); (try simp only [errW_none, errW_some])) | ((with_reducible refine gX_ 11 31 rfl rfl ?_); refine goesY_ (some 31) Try.func11 #[.int .i64 t690, .float .f64 ((floatToFloatBits .f32 t691 .f64).getD 0)] ?_; (with_reducible refine (flt_From64.calls k t690 ((floatToFloatBits .f32 t691 .f64).getD 0) t694 t695 _ A8.out).mono ?_); rintro e w36 ⟨rfl, hb⟩; refine ⟨_, rfl, ?_⟩; replace HB := Aside0.mk (bS3 HB.out hb); (try clear hb); (try clear hk); (try simp only [errW_none, errW_some])) | ((with_reducible refine gX_ 11 39 rfl rfl ?_); refine goesY_ (some 39) Try.func11 #[.int .i64 t690, .float .f64 (Op.negFloat .f64 ((floatToFloatBits .f32 t691 .f64).getD 0))] ?_; (with_reducible refine (flt_From64.calls k t690 (Op.negFloat .f64 ((floatToFloatBits .f32 t691 .f64).getD 0)) t696 t697 _ A10.out).mono ?_); rintro e w37 ⟨rfl, hb⟩; refine ⟨_, rfl, ?_⟩; replace HB := Aside0.mk (bS3 HB.out hb); (try clear hb); (try clear hk); (try simp only [errW_none, errW_some])) | ((with_reducible refine gX_ 27 45 rfl rfl ?_); refine goesY_ (some 45) Try.func27 #[.int .i64 t690, .int .u64 t692] ?_; (with_reducible refine (order_Neg.calls t690 t692 t698 t699 _ A11.out).mono ?_); rintro e w' ⟨rfl, ⟨nd, rfl⟩⟩; refine ⟨_, rfl, ?_⟩; (try simp only [errW_none, errW_some])))
     go_ret
     exact ⟨eR3, bR3 HB.out⟩
   ·
    replace c12 := Bool.eq_false_iff.mpr c12
    subst c12
    rw [if_neg (show ¬ (false = true) by decide)] at H
    obtain rfl := Option.some.inj H
    go_enter Try.func7, Try.ntmps7
    go_wp2_with (first | ((with_reducible refine gX_ 10 16 rfl rfl ?_); refine goesY_ (some 16) Try.func10 #[] ?_; (with_reducible refine (vernierlaw17_shown.calls k  false _ A3.out).mono ?_); rintro e w38 ⟨rfl, hb⟩; refine ⟨_, rfl, ?_⟩; replace HB := Aside0.mk (bS3 HB.out hb); (try clear hb); (try clear hk)) | ((with_reducible refine gX_ 26 18 rfl rfl ?_); refine goesY_ (some 18) Try.func26 #[.int .i64 a0] ?_; (with_reducible refine (vernierlaw17_width.calls k a0 t690 _ A4.out).mono ?_); rintro e w' ⟨rfl, ⟨nd, rfl⟩⟩; refine ⟨_, rfl, ?_⟩) | ((with_reducible refine gC (f := 22) rfl ?_); (with_reducible refine gD (N := 20) rfl ?_); refine goesX_ (some 20) #[.int .u32 a1] ?_; (with_reducible refine (math_Float32frombits.calls a1 t691 _ A5.out).mono ?_); rintro e w' ⟨rfl, rfl⟩; refine ⟨_, rfl, ?_⟩) | ((with_reducible refine gX_ 21 24 rfl rfl ?_); refine goesY_ (some 24) Try.func21 #[.int .i64 t690, .float .f32 t691] ?_; (with_reducible refine (flt_From32.calls k t690 t691 t692 t693 _ A6.out).mono ?_); rintro e w39 ⟨rfl, hb⟩; refine ⟨_, rfl, ?_⟩; replace HB := Aside0.mk (bS3 HB.out hb); (try clear hb); (try clear hk); (try simp only [errW_none, errW_some])) | ((with_reducible refine gX_ 11 31 rfl rfl ?_); refine goesY_ (some 31) Try.func11 #[.int .i64 t690, .float .f64 ((floatToFloatBits .f32 t691 .f64).getD 0)] ?_; (with_reducible refine (flt_From64.calls k t690 ((floatToFloatBits .f32 t691 .f64).getD 0) t694 t695 _ A8.out).mono ?_); rintro e w40 ⟨rfl, hb⟩; refine ⟨_, rfl, ?_⟩; replace HB := Aside0.mk (bS3 HB.out hb); (try clear hb); (try clear hk); (try simp only [errW_none, errW_some])) | ((with_reducible refine gX_ 11 39 rfl rfl ?_); refine goesY_ (some 39) Try.func11 #[.int .i64 t690, .float .f64 (Op.negFloat .f64 ((floatToFloatBits .f32 t691 .f64).getD 0))] ?_; (with_reducible refine (flt_From64.calls k t690 (Op.negFloat .f64 ((floatToFloatBits .f32 t691 .f64).getD 0)) t696 t697 _ A10.out).mono ?_); rintro e w41 ⟨rfl, hb⟩; refine ⟨_, rfl, ?_⟩; replace HB := Aside0.mk (bS3 HB.out hb); (try clear hb); (try clear hk); (try simp only [errW_none, errW_some])) | ((with_reducible refine gX_ 27 45 rfl rfl ?_); refine goesY_ (some 45) Try.func27 #[.int .i64 t690, .int .u64 t692] ?_; (with_reducible refine (order_Neg.calls t690 t692 t698 t699 _ A11.out).mono ?_); rintro e w' ⟨rfl, ⟨nd, rfl⟩⟩; refine ⟨_, rfl, ?_⟩; (try simp only [errW_none, errW_some])))
    go_ret
    exact ⟨eR3, bR3 HB.out⟩
  ·
   rw [if_neg c9] at H
   exact absurd H (by simp)
 ·
  rw [if_neg c7] at H
  exact absurd H (by simp)
def vernierlaw17_FltBoth.f (k : Nat) (a0 : Int) (a1 : Int) : Option (Bool) := (math_Float32frombits.f a1).bind fun q0 => (if nanB .f32 q0 = true then ((vernierlaw17_shown.f k).bind fun q1 => ((vernierlaw17_width.f k a0).bind fun q2 => ((flt_From32N.f k q2 q0).bind fun q3 => ((flt_From64.f k q2 9221120237041090561).bind fun q4 => ((order_Neg.f q2 q3.1).bind fun q5 => (if q1 = true ∧ q3.2 = none ∧ q4.2 = none ∧ q5.2 = none ∧ q3.1 = q4.1 ∧ q4.1 = q5.1 then some true else none)))))) else (vernierlaw17_FltBotho.f k a0 a1))
set_option maxHeartbeats 8000000 in
set_option maxRecDepth 100000 in
theorem vernierlaw17_FltBoth.callsN (k : Nat) (a0 : Int) (a1 : Int) (t691 : Nat) (t690 t692 t694 t696 t698 : Int) (w : World) (BN : nanB .f32 t691 = true) (B0 : math_Float32frombits.f a1 = some t691) (B1 : vernierlaw17_shown.f k = some true) (B2 : vernierlaw17_width.f k a0 = some t690) (B3 : flt_From32N.f k t690 t691 = some (t692, none)) (B4 : flt_From64.f k t690 9221120237041090561 = some (t694, none)) (B4m : flt_From64.f k t690 9221120237041090561 = some (t696, none)) (B5 : order_Neg.f t690 t692 = some (t698, none)) (B6 : t692 = t694) (B7 : t696 = t698) :
  Calls Try.prog 7 #[.int .i64 a0, .int .u32 a1] w fun e w' => e = .returned (.bool true) ∧ Below w.heap.size w w' := by
 have hu25 := Try.underlying25
 have hu40 := Try.underlying40
 have HB := Aside0.mk (Below.refl w.heap.size w)
 have A5 := Aside0.mk B0
 have A3 := Aside0.mk B1
 have A4 := Aside0.mk B2
 have A6 := Aside0.mk B3
 have A8 : Aside0 (∀ v : Nat, 9218868437227405312 < v % 9223372036854775808 → flt_From64.f k t690 v = some (t694, none)) := Aside0.mk (fun v hv => (From64_any k _ hv (by decide)).trans B4)
 have A10 : Aside0 (∀ v : Nat, 9218868437227405312 < v % 9223372036854775808 → flt_From64.f k t690 v = some (t696, none)) := Aside0.mk (fun v hv => (From64_any k _ hv (by decide)).trans B4m)
 have A11 := Aside0.mk B5
 have c13b0 : (t692 == t694) = true := beq_iff_eq.mpr B6
 have c13b1 : (t692 != t694) = false := bne_eq_false_iff_eq.mpr B6
 have c14b0 : (t696 == t698) = true := beq_iff_eq.mpr B7
 have c7x0 : ∀ w_ : World, (convert 48 28 (.float .f32 t691)).run Try.prog w_ = .ok (.float .f64 (nanC .f64 t691 w_)) w_.drew := fun w_ => run_conv_nan 48 28 .f32 .f64 t691 rfl Try.underlying28 (by decide) BN w_
 have c9x0 : ∀ v : Nat, Op.unary .neg (.float .f64 v) = pure (.float .f64 (Op.negFloat .f64 v)) := fun _ => rfl
 clear BN B0 B1 B2 B3 B4 B4m B5 B6 B7
 go_enter Try.func7, Try.ntmps7
 go_wp2_with (first | ((with_reducible refine gX_ 10 16 rfl rfl ?_); refine goesY_ (some 16) Try.func10 #[] ?_; (with_reducible refine (vernierlaw17_shown.calls k  true _ A3.out).mono ?_); rintro e w14 ⟨rfl, hb⟩; refine ⟨_, rfl, ?_⟩; replace HB := Aside0.mk (bS3 HB.out hb); (try clear hb); (try clear hk)) | ((with_reducible refine gX_ 26 18 rfl rfl ?_); refine goesY_ (some 18) Try.func26 #[.int .i64 a0] ?_; (with_reducible refine (vernierlaw17_width.calls k a0 t690 _ A4.out).mono ?_); rintro e w' ⟨rfl, ⟨nd, rfl⟩⟩; refine ⟨_, rfl, ?_⟩) | ((with_reducible refine gC (f := 22) rfl ?_); (with_reducible refine gD (N := 20) rfl ?_); refine goesX_ (some 20) #[.int .u32 a1] ?_; (with_reducible refine (math_Float32frombits.calls a1 t691 _ A5.out).mono ?_); rintro e w' ⟨rfl, rfl⟩; refine ⟨_, rfl, ?_⟩) | ((with_reducible refine gX_ 21 24 rfl rfl ?_); refine goesY_ (some 24) Try.func21 #[.int .i64 t690, .float .f32 t691] ?_; (with_reducible refine (flt_From32N.calls k t690 t691 t692 none _ A6.out).mono ?_); rintro e w15 ⟨rfl, hb⟩; refine ⟨_, rfl, ?_⟩; replace HB := Aside0.mk (bS3 HB.out hb); (try clear hb); (try clear hk); (try simp only [errW_none, errW_some])) | ((with_reducible refine gX_ 11 31 rfl rfl ?_); refine goesY_ (some 31) Try.func11 #[.int .i64 t690, .float .f64 (nanC .f64 t691 _)] ?_; (with_reducible refine (flt_From64.calls k t690 (nanC .f64 t691 _) t694 none _ (A8.out _ (nanC_nan _))).mono ?_); rintro e w16 ⟨rfl, hb⟩; refine ⟨_, rfl, ?_⟩; replace HB := Aside0.mk (bS3 HB.out hb); (try clear hb); (try clear hk); (try simp only [errW_none, errW_some])) | ((with_reducible refine gX_ 11 39 rfl rfl ?_); refine goesY_ (some 39) Try.func11 #[.int .i64 t690, .float .f64 (Op.negFloat .f64 (nanC .f64 t691 _))] ?_; (with_reducible refine (flt_From64.calls k t690 (Op.negFloat .f64 (nanC .f64 t691 _)) t696 none _ (A10.out _ (neg_nan (nanC_nan _)))).mono ?_); rintro e w17 ⟨rfl, hb⟩; refine ⟨_, rfl, ?_⟩; replace HB := Aside0.mk (bS3 HB.out hb); (try clear hb); (try clear hk); (try simp only [errW_none, errW_some])) | ((with_reducible refine gX_ 27 45 rfl rfl ?_); refine goesY_ (some 45) Try.func27 #[.int .i64 t690, .int .u64 t692] ?_; (with_reducible refine (order_Neg.calls t690 t692 t698 none _ A11.out).mono ?_); rintro e w' ⟨rfl, ⟨nd, rfl⟩⟩; refine ⟨_, rfl, ?_⟩; (try simp only [errW_none, errW_some])))
 go_ret
 refine ⟨?_, bR3 HB.out⟩
 first | rfl | (rw [c14b0]; done) | (simp [c14b0]; done) | (simp [*]; done)
theorem vernierlaw17_FltBoth.calls (k : Nat) (a0 : Int) (a1 : Int) (r : Bool) (w : World) (h : vernierlaw17_FltBoth.f k a0 a1 = some r) :
  Calls Try.prog 7 #[.int .i64 a0, .int .u32 a1] w fun e w' => e = .returned (.bool r) ∧ Below w.heap.size w w' := by
 unfold vernierlaw17_FltBoth.f at h
 obtain ⟨q0, h0, ha⟩ := Option.bind_eq_some_iff.mp h
 clear h
 by_cases c : nanB .f32 q0 = true
 ·
  rw [if_pos c] at ha
  obtain ⟨q1, h1, hb⟩ := Option.bind_eq_some_iff.mp ha
  obtain ⟨q2, h2, hc⟩ := Option.bind_eq_some_iff.mp hb
  obtain ⟨⟨q3, q3e⟩, h3, hd⟩ := Option.bind_eq_some_iff.mp hc
  obtain ⟨⟨q4, q4e⟩, h4, he⟩ := Option.bind_eq_some_iff.mp hd
  obtain ⟨⟨q5, q5e⟩, h5, hf⟩ := Option.bind_eq_some_iff.mp he
  clear ha hb hc hd he
  dsimp only at h5 hf
  by_cases c3 : q1 = true ∧ q3e = none ∧ q4e = none ∧ q5e = none ∧ q3 = q4 ∧ q4 = q5
  ·
   rw [if_pos c3] at hf
   obtain ⟨rfl, rfl, rfl, rfl, e1, e2⟩ := c3
   obtain rfl := Option.some.inj hf
   exact vernierlaw17_FltBoth.callsN k a0 a1 q0 q2 q3 q4 q4 q5 w c h0 h1 h2 h3 h4 h4 h5 e1 e2
  ·
   rw [if_neg c3] at hf; cases hf
 ·
  rw [if_neg c] at ha
  exact vernierlaw17_FltBotho.calls k a0 a1 r w ha
/-- THE ONE PURE STATEMENT of vernierlaw17_FltBoth: yours. -/
def vernierlaw17_FltBoth.Pure : Prop := ∀ (a0 : Int) (a1 : Int), (Lit.int .i64 a0).wf = true → (Lit.int .u32 a1).wf = true → ∃ k, vernierlaw17_FltBoth.f k a0 a1 = some true
theorem vernierlaw17_FltBoth.walk (P : vernierlaw17_FltBoth.Pure) (a0 : Int) (a1 : Int) (w : World) (w0 : (Lit.int .i64 a0).wf = true) (w1 : (Lit.int .u32 a1).wf = true) :
  Calls Try.prog 7 #[.int .i64 a0, .int .u32 a1] w fun e w' => e = .returned (.bool true) ∧ Below w.heap.size w w' := by
 obtain ⟨k, h⟩ := P a0 a1 w0 w1
 refine (vernierlaw17_FltBoth.calls k a0 a1 true w h).mono ?_
 rintro e w' ⟨rfl, hd⟩
 exact ⟨rfl, hd⟩
end Go.Proofs.Ytpdpggndhmnggaa.F
