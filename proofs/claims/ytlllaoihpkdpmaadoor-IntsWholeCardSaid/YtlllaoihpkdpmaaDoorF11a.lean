/- Functions of the given program as plain Lean functions, and for each a proof that the program's call comes to just these answers; no further conditions. (Written by a program of this repo out of the translation.) -/
import Derived.Test.YtlllaoihpkdpmaaDoorF0a
import Derived.Test.YtlllaoihpkdpmaaDoorF7a
import Derived.Test.YtlllaoihpkdpmaaDoorF12a
namespace Go.Proofs.YtlllaoihpkdpmaaDoor.F
open Go.RowKit Go.Proofs.YtlllaoihpkdpmaaDoorW.PrintWords Go.Proofs.YtlllaoihpkdpmaaDoorW.PrintLast Go.Proofs.YtlllaoihpkdpmaaDoorW.PrintMore
attribute [local go_sem high] xor_u64 xor_u32 eqErr25 neErr25 eqErrL25 neErrL25
attribute [local go_sem] max2_int min2_int max_two min_two max_three min_three max_four min_four   -- for this text's walks alone
set_option linter.unusedVariables false
set_option linter.unusedSimpArgs false
def vernierlaw16_shown.f (k : Nat)  : Option (Bool) := (ints_FromInt.f k 8 18).bind fun bt289 => ((ints_ToInt.f k 8 188 1).bind fun bt291 => ((ints_Whole.f k 8 68 2).bind fun bt293 => ((ints_ToInt.f k 8 128 0).bind fun bt295 => (if bt289.1 = 96 then (if bt289.2.isNone = true then (if bt291.1 = (-2) then (if bt291.2.isNone = true then (if bt293.1 = 72 then (if bt293.2.isNone = true then (if bt295.1 = 0 then (if bt295.2.isNone = true then (some false) else (some ((bt295.2.getD 0) == 9))) else (some false)) else (some false)) else (some false)) else (some false)) else (some false)) else (some false)) else (some false)))))
set_option maxHeartbeats 8000000 in
set_option maxRecDepth 100000 in
theorem vernierlaw16_shown.calls (k : Nat)  (r : Bool) (w : World) (h : vernierlaw16_shown.f k  = some r) :
  Calls Tryd.prog 5 #[] w fun e w' => e = .returned (.bool r) ∧ Below w.heap.size w w' := by
 have hu25 := Tryd.underlying25
 have hu40 := Tryd.underlying40
 have HB := Aside0.mk (Below.refl w.heap.size w)
 have H : ((ints_FromInt.f k 8 18).bind fun bt289 => ((ints_ToInt.f k 8 188 1).bind fun bt291 => ((ints_Whole.f k 8 68 2).bind fun bt293 => ((ints_ToInt.f k 8 128 0).bind fun bt295 => (if bt289.1 = 96 then (if bt289.2.isNone = true then (if bt291.1 = (-2) then (if bt291.2.isNone = true then (if bt293.1 = 72 then (if bt293.2.isNone = true then (if bt295.1 = 0 then (if bt295.2.isNone = true then (some false) else (some ((bt295.2.getD 0) == 9))) else (some false)) else (some false)) else (some false)) else (some false)) else (some false)) else (some false)) else (some false)))))) = some r := h
 clear h
 replace H := Option.bind_eq_some_iff.mp H
 obtain ⟨⟨t289, t290⟩, A10, H⟩ := H
 try dsimp -simprocs only at H
 have A1 := Aside0.mk A10
 clear A10
 replace H := Option.bind_eq_some_iff.mp H
 obtain ⟨⟨t291, t292⟩, A20, H⟩ := H
 try dsimp -simprocs only at H
 have A2 := Aside0.mk A20
 clear A20
 replace H := Option.bind_eq_some_iff.mp H
 obtain ⟨⟨t293, t294⟩, A30, H⟩ := H
 try dsimp -simprocs only at H
 have A3 := Aside0.mk A30
 clear A30
 replace H := Option.bind_eq_some_iff.mp H
 obtain ⟨⟨t295, t296⟩, A40, H⟩ := H
 try dsimp -simprocs only at H
 have A4 := Aside0.mk A40
 clear A40
 by_cases c5 : t289 = 96
 ·
  rw [if_pos c5] at H
  have c5b0 : (t289 == 96) = true := beq_iff_eq.mpr c5
  have c5b1 : (t289 != 96) = false := bne_eq_false_iff_eq.mpr c5
  clear c5
  rcases t290 with _ | q297
  ·
   rw [if_pos (show (none : Option Int).isNone = true by rfl)] at H
   try simp only [Option.getD_some] at H
   try simp only [errW_none, errW_some]
   by_cases c6 : t291 = (-2)
   ·
    rw [if_pos c6] at H
    have c6b0 : (t291 == (-2)) = true := beq_iff_eq.mpr c6
    have c6b1 : (t291 != (-2)) = false := bne_eq_false_iff_eq.mpr c6
    clear c6
    rcases t292 with _ | q298
    ·
     rw [if_pos (show (none : Option Int).isNone = true by rfl)] at H
     try simp only [Option.getD_some] at H
     try simp only [errW_none, errW_some]
     by_cases c7 : t293 = 72
     ·
      rw [if_pos c7] at H
      have c7b0 : (t293 == 72) = true := beq_iff_eq.mpr c7
      have c7b1 : (t293 != 72) = false := bne_eq_false_iff_eq.mpr c7
      clear c7
      rcases t294 with _ | q299
      ·
       rw [if_pos (show (none : Option Int).isNone = true by rfl)] at H
       try simp only [Option.getD_some] at H
       try simp only [errW_none, errW_some]
       by_cases c8 : t295 = 0
       ·
        rw [if_pos c8] at H
        have c8b0 : (t295 == 0) = true := beq_iff_eq.mpr c8
        have c8b1 : (t295 != 0) = false := bne_eq_false_iff_eq.mpr c8
        clear c8
        rcases t296 with _ | q300
        ·
         rw [if_pos (show (none : Option Int).isNone = true by rfl)] at H
         try simp only [Option.getD_some] at H
         try simp only [errW_none, errW_some]
         obtain rfl := Option.some.inj H
         go_enter Tryd.func5, Tryd.ntmps5
         go_wp2_with (first | ((with_reducible refine gX_ 15 10 rfl rfl ?_); refine goesY_ (some 10) Tryd.func15 #[.int .i64 8, .int .i64 18] ?_; (with_reducible refine (ints_FromInt.calls k 8 18 t289 none _ A1.out).mono ?_); rintro e w9 ⟨rfl, hb⟩; refine ⟨_, rfl, ?_⟩; replace HB := Aside0.mk (bS3 HB.out hb); (try clear hb); (try clear hk); (try simp only [errW_none, errW_some])) | ((with_reducible refine gX_ 16 14 rfl rfl ?_); refine goesY_ (some 14) Tryd.func16 #[.int .i64 8, .int .u64 188, .int .i64 1] ?_; (with_reducible refine (ints_ToInt.calls k 8 188 1 t291 none _ A2.out).mono ?_); rintro e w10 ⟨rfl, hb⟩; refine ⟨_, rfl, ?_⟩; replace HB := Aside0.mk (bS3 HB.out hb); (try clear hb); (try clear hk); (try simp only [errW_none, errW_some])) | ((with_reducible refine gX_ 6 18 rfl rfl ?_); refine goesY_ (some 18) Tryd.func6 #[.int .i64 8, .int .u64 68, .int .i64 2] ?_; (with_reducible refine (ints_Whole.calls k 8 68 2 t293 none _ A3.out).mono ?_); rintro e w11 ⟨rfl, hb⟩; refine ⟨_, rfl, ?_⟩; replace HB := Aside0.mk (bS3 HB.out hb); (try clear hb); (try clear hk); (try simp only [errW_none, errW_some])) | ((with_reducible refine gX_ 16 22 rfl rfl ?_); refine goesY_ (some 22) Tryd.func16 #[.int .i64 8, .int .u64 128, .int .i64 0] ?_; (with_reducible refine (ints_ToInt.calls k 8 128 0 t295 none _ A4.out).mono ?_); rintro e w12 ⟨rfl, hb⟩; refine ⟨_, rfl, ?_⟩; replace HB := Aside0.mk (bS3 HB.out hb); (try clear hb); (try clear hk); (try simp only [errW_none, errW_some])))
         go_ret
         exact ⟨eR3, bR3 HB.out⟩
        ·
         rw [if_neg (show ¬ (some q300).isNone = true by simp)] at H
         try simp only [Option.getD_some] at H
         try simp only [errW_none, errW_some]
         obtain rfl := Option.some.inj H
         go_enter Tryd.func5, Tryd.ntmps5
         go_wp2_with (first | ((with_reducible refine gX_ 15 10 rfl rfl ?_); refine goesY_ (some 10) Tryd.func15 #[.int .i64 8, .int .i64 18] ?_; (with_reducible refine (ints_FromInt.calls k 8 18 t289 none _ A1.out).mono ?_); rintro e w13 ⟨rfl, hb⟩; refine ⟨_, rfl, ?_⟩; replace HB := Aside0.mk (bS3 HB.out hb); (try clear hb); (try clear hk); (try simp only [errW_none, errW_some])) | ((with_reducible refine gX_ 16 14 rfl rfl ?_); refine goesY_ (some 14) Tryd.func16 #[.int .i64 8, .int .u64 188, .int .i64 1] ?_; (with_reducible refine (ints_ToInt.calls k 8 188 1 t291 none _ A2.out).mono ?_); rintro e w14 ⟨rfl, hb⟩; refine ⟨_, rfl, ?_⟩; replace HB := Aside0.mk (bS3 HB.out hb); (try clear hb); (try clear hk); (try simp only [errW_none, errW_some])) | ((with_reducible refine gX_ 6 18 rfl rfl ?_); refine goesY_ (some 18) Tryd.func6 #[.int .i64 8, .int .u64 68, .int .i64 2] ?_; (with_reducible refine (ints_Whole.calls k 8 68 2 t293 none _ A3.out).mono ?_); rintro e w15 ⟨rfl, hb⟩; refine ⟨_, rfl, ?_⟩; replace HB := Aside0.mk (bS3 HB.out hb); (try clear hb); (try clear hk); (try simp only [errW_none, errW_some])) | ((with_reducible refine gX_ 16 22 rfl rfl ?_); refine goesY_ (some 22) Tryd.func16 #[.int .i64 8, .int .u64 128, .int .i64 0] ?_; (with_reducible refine (ints_ToInt.calls k 8 128 0 t295 (some q300) _ A4.out).mono ?_); rintro e w16 ⟨rfl, hb⟩; refine ⟨_, rfl, ?_⟩; replace HB := Aside0.mk (bS3 HB.out hb); (try clear hb); (try clear hk); (try simp only [errW_none, errW_some])))
         go_ret
         exact ⟨eR3, bR3 HB.out⟩
       ·
        rw [if_neg c8] at H
        have c8b0 : (t295 == 0) = false := beq_eq_false_iff_ne.mpr c8
        have c8b1 : (t295 != 0) = true := bne_iff_ne.mpr c8
        obtain rfl := Option.some.inj H
        go_enter Tryd.func5, Tryd.ntmps5
        go_wp2_with (first | ((with_reducible refine gX_ 15 10 rfl rfl ?_); refine goesY_ (some 10) Tryd.func15 #[.int .i64 8, .int .i64 18] ?_; (with_reducible refine (ints_FromInt.calls k 8 18 t289 none _ A1.out).mono ?_); rintro e w17 ⟨rfl, hb⟩; refine ⟨_, rfl, ?_⟩; replace HB := Aside0.mk (bS3 HB.out hb); (try clear hb); (try clear hk); (try simp only [errW_none, errW_some])) | ((with_reducible refine gX_ 16 14 rfl rfl ?_); refine goesY_ (some 14) Tryd.func16 #[.int .i64 8, .int .u64 188, .int .i64 1] ?_; (with_reducible refine (ints_ToInt.calls k 8 188 1 t291 none _ A2.out).mono ?_); rintro e w18 ⟨rfl, hb⟩; refine ⟨_, rfl, ?_⟩; replace HB := Aside0.mk (bS3 HB.out hb); (try clear hb); (try clear hk); (try simp only [errW_none, errW_some])) | ((with_reducible refine gX_ 6 18 rfl rfl ?_); refine goesY_ (some 18) Tryd.func6 #[.int .i64 8, .int .u64 68, .int .i64 2] ?_; (with_reducible refine (ints_Whole.calls k 8 68 2 t293 none _ A3.out).mono ?_); rintro e w19 ⟨rfl, hb⟩; refine ⟨_, rfl, ?_⟩; replace HB := Aside0.mk (bS3 HB.out hb); (try clear hb); (try clear hk); (try simp only [errW_none, errW_some])) | ((with_reducible refine gX_ 16 22 rfl rfl ?_); refine goesY_ (some 22) Tryd.func16 #[.int .i64 8, .int .u64 128, .int .i64 0] ?_; (with_reducible refine (ints_ToInt.calls k 8 128 0 t295 t296 _ A4.out).mono ?_); rintro e w20 ⟨rfl, hb⟩; refine ⟨_, rfl, ?_⟩; replace HB := Aside0.mk (bS3 HB.out hb); (try clear hb); (try clear hk); (try simp only [errW_none, errW_some])))
        go_ret
        exact ⟨eR3, bR3 HB.out⟩
      ·
       rw [if_neg (show ¬ (some q299).isNone = true by simp)] at H
       try simp only [Option.getD_some] at H
       try simp only [errW_none, errW_some]
       obtain rfl := Option.some.inj H
       go_enter Tryd.func5, Tryd.ntmps5
       go_wp2_with (first | ((with_reducible refine gX_ 15 10 rfl rfl ?_); refine goesY_ (some 10) Tryd.func15 #[.int .i64 8, .int .i64 18] ?_; (with_reducible refine (ints_FromInt.calls k 8 18 t289 none _ A1.out).mono ?_); rintro e w21 ⟨rfl, hb⟩; refine ⟨_, rfl, ?_⟩; replace HB := Aside0.mk (bS3 HB.out hb); (try clear hb); (try clear hk); (try simp only [errW_none, errW_some])) | ((with_reducible refine gX_ 16 14 rfl rfl ?_); refine goesY_ (some 14) Tryd.func16 #[.int .i64 8, .int .u64 188, .int .i64 1] ?_; (with_reducible refine (ints_ToInt.calls k 8 188 1 t291 none _ A2.out).mono ?_); rintro e w22 ⟨rfl, hb⟩; refine ⟨_, rfl, ?_⟩; replace HB := Aside0.mk (bS3 HB.out hb); (try clear hb); (try clear hk); (try simp only [errW_none, errW_some])) | ((with_reducible refine gX_ 6 18 rfl rfl ?_); refine goesY_ (some 18) Tryd.func6 #[.int .i64 8, .int .u64 68, .int .i64 2] ?_; (with_reducible refine (ints_Whole.calls k 8 68 2 t293 (some q299) _ A3.out).mono ?_); rintro e w23 ⟨rfl, hb⟩; refine ⟨_, rfl, ?_⟩; replace HB := Aside0.mk (bS3 HB.out hb); (try clear hb); (try clear hk); (try simp only [errW_none, errW_some])) | ((with_reducible refine gX_ 16 22 rfl rfl ?_); refine goesY_ (some 22) Tryd.func16 #[.int .i64 8, .int .u64 128, .int .i64 0] ?_; (with_reducible refine (ints_ToInt.calls k 8 128 0 t295 t296 _ A4.out).mono ?_); rintro e w24 ⟨rfl, hb⟩; refine ⟨_, rfl, ?_⟩; replace HB := Aside0.mk (bS3 HB.out hb); (try clear hb); (try clear hk); (try simp only [errW_none, errW_some])))
       go_ret
       exact ⟨eR3, bR3 HB.out⟩
     ·
      rw [if_neg c7] at H
      have c7b0 : (t293 == 72) = false := beq_eq_false_iff_ne.mpr c7
      have c7b1 : (t293 != 72) = true := bne_iff_ne.mpr c7
      obtain rfl := Option.some.inj H
      go_enter Tryd.func5, Tryd.ntmps5
      go_wp2_with (first | ((with_reducible refine gX_ 15 10 rfl rfl ?_); refine goesY_ (some 10) Tryd.func15 #[.int .i64 8, .int .i64 18] ?_; (with_reducible refine (ints_FromInt.calls k 8 18 t289 none _ A1.out).mono ?_); rintro e w25 ⟨rfl, hb⟩; refine ⟨_, rfl, ?_⟩; replace HB := Aside0.mk (bS3 HB.out hb); (try clear hb); (try clear hk); (try simp only [errW_none, errW_some])) | ((with_reducible refine gX_ 16 14 rfl rfl ?_); refine goesY_ (some 14) Tryd.func16 #[.int .i64 8, .int .u64 188, .int .i64 1] ?_; (with_reducible refine (ints_ToInt.calls k 8 188 1 t291 none _ A2.out).mono ?_); rintro e w26 ⟨rfl, hb⟩; refine ⟨_, rfl, ?_⟩; replace HB := Aside0.mk (bS3 HB.out hb); (try clear hb); (try clear hk); (try simp only [errW_none, errW_some])) | ((with_reducible refine gX_ 6 18 rfl rfl ?_); refine goesY_ (some 18) Tryd.func6 #[.int .i64 8, .int .u64 68, .int .i64 2] ?_; (with_reducible refine (ints_Whole.calls k 8 68 2 t293 t294 _ A3.out).mono ?_); rintro e w27 ⟨rfl, hb⟩; refine ⟨_, rfl, ?_⟩; replace HB := Aside0.mk (bS3 HB.out hb); (try clear hb); (try clear hk); (try simp only [errW_none, errW_some])) | ((with_reducible refine gX_ 16 22 rfl rfl ?_); refine goesY_ (some 22) Tryd.func16 #[.int .i64 8, .int .u64 128, .int .i64 0] ?_; (with_reducible refine (ints_ToInt.calls k 8 128 0 t295 t296 _ A4.out).mono ?_); rintro e w28 ⟨rfl, hb⟩; refine ⟨_, rfl, ?_⟩; replace HB := Aside0.mk (bS3 HB.out hb); (try clear hb); (try clear hk); (try simp only [errW_none, errW_some])))
      go_ret
      exact ⟨eR3, bR3 HB.out⟩
    ·
     rw [if_neg (show ¬ (some q298).isNone = true by simp)] at H
     try simp only [Option.getD_some] at H
     try simp only [errW_none, errW_some]
     obtain rfl := Option.some.inj H
     go_enter Tryd.func5, Tryd.ntmps5
     go_wp2_with (first | ((with_reducible refine gX_ 15 10 rfl rfl ?_); refine goesY_ (some 10) Tryd.func15 #[.int .i64 8, .int .i64 18] ?_; (with_reducible refine (ints_FromInt.calls k 8 18 t289 none _ A1.out).mono ?_); rintro e w29 ⟨rfl, hb⟩; refine ⟨_, rfl, ?_⟩; replace HB := Aside0.mk (bS3 HB.out hb); (try clear hb); (try clear hk); (try simp only [errW_none, errW_some])) | ((with_reducible refine gX_ 16 14 rfl rfl ?_); refine goesY_ (some 14) Tryd.func16 #[.int .i64 8, .int .u64 188, .int .i64 1] ?_; (with_reducible refine (ints_ToInt.calls k 8 188 1 t291 (some q298) _ A2.out).mono ?_); rintro e w30 ⟨rfl, hb⟩; refine ⟨_, rfl, ?_⟩; replace HB := Aside0.mk (bS3 HB.out hb); (try clear hb); (try clear hk); (try simp only [errW_none, errW_some])) | ((with_reducible refine gX_ 6 18 rfl rfl ?_); refine goesY_ (some 18) Tryd.func6 #[.int .i64 8, .int .u64 68, .int .i64 2] ?_; (with_reducible refine (ints_Whole.calls k 8 68 2 t293 t294 _ A3.out).mono ?_); rintro e w31 ⟨rfl, hb⟩; refine ⟨_, rfl, ?_⟩; replace HB := Aside0.mk (bS3 HB.out hb); (try clear hb); (try clear hk); (try simp only [errW_none, errW_some])) | ((with_reducible refine gX_ 16 22 rfl rfl ?_); refine goesY_ (some 22) Tryd.func16 #[.int .i64 8, .int .u64 128, .int .i64 0] ?_; (with_reducible refine (ints_ToInt.calls k 8 128 0 t295 t296 _ A4.out).mono ?_); rintro e w32 ⟨rfl, hb⟩; refine ⟨_, rfl, ?_⟩; replace HB := Aside0.mk (bS3 HB.out hb); (try clear hb); (try clear hk); (try simp only [errW_none, errW_some])))
     go_ret
     exact ⟨eR3, bR3 HB.out⟩
   ·
    rw [if_neg c6] at H
    have c6b0 : (t291 == (-2)) = false := beq_eq_false_iff_ne.mpr c6
    have c6b1 : (t291 != (-2)) = true := bne_iff_ne.mpr c6
    obtain rfl := Option.some.inj H
    go_enter Tryd.func5, Tryd.ntmps5
    go_wp2_with (first | ((with_reducible refine gX_ 15 10 rfl rfl ?_); refine goesY_ (some 10) Tryd.func15 #[.int .i64 8, .int .i64 18] ?_; (with_reducible refine (ints_FromInt.calls k 8 18 t289 none _ A1.out).mono ?_); rintro e w33 ⟨rfl, hb⟩; refine ⟨_, rfl, ?_⟩; replace HB := Aside0.mk (bS3 HB.out hb); (try clear hb); (try clear hk); (try simp only [errW_none, errW_some])) | ((with_reducible refine gX_ 16 14 rfl rfl ?_); refine goesY_ (some 14) Tryd.func16 #[.int .i64 8, .int .u64 188, .int .i64 1] ?_; (with_reducible refine (ints_ToInt.calls k 8 188 1 t291 t292 _ A2.out).mono ?_); rintro e w34 ⟨rfl, hb⟩; refine ⟨_, rfl, ?_⟩; replace HB := Aside0.mk (bS3 HB.out hb); (try clear hb); (try clear hk); (try simp only [errW_none, errW_some])) | ((with_reducible refine gX_ 6 18 rfl rfl ?_); refine goesY_ (some 18) Tryd.func6 #[.int .i64 8, .int .u64 68, .int .i64 2] ?_; (with_reducible refine (ints_Whole.calls k 8 68 2 t293 t294 _ A3.out).mono ?_); rintro e w35 ⟨rfl, hb⟩; refine ⟨_, rfl, ?_⟩; replace HB := Aside0.mk (bS3 HB.out hb); (try clear hb); (try clear hk); (try simp only [errW_none, errW_some])) | ((with_reducible refine gX_ 16 22 rfl rfl ?_); refine goesY_ (some 22) Tryd.func16 #[.int .i64 8, .int .u64 128, .int .i64 0] ?_; (with_reducible refine (ints_ToInt.calls k 8 128 0 t295 t296 _ A4.out).mono ?_); rintro e w36 ⟨rfl, hb⟩; refine ⟨_, rfl, ?_⟩; replace HB := Aside0.mk (bS3 HB.out hb); (try clear hb); (try clear hk); (try simp only [errW_none, errW_some])))
    go_ret
    exact ⟨eR3, bR3 HB.out⟩
  ·
   rw [if_neg (show ¬ (some q297).isNone = true by simp)] at H
   try simp only [Option.getD_some] at H
   try simp only [errW_none, errW_some]
   obtain rfl := Option.some.inj H
   go_enter Tryd.func5, Tryd.ntmps5
   go_wp2_with (first | ((with_reducible refine gX_ 15 10 rfl rfl ?_); refine goesY_ (some 10) Tryd.func15 #[.int .i64 8, .int .i64 18] ?_; (with_reducible refine (ints_FromInt.calls k 8 18 t289 (some q297) _ A1.out).mono ?_); rintro e w37 ⟨rfl, hb⟩; refine ⟨_, rfl, ?_⟩; replace HB := Aside0.mk (bS3 HB.out hb); (try clear hb); (try clear hk); (try simp only [errW_none, errW_some])) | ((with_reducible refine gX_ 16 14 rfl rfl ?_); refine goesY_ (some 14) Tryd.func16 #[.int .i64 8, .int .u64 188, .int .i64 1] ?_; (with_reducible refine (ints_ToInt.calls k 8 188 1 t291 t292 _ A2.out).mono ?_); rintro e w38 ⟨rfl, hb⟩; refine ⟨_, rfl, ?_⟩; replace HB := Aside0.mk (bS3 HB.out hb); (try clear hb); (try clear hk); (try simp only [errW_none, errW_some])) | ((with_reducible refine gX_ 6 18 rfl rfl ?_); refine goesY_ (some 18) Tryd.func6 #[.int .i64 8, .int .u64 68, .int .i64 2] ?_; (with_reducible refine (ints_Whole.calls k 8 68 2 t293 t294 _ A3.out).mono ?_); rintro e w39 ⟨rfl, hb⟩; refine ⟨_, rfl, ?_⟩; replace HB := Aside0.mk (bS3 HB.out hb); (try clear hb); (try clear hk); (try simp only [errW_none, errW_some])) | ((with_reducible refine gX_ 16 22 rfl rfl ?_); refine goesY_ (some 22) Tryd.func16 #[.int .i64 8, .int .u64 128, .int .i64 0] ?_; (with_reducible refine (ints_ToInt.calls k 8 128 0 t295 t296 _ A4.out).mono ?_); rintro e w40 ⟨rfl, hb⟩; refine ⟨_, rfl, ?_⟩; replace HB := Aside0.mk (bS3 HB.out hb); (try clear hb); (try clear hk); (try simp only [errW_none, errW_some])))
   go_ret
   exact ⟨eR3, bR3 HB.out⟩
 ·
  rw [if_neg c5] at H
  have c5b0 : (t289 == 96) = false := beq_eq_false_iff_ne.mpr c5
  have c5b1 : (t289 != 96) = true := bne_iff_ne.mpr c5
  obtain rfl := Option.some.inj H
  go_enter Tryd.func5, Tryd.ntmps5
  go_wp2_with (first | ((with_reducible refine gX_ 15 10 rfl rfl ?_); refine goesY_ (some 10) Tryd.func15 #[.int .i64 8, .int .i64 18] ?_; (with_reducible refine (ints_FromInt.calls k 8 18 t289 t290 _ A1.out).mono ?_); rintro e w41 ⟨rfl, hb⟩; refine ⟨_, rfl, ?_⟩; replace HB := Aside0.mk (bS3 HB.out hb); (try clear hb); (try clear hk); (try simp only [errW_none, errW_some])) | ((with_reducible refine gX_ 16 14 rfl rfl ?_); refine goesY_ (some 14) Tryd.func16 #[.int .i64 8, .int .u64 188, .int .i64 1] ?_; (with_reducible refine (ints_ToInt.calls k 8 188 1 t291 t292 _ A2.out).mono ?_); rintro e w42 ⟨rfl, hb⟩; refine ⟨_, rfl, ?_⟩; replace HB := Aside0.mk (bS3 HB.out hb); (try clear hb); (try clear hk); (try simp only [errW_none, errW_some])) | ((with_reducible refine gX_ 6 18 rfl rfl ?_); refine goesY_ (some 18) Tryd.func6 #[.int .i64 8, .int .u64 68, .int .i64 2] ?_; (with_reducible refine (ints_Whole.calls k 8 68 2 t293 t294 _ A3.out).mono ?_); rintro e w43 ⟨rfl, hb⟩; refine ⟨_, rfl, ?_⟩; replace HB := Aside0.mk (bS3 HB.out hb); (try clear hb); (try clear hk); (try simp only [errW_none, errW_some])) | ((with_reducible refine gX_ 16 22 rfl rfl ?_); refine goesY_ (some 22) Tryd.func16 #[.int .i64 8, .int .u64 128, .int .i64 0] ?_; (with_reducible refine (ints_ToInt.calls k 8 128 0 t295 t296 _ A4.out).mono ?_); rintro e w44 ⟨rfl, hb⟩; refine ⟨_, rfl, ?_⟩; replace HB := Aside0.mk (bS3 HB.out hb); (try clear hb); (try clear hk); (try simp only [errW_none, errW_some])))
  go_ret
  exact ⟨eR3, bR3 HB.out⟩
def vernierlaw16_width.l0 : Nat → Int → Int → Option (Int)
 | 0, _, _ => none
 | k + 1, x3, x4 => if x4 > 0 then (vernierlaw16_width.l0 k (wrap64 (2 * x3)) (wrap64 (x4 - 1))) else (some x3)
end Go.Proofs.YtlllaoihpkdpmaaDoor.F
