/- Functions of the given program as plain Lean functions, and for each a proof that the program's call comes to just these answers; no further conditions. (Written by a program of this repo out of the translation.) -/
import Derived.Test.YtpdpggndhmnggaaF0e
import Derived.Test.YtpdpggndhmnggaaF3e
import Derived.Test.YtpdpggndhmnggaaF12e
import Derived.Test.YtpdpggndhmnggaaF40e
import Derived.Test.YtpdpggndhmnggaaF14e
import Derived.Test.YtpdpggndhmnggaaF29e
namespace Go.Proofs.Ytpdpggndhmnggaa.F
open Go.RowKit Go.Proofs.YtpdpggndhmnggaaW.PrintWords Go.Proofs.YtpdpggndhmnggaaW.PrintLast Go.Proofs.YtpdpggndhmnggaaW.PrintMore
attribute [local go_sem high] xor_u64 xor_u32 eqErr25 neErr25 eqErrL25 neErrL25
attribute [local go_sem] max2_int min2_int max_two min_two max_three min_three max_four min_four   -- for this text's walks alone
set_option linter.unusedVariables false
set_option linter.unusedSimpArgs false
def riseT (hd : Bool) (x y : Nat) (d : Int) : Option Bool := if hd = true then (if (FloatKind.f64.format.order x x == some .eq) = true then (if (FloatKind.f64.format.order y y == some .eq) = true then (if d < 0 then (if (FloatKind.f64.format.order x y == some .lt || FloatKind.f64.format.order x y == some .eq) = true then some true else none) else (if d > 0 then (if (FloatKind.f64.format.order x y == some .gt || FloatKind.f64.format.order x y == some .eq) = true then some true else none) else (if (FloatKind.f64.format.order x y == some .eq) = true then some true else none))) else some true) else some true) else none
def riseC (f g : Nat) (c : Int) (T : Option Bool) : Option Bool := if (floatBits .sub .f64 f f).isSome = true then (if (FloatKind.f64.format.order ((floatBits .sub .f64 f f).getD 0) 0 == some .eq) = true then (if (floatBits .sub .f64 g g).isSome = true then (if (FloatKind.f64.format.order ((floatBits .sub .f64 g g).getD 0) 0 == some .eq) = true then (if (FloatKind.f64.format.order f g == some .lt) = true then (if c > 0 then none else T) else (if (FloatKind.f64.format.order f g == some .gt) = true then (if c < 0 then none else T) else (if (FloatKind.f64.format.order f g == some .eq) = true then (if c = 0 then T else none) else none))) else none) else T) else none) else T
def vernierlaw17_FltRise.j0 : Nat → Bool → Nat → Nat → Int → Nat → Nat → Int → Bool → Option (Bool)
 | 0, _, _, _, _, _, _, _, _ => none
 | k + 1, x7, x9, x10, x15, x17, x19, x21, x91 => if x91 = true then (some false) else riseC x9 x10 x15 (riseT x7 x17 x19 x21)
def vernierlaw17_FltRise.f (k : Nat) (a0 : Int) (a1 : Int) (a2 : Int) : Option (Bool) := (vernierlaw17_shown.f k).bind fun t709 => ((vernierlaw17_width.f k a0).bind fun t710 => ((math_Float64frombits.f a1).bind fun t711 => ((math_Float64frombits.f a2).bind fun t712 => ((flt_From64.f k t710 t711).bind fun bt713 => ((flt_From64.f k t710 t712).bind fun bt715 => ((order_Cmp.f t710 bt713.1 bt715.1).bind fun bt717 => ((flt_To64.f k t710 a1).bind fun bt719 => ((flt_To64.f k t710 a2).bind fun bt721 => ((order_Cmp.f t710 a1 a2).bind fun bt723 => (if bt713.2.isNone = true then (if bt715.2.isNone = true then (if bt717.2.isNone = true then (if bt719.2.isNone = true then (if bt721.2.isNone = true then (if bt723.2.isNone = true then (vernierlaw17_FltRise.j0 k t709 t711 t712 bt717.1 bt719.1 bt721.1 bt723.1 false) else (vernierlaw17_FltRise.j0 k t709 t711 t712 bt717.1 bt719.1 bt721.1 bt723.1 true)) else (vernierlaw17_FltRise.j0 k t709 t711 t712 bt717.1 bt719.1 bt721.1 bt723.1 true)) else (vernierlaw17_FltRise.j0 k t709 t711 t712 bt717.1 bt719.1 bt721.1 bt723.1 true)) else (vernierlaw17_FltRise.j0 k t709 t711 t712 bt717.1 bt719.1 bt721.1 bt723.1 true)) else (vernierlaw17_FltRise.j0 k t709 t711 t712 bt717.1 bt719.1 bt721.1 bt723.1 true)) else (vernierlaw17_FltRise.j0 k t709 t711 t712 bt717.1 bt719.1 bt721.1 bt723.1 true)))))))))))
set_option maxHeartbeats 8000000 in
set_option maxRecDepth 100000 in
theorem vernierlaw17_FltRise.calls (k : Nat) (a0 : Int) (a1 : Int) (a2 : Int) (r : Bool) (w : World) (h : vernierlaw17_FltRise.f k a0 a1 a2 = some r) :
  Calls Try.prog 8 #[.int .i64 a0, .int .u64 a1, .int .u64 a2] w fun e w' => e = .returned (.bool r) ∧ Below w.heap.size w w' := by
 have hu25 := Try.underlying25
 have hu40 := Try.underlying40
 have HB := Aside0.mk (Below.refl w.heap.size w)
 have H : ((vernierlaw17_shown.f k).bind fun t709 => ((vernierlaw17_width.f k a0).bind fun t710 => ((math_Float64frombits.f a1).bind fun t711 => ((math_Float64frombits.f a2).bind fun t712 => ((flt_From64.f k t710 t711).bind fun bt713 => ((flt_From64.f k t710 t712).bind fun bt715 => ((order_Cmp.f t710 bt713.1 bt715.1).bind fun bt717 => ((flt_To64.f k t710 a1).bind fun bt719 => ((flt_To64.f k t710 a2).bind fun bt721 => ((order_Cmp.f t710 a1 a2).bind fun bt723 => (if bt713.2.isNone = true then (if bt715.2.isNone = true then (if bt717.2.isNone = true then (if bt719.2.isNone = true then (if bt721.2.isNone = true then (if bt723.2.isNone = true then (vernierlaw17_FltRise.j0 k t709 t711 t712 bt717.1 bt719.1 bt721.1 bt723.1 false) else (vernierlaw17_FltRise.j0 k t709 t711 t712 bt717.1 bt719.1 bt721.1 bt723.1 true)) else (vernierlaw17_FltRise.j0 k t709 t711 t712 bt717.1 bt719.1 bt721.1 bt723.1 true)) else (vernierlaw17_FltRise.j0 k t709 t711 t712 bt717.1 bt719.1 bt721.1 bt723.1 true)) else (vernierlaw17_FltRise.j0 k t709 t711 t712 bt717.1 bt719.1 bt721.1 bt723.1 true)) else (vernierlaw17_FltRise.j0 k t709 t711 t712 bt717.1 bt719.1 bt721.1 bt723.1 true)) else (vernierlaw17_FltRise.j0 k t709 t711 t712 bt717.1 bt719.1 bt721.1 bt723.1 true)))))))))))) = some r := h
 clear h
 replace H := Option.bind_eq_some_iff.mp H
 obtain ⟨t709, A40, H⟩ := H
 try dsimp -simprocs only at H
 have A4 := Aside0.mk A40
 clear A40
 replace H := Option.bind_eq_some_iff.mp H
 obtain ⟨t710, A50, H⟩ := H
 try dsimp -simprocs only at H
 have A5 := Aside0.mk A50
 clear A50
 replace H := Option.bind_eq_some_iff.mp H
 obtain ⟨t711, A60, H⟩ := H
 try dsimp -simprocs only at H
 have A6 := Aside0.mk A60
 clear A60
 replace H := Option.bind_eq_some_iff.mp H
 obtain ⟨t712, A70, H⟩ := H
 try dsimp -simprocs only at H
 have A7 := Aside0.mk A70
 clear A70
 replace H := Option.bind_eq_some_iff.mp H
 obtain ⟨⟨t713, t714⟩, A80, H⟩ := H
 try dsimp -simprocs only at H
 have A8 := Aside0.mk A80
 clear A80
 replace H := Option.bind_eq_some_iff.mp H
 obtain ⟨⟨t715, t716⟩, A90, H⟩ := H
 try dsimp -simprocs only at H
 have A9 := Aside0.mk A90
 clear A90
 replace H := Option.bind_eq_some_iff.mp H
 obtain ⟨⟨t717, t718⟩, A100, H⟩ := H
 try dsimp -simprocs only at H
 have A10 := Aside0.mk A100
 clear A100
 replace H := Option.bind_eq_some_iff.mp H
 obtain ⟨⟨t719, t720⟩, A110, H⟩ := H
 try dsimp -simprocs only at H
 have A11 := Aside0.mk A110
 clear A110
 replace H := Option.bind_eq_some_iff.mp H
 obtain ⟨⟨t721, t722⟩, A120, H⟩ := H
 try dsimp -simprocs only at H
 have A12 := Aside0.mk A120
 clear A120
 replace H := Option.bind_eq_some_iff.mp H
 obtain ⟨⟨t723, t724⟩, A130, H⟩ := H
 try dsimp -simprocs only at H
 have A13 := Aside0.mk A130
 clear A130
 have HC14 := Aside0.mk H
 clear H
 go_enter Try.func8, Try.ntmps8
 go_upto_region 11 with (first | ((with_reducible refine gX_ 10 25 rfl rfl ?_); refine goesY_ (some 25) Try.func10 #[] ?_; (with_reducible refine (vernierlaw17_shown.calls k  t709 _ A4.out).mono ?_); rintro e w15 ⟨rfl, hb⟩; refine ⟨_, rfl, ?_⟩; replace HB := Aside0.mk (bS3 HB.out hb); (try clear hb); (try clear hk)) | ((with_reducible refine gX_ 26 27 rfl rfl ?_); refine goesY_ (some 27) Try.func26 #[.int .i64 a0] ?_; (with_reducible refine (vernierlaw17_width.calls k a0 t710 _ A5.out).mono ?_); rintro e w' ⟨rfl, ⟨nd, rfl⟩⟩; refine ⟨_, rfl, ?_⟩) | ((with_reducible refine gC (f := 12) rfl ?_); (with_reducible refine gD (N := 29) rfl ?_); refine goesX_ (some 29) #[.int .u64 a1] ?_; (with_reducible refine (math_Float64frombits.calls a1 t711 _ A6.out).mono ?_); rintro e w' ⟨rfl, rfl⟩; refine ⟨_, rfl, ?_⟩) | ((with_reducible refine gC (f := 12) rfl ?_); (with_reducible refine gD (N := 31) rfl ?_); refine goesX_ (some 31) #[.int .u64 a2] ?_; (with_reducible refine (math_Float64frombits.calls a2 t712 _ A7.out).mono ?_); rintro e w' ⟨rfl, rfl⟩; refine ⟨_, rfl, ?_⟩) | ((with_reducible refine gX_ 11 35 rfl rfl ?_); refine goesY_ (some 35) Try.func11 #[.int .i64 t710, .float .f64 t711] ?_; (with_reducible refine (flt_From64.calls k t710 t711 t713 t714 _ A8.out).mono ?_); rintro e w16 ⟨rfl, hb⟩; refine ⟨_, rfl, ?_⟩; replace HB := Aside0.mk (bS3 HB.out hb); (try clear hb); (try clear hk); (try simp only [errW_none, errW_some])) | ((with_reducible refine gX_ 11 41 rfl rfl ?_); refine goesY_ (some 41) Try.func11 #[.int .i64 t710, .float .f64 t712] ?_; (with_reducible refine (flt_From64.calls k t710 t712 t715 t716 _ A9.out).mono ?_); rintro e w17 ⟨rfl, hb⟩; refine ⟨_, rfl, ?_⟩; replace HB := Aside0.mk (bS3 HB.out hb); (try clear hb); (try clear hk); (try simp only [errW_none, errW_some])) | ((with_reducible refine gX_ 28 48 rfl rfl ?_); refine goesY_ (some 48) Try.func28 #[.int .i64 t710, .int .u64 t713, .int .u64 t715] ?_; (with_reducible refine (order_Cmp.calls t710 t713 t715 t717 t718 _ A10.out).mono ?_); rintro e w' ⟨rfl, ⟨nd, rfl⟩⟩; refine ⟨_, rfl, ?_⟩; (try simp only [errW_none, errW_some])) | ((with_reducible refine gX_ 16 54 rfl rfl ?_); refine goesY_ (some 54) Try.func16 #[.int .i64 t710, .int .u64 a1] ?_; (with_reducible refine (flt_To64.calls k t710 a1 t719 t720 _ A11.out).mono ?_); rintro e w18 ⟨rfl, hb⟩; refine ⟨_, rfl, ?_⟩; replace HB := Aside0.mk (bS3 HB.out hb); (try clear hb); (try clear hk); (try simp only [errW_none, errW_some])) | ((with_reducible refine gX_ 16 60 rfl rfl ?_); refine goesY_ (some 60) Try.func16 #[.int .i64 t710, .int .u64 a2] ?_; (with_reducible refine (flt_To64.calls k t710 a2 t721 t722 _ A12.out).mono ?_); rintro e w19 ⟨rfl, hb⟩; refine ⟨_, rfl, ?_⟩; replace HB := Aside0.mk (bS3 HB.out hb); (try clear hb); (try clear hk); (try simp only [errW_none, errW_some])) | ((with_reducible refine gX_ 28 67 rfl rfl ?_); refine goesY_ (some 67) Try.func28 #[.int .i64 t710, .int .u64 a1, .int .u64 a2] ?_; (with_reducible refine (order_Cmp.calls t710 a1 a2 t723 t724 _ A13.out).mono ?_); rintro e w' ⟨rfl, ⟨nd, rfl⟩⟩; refine ⟨_, rfl, ?_⟩; (try simp only [errW_none, errW_some])))
 (try simp only [Act.put, lS_, lZ_, lC_])
 go_cut [91] (fun v91 wc => ∃ (kq : Nat) (x91_13 : Bool), v91 = .bool x91_13 ∧ Aside0 (vernierlaw17_FltRise.j0 kq t709 t711 t712 t717 t719 t721 t723 x91_13 = some r) ∧ Aside0 (kq ≤ k) ∧ Aside0 (Below w.heap.size w wc))
 case first =>
  have H := HC14.out
  clear HC14
  rcases t714 with _ | q725
  ·
   rw [if_pos (show (none : Option Int).isNone = true by rfl)] at H
   try simp only [Option.getD_some] at H
   try simp only [errW_none, errW_some]
   rcases t716 with _ | q726
   ·
    rw [if_pos (show (none : Option Int).isNone = true by rfl)] at H
    try simp only [Option.getD_some] at H
    try simp only [errW_none, errW_some]
    rcases t718 with _ | q727
    ·
     rw [if_pos (show (none : Option Int).isNone = true by rfl)] at H
     try simp only [Option.getD_some] at H
     try simp only [errW_none, errW_some]
     rcases t720 with _ | q728
     ·
      rw [if_pos (show (none : Option Int).isNone = true by rfl)] at H
      try simp only [Option.getD_some] at H
      try simp only [errW_none, errW_some]
      rcases t722 with _ | q729
      ·
       rw [if_pos (show (none : Option Int).isNone = true by rfl)] at H
       try simp only [Option.getD_some] at H
       try simp only [errW_none, errW_some]
       rcases t724 with _ | q730
       ·
        rw [if_pos (show (none : Option Int).isNone = true by rfl)] at H
        try simp only [Option.getD_some] at H
        try simp only [errW_none, errW_some]
        have H' := Aside0.mk H
        clear H
        go_wp2
        go_meet
        case rel => exact ⟨_, (false), (by first | rfl | (simp; done) | (simp [*]; done)), H', ⟨by first | omega | exact Nat.le_refl _⟩, ⟨bR3 HB.out⟩⟩
       ·
        rw [if_neg (show ¬ (some q730).isNone = true by simp)] at H
        try simp only [Option.getD_some] at H
        try simp only [errW_none, errW_some]
        have H' := Aside0.mk H
        clear H
        go_wp2
        go_meet
        case rel => exact ⟨_, (true), (by first | rfl | (simp; done) | (simp [*]; done)), H', ⟨by first | omega | exact Nat.le_refl _⟩, ⟨bR3 HB.out⟩⟩
      ·
       rw [if_neg (show ¬ (some q729).isNone = true by simp)] at H
       try simp only [Option.getD_some] at H
       try simp only [errW_none, errW_some]
       have H' := Aside0.mk H
       clear H
       go_wp2
       go_meet
       case rel => exact ⟨_, (true), (by first | rfl | (simp; done) | (simp [*]; done)), H', ⟨by first | omega | exact Nat.le_refl _⟩, ⟨bR3 HB.out⟩⟩
     ·
      rw [if_neg (show ¬ (some q728).isNone = true by simp)] at H
      try simp only [Option.getD_some] at H
      try simp only [errW_none, errW_some]
      have H' := Aside0.mk H
      clear H
      go_wp2
      go_meet
      case rel => exact ⟨_, (true), (by first | rfl | (simp; done) | (simp [*]; done)), H', ⟨by first | omega | exact Nat.le_refl _⟩, ⟨bR3 HB.out⟩⟩
    ·
     rw [if_neg (show ¬ (some q727).isNone = true by simp)] at H
     try simp only [Option.getD_some] at H
     try simp only [errW_none, errW_some]
     have H' := Aside0.mk H
     clear H
     go_wp2
     go_meet
     case rel => exact ⟨_, (true), (by first | rfl | (simp; done) | (simp [*]; done)), H', ⟨by first | omega | exact Nat.le_refl _⟩, ⟨bR3 HB.out⟩⟩
   ·
    rw [if_neg (show ¬ (some q726).isNone = true by simp)] at H
    try simp only [Option.getD_some] at H
    try simp only [errW_none, errW_some]
    have H' := Aside0.mk H
    clear H
    go_wp2
    go_meet
    case rel => exact ⟨_, (true), (by first | rfl | (simp; done) | (simp [*]; done)), H', ⟨by first | omega | exact Nat.le_refl _⟩, ⟨bR3 HB.out⟩⟩
  ·
   rw [if_neg (show ¬ (some q725).isNone = true by simp)] at H
   try simp only [Option.getD_some] at H
   try simp only [errW_none, errW_some]
   have H' := Aside0.mk H
   clear H
   go_wp2
   go_meet
   case rel => exact ⟨_, (true), (by first | rfl | (simp; done) | (simp [*]; done)), H', ⟨by first | omega | exact Nat.le_refl _⟩, ⟨bR3 HB.out⟩⟩
 case rest =>
  clear HC14
  try clear c1
  try clear c2
  try clear p2
  try clear q7
  try clear c8
  try clear c10
  try clear c11
  try clear c16
  try clear q725
  try clear q726
  try clear q727
  try clear q728
  try clear q729
  try clear q730
  obtain ⟨kq, x91_13, rfl, HA, HJ13, HB⟩ := hcut
  cases kq with
  | zero => exact absurd HA.out (by simp [vernierlaw17_FltRise.j0])
  | succ kj13 =>
   have H := HA.out
   clear HA
   simp only [vernierlaw17_FltRise.j0] at H
   by_cases c20 : x91_13 = true
   ·
    subst c20
    rw [if_pos rfl] at H
    obtain rfl := Option.some.inj H
    go_wp2
    go_ret
    exact ⟨eR3, bR3 HB.out⟩
   ·
    replace c20 := Bool.eq_false_iff.mpr c20
    subst c20
    rw [if_neg (show ¬ (false = true) by decide)] at H
    unfold riseC at H
    by_cases d101 : (floatBits .sub .f64 t711 t711).isSome = true
    ·
     rw [if_pos d101] at H
     have d101x0 : ∀ (t_ : TypeId) (w_ : World), (binOp .sub t_ (.float .f64 t711) (.float .f64 t711)).run Try.prog w_ = .ok (.float .f64 ((floatBits .sub .f64 t711 t711).getD 0)) w_ := fun t_ w_ => run_float_arith w_ _ t_ _ _ _ _ (someD_ d101)
     by_cases d102 : (FloatKind.f64.format.order ((floatBits .sub .f64 t711 t711).getD 0) 0 == some .eq) = true
     ·
      rw [if_pos d102] at H
      have d102b0 : (FloatKind.f64.format.order ((floatBits .sub .f64 t711 t711).getD 0) 0 == some .eq) = true := d102
      (try (have d102b1 : decide (FloatKind.f64.format.order ((floatBits .sub .f64 t711 t711).getD 0) 0 = some .eq) = true := by simpa using d102))
      by_cases d103 : (floatBits .sub .f64 t712 t712).isSome = true
      ·
       rw [if_pos d103] at H
       have d103x0 : ∀ (t_ : TypeId) (w_ : World), (binOp .sub t_ (.float .f64 t712) (.float .f64 t712)).run Try.prog w_ = .ok (.float .f64 ((floatBits .sub .f64 t712 t712).getD 0)) w_ := fun t_ w_ => run_float_arith w_ _ t_ _ _ _ _ (someD_ d103)
       by_cases d104 : (FloatKind.f64.format.order ((floatBits .sub .f64 t712 t712).getD 0) 0 == some .eq) = true
       ·
        rw [if_pos d104] at H
        have d104b0 : (FloatKind.f64.format.order ((floatBits .sub .f64 t712 t712).getD 0) 0 == some .eq) = true := d104
        (try (have d104b1 : decide (FloatKind.f64.format.order ((floatBits .sub .f64 t712 t712).getD 0) 0 = some .eq) = true := by simpa using d104))
        by_cases d105 : (FloatKind.f64.format.order t711 t712 == some .lt) = true
        ·
         rw [if_pos d105] at H
         have ho : FloatKind.f64.format.order t711 t712 = some .lt := by simpa using d105
         have d105b0 : (FloatKind.f64.format.order t711 t712 == some .lt) = true := d105
         (try (have d105b1 : decide (FloatKind.f64.format.order t711 t712 = some .lt) = true := by simpa using d105))
         have dgb0 : (FloatKind.f64.format.order t711 t712 == some .gt) = false := by rw [ho]; rfl
         (try (have dgb1 : decide (FloatKind.f64.format.order t711 t712 = some .gt) = false := by simpa using dgb0))
         (try (have dgb3 : ¬ (FloatKind.f64.format.order t711 t712 = some .gt) := by simpa using dgb0))
         have deb0 : (FloatKind.f64.format.order t711 t712 == some .eq) = false := by rw [ho]; rfl
         (try (have deb1 : decide (FloatKind.f64.format.order t711 t712 = some .eq) = false := by simpa using deb0))
         (try (have deb3 : ¬ (FloatKind.f64.format.order t711 t712 = some .eq) := by simpa using deb0))
         clear ho
         by_cases d106 : t717 > 0
         ·
          rw [if_pos d106] at H
          cases H
         ·
          rw [if_neg d106] at H
          have d106b0 : decide (0 < t717) = false := decide_eq_false d106
          unfold riseT at H
          by_cases d107 : t709 = true
          ·
           rw [if_pos d107] at H
           subst d107
           by_cases d108 : (FloatKind.f64.format.order t719 t719 == some .eq) = true
           ·
            rw [if_pos d108] at H
            have d108b0 : (FloatKind.f64.format.order t719 t719 == some .eq) = true := d108
            (try (have d108b1 : decide (FloatKind.f64.format.order t719 t719 = some .eq) = true := by simpa using d108))
            by_cases d109 : (FloatKind.f64.format.order t721 t721 == some .eq) = true
            ·
             rw [if_pos d109] at H
             have d109b0 : (FloatKind.f64.format.order t721 t721 == some .eq) = true := d109
             (try (have d109b1 : decide (FloatKind.f64.format.order t721 t721 = some .eq) = true := by simpa using d109))
             by_cases d110 : t723 < 0
             ·
              rw [if_pos d110] at H
              have d110b0 : decide (t723 < 0) = true := decide_eq_true d110
              by_cases d111 : (FloatKind.f64.format.order t719 t721 == some .lt || FloatKind.f64.format.order t719 t721 == some .eq) = true
              ·
               rw [if_pos d111] at H
               have d111b0 : (FloatKind.f64.format.order t719 t721 == some .lt || FloatKind.f64.format.order t719 t721 == some .eq) = true := d111
               (try (have d111b1 : decide (FloatKind.f64.format.order t719 t721 = some .lt || FloatKind.f64.format.order t719 t721 == some .eq) = true := by simpa using d111))
               obtain rfl := Option.some.inj H
               go_wp2
               go_ret
               exact ⟨eR3, bR3 HB.out⟩
              ·
               rw [if_neg d111] at H
               cases H
             ·
              rw [if_neg d110] at H
              have d110b0 : decide (t723 < 0) = false := decide_eq_false d110
              by_cases d112 : t723 > 0
              ·
               rw [if_pos d112] at H
               have d112b0 : decide (0 < t723) = true := decide_eq_true d112
               by_cases d113 : (FloatKind.f64.format.order t719 t721 == some .gt || FloatKind.f64.format.order t719 t721 == some .eq) = true
               ·
                rw [if_pos d113] at H
                have d113b0 : (FloatKind.f64.format.order t719 t721 == some .gt || FloatKind.f64.format.order t719 t721 == some .eq) = true := d113
                (try (have d113b1 : decide (FloatKind.f64.format.order t719 t721 = some .gt || FloatKind.f64.format.order t719 t721 == some .eq) = true := by simpa using d113))
                obtain rfl := Option.some.inj H
                go_wp2
                go_ret
                exact ⟨eR3, bR3 HB.out⟩
               ·
                rw [if_neg d113] at H
                cases H
              ·
               rw [if_neg d112] at H
               have d112b0 : decide (0 < t723) = false := decide_eq_false d112
               have d112z : (t723 == 0) = true := beq_iff_eq.mpr (by omega)
               have d112y : (t723 != 0) = false := bne_eq_false_iff_eq.mpr (by omega)
               by_cases d114 : (FloatKind.f64.format.order t719 t721 == some .eq) = true
               ·
                rw [if_pos d114] at H
                have d114b0 : (FloatKind.f64.format.order t719 t721 == some .eq) = true := d114
                (try (have d114b1 : decide (FloatKind.f64.format.order t719 t721 = some .eq) = true := by simpa using d114))
                obtain rfl := Option.some.inj H
                go_wp2
                go_ret
                exact ⟨eR3, bR3 HB.out⟩
               ·
                rw [if_neg d114] at H
                cases H
            ·
             rw [if_neg d109] at H
             have d109b0 : (FloatKind.f64.format.order t721 t721 == some .eq) = false := by simpa using d109
             (try (have d109b1 : decide (FloatKind.f64.format.order t721 t721 = some .eq) = false := by simpa using d109b0))
             (try (have d109b3 : ¬ (FloatKind.f64.format.order t721 t721 = some .eq) := by simpa using d109b0))
             obtain rfl := Option.some.inj H
             go_wp2
             go_ret
             exact ⟨eR3, bR3 HB.out⟩
           ·
            rw [if_neg d108] at H
            have d108b0 : (FloatKind.f64.format.order t719 t719 == some .eq) = false := by simpa using d108
            (try (have d108b1 : decide (FloatKind.f64.format.order t719 t719 = some .eq) = false := by simpa using d108b0))
            (try (have d108b3 : ¬ (FloatKind.f64.format.order t719 t719 = some .eq) := by simpa using d108b0))
            obtain rfl := Option.some.inj H
            go_wp2
            go_ret
            exact ⟨eR3, bR3 HB.out⟩
          ·
           rw [if_neg d107] at H
           cases H
        ·
         rw [if_neg d105] at H
         by_cases d115 : (FloatKind.f64.format.order t711 t712 == some .gt) = true
         ·
          rw [if_pos d115] at H
          have ho : FloatKind.f64.format.order t711 t712 = some .gt := by simpa using d115
          have d115b0 : (FloatKind.f64.format.order t711 t712 == some .gt) = true := d115
          (try (have d115b1 : decide (FloatKind.f64.format.order t711 t712 = some .gt) = true := by simpa using d115))
          have dlb0 : (FloatKind.f64.format.order t711 t712 == some .lt) = false := by rw [ho]; rfl
          (try (have dlb1 : decide (FloatKind.f64.format.order t711 t712 = some .lt) = false := by simpa using dlb0))
          (try (have dlb3 : ¬ (FloatKind.f64.format.order t711 t712 = some .lt) := by simpa using dlb0))
          have deb0 : (FloatKind.f64.format.order t711 t712 == some .eq) = false := by rw [ho]; rfl
          (try (have deb1 : decide (FloatKind.f64.format.order t711 t712 = some .eq) = false := by simpa using deb0))
          (try (have deb3 : ¬ (FloatKind.f64.format.order t711 t712 = some .eq) := by simpa using deb0))
          clear ho
          by_cases d116 : t717 < 0
          ·
           rw [if_pos d116] at H
           cases H
          ·
           rw [if_neg d116] at H
           have d116b0 : decide (t717 < 0) = false := decide_eq_false d116
           unfold riseT at H
           by_cases d117 : t709 = true
           ·
            rw [if_pos d117] at H
            subst d117
            by_cases d118 : (FloatKind.f64.format.order t719 t719 == some .eq) = true
            ·
             rw [if_pos d118] at H
             have d118b0 : (FloatKind.f64.format.order t719 t719 == some .eq) = true := d118
             (try (have d118b1 : decide (FloatKind.f64.format.order t719 t719 = some .eq) = true := by simpa using d118))
             by_cases d119 : (FloatKind.f64.format.order t721 t721 == some .eq) = true
             ·
              rw [if_pos d119] at H
              have d119b0 : (FloatKind.f64.format.order t721 t721 == some .eq) = true := d119
              (try (have d119b1 : decide (FloatKind.f64.format.order t721 t721 = some .eq) = true := by simpa using d119))
              by_cases d120 : t723 < 0
              ·
               rw [if_pos d120] at H
               have d120b0 : decide (t723 < 0) = true := decide_eq_true d120
               by_cases d121 : (FloatKind.f64.format.order t719 t721 == some .lt || FloatKind.f64.format.order t719 t721 == some .eq) = true
               ·
                rw [if_pos d121] at H
                have d121b0 : (FloatKind.f64.format.order t719 t721 == some .lt || FloatKind.f64.format.order t719 t721 == some .eq) = true := d121
                (try (have d121b1 : decide (FloatKind.f64.format.order t719 t721 = some .lt || FloatKind.f64.format.order t719 t721 == some .eq) = true := by simpa using d121))
                obtain rfl := Option.some.inj H
                go_wp2
                go_ret
                exact ⟨eR3, bR3 HB.out⟩
               ·
                rw [if_neg d121] at H
                cases H
              ·
               rw [if_neg d120] at H
               have d120b0 : decide (t723 < 0) = false := decide_eq_false d120
               by_cases d122 : t723 > 0
               ·
                rw [if_pos d122] at H
                have d122b0 : decide (0 < t723) = true := decide_eq_true d122
                by_cases d123 : (FloatKind.f64.format.order t719 t721 == some .gt || FloatKind.f64.format.order t719 t721 == some .eq) = true
                ·
                 rw [if_pos d123] at H
                 have d123b0 : (FloatKind.f64.format.order t719 t721 == some .gt || FloatKind.f64.format.order t719 t721 == some .eq) = true := d123
                 (try (have d123b1 : decide (FloatKind.f64.format.order t719 t721 = some .gt || FloatKind.f64.format.order t719 t721 == some .eq) = true := by simpa using d123))
                 obtain rfl := Option.some.inj H
                 go_wp2
                 go_ret
                 exact ⟨eR3, bR3 HB.out⟩
                ·
                 rw [if_neg d123] at H
                 cases H
               ·
                rw [if_neg d122] at H
                have d122b0 : decide (0 < t723) = false := decide_eq_false d122
                have d122z : (t723 == 0) = true := beq_iff_eq.mpr (by omega)
                have d122y : (t723 != 0) = false := bne_eq_false_iff_eq.mpr (by omega)
                by_cases d124 : (FloatKind.f64.format.order t719 t721 == some .eq) = true
                ·
                 rw [if_pos d124] at H
                 have d124b0 : (FloatKind.f64.format.order t719 t721 == some .eq) = true := d124
                 (try (have d124b1 : decide (FloatKind.f64.format.order t719 t721 = some .eq) = true := by simpa using d124))
                 obtain rfl := Option.some.inj H
                 go_wp2
                 go_ret
                 exact ⟨eR3, bR3 HB.out⟩
                ·
                 rw [if_neg d124] at H
                 cases H
             ·
              rw [if_neg d119] at H
              have d119b0 : (FloatKind.f64.format.order t721 t721 == some .eq) = false := by simpa using d119
              (try (have d119b1 : decide (FloatKind.f64.format.order t721 t721 = some .eq) = false := by simpa using d119b0))
              (try (have d119b3 : ¬ (FloatKind.f64.format.order t721 t721 = some .eq) := by simpa using d119b0))
              obtain rfl := Option.some.inj H
              go_wp2
              go_ret
              exact ⟨eR3, bR3 HB.out⟩
            ·
             rw [if_neg d118] at H
             have d118b0 : (FloatKind.f64.format.order t719 t719 == some .eq) = false := by simpa using d118
             (try (have d118b1 : decide (FloatKind.f64.format.order t719 t719 = some .eq) = false := by simpa using d118b0))
             (try (have d118b3 : ¬ (FloatKind.f64.format.order t719 t719 = some .eq) := by simpa using d118b0))
             obtain rfl := Option.some.inj H
             go_wp2
             go_ret
             exact ⟨eR3, bR3 HB.out⟩
           ·
            rw [if_neg d117] at H
            cases H
         ·
          rw [if_neg d115] at H
          by_cases d125 : (FloatKind.f64.format.order t711 t712 == some .eq) = true
          ·
           rw [if_pos d125] at H
           have ho : FloatKind.f64.format.order t711 t712 = some .eq := by simpa using d125
           have d125b0 : (FloatKind.f64.format.order t711 t712 == some .eq) = true := d125
           (try (have d125b1 : decide (FloatKind.f64.format.order t711 t712 = some .eq) = true := by simpa using d125))
           have dlb0 : (FloatKind.f64.format.order t711 t712 == some .lt) = false := by rw [ho]; rfl
           (try (have dlb1 : decide (FloatKind.f64.format.order t711 t712 = some .lt) = false := by simpa using dlb0))
           (try (have dlb3 : ¬ (FloatKind.f64.format.order t711 t712 = some .lt) := by simpa using dlb0))
           have dgb0 : (FloatKind.f64.format.order t711 t712 == some .gt) = false := by rw [ho]; rfl
           (try (have dgb1 : decide (FloatKind.f64.format.order t711 t712 = some .gt) = false := by simpa using dgb0))
           (try (have dgb3 : ¬ (FloatKind.f64.format.order t711 t712 = some .gt) := by simpa using dgb0))
           clear ho
           by_cases d126 : t717 = 0
           ·
            rw [if_pos d126] at H
            have d126b0 : (t717 == 0) = true := beq_iff_eq.mpr d126
            have d126b1 : (t717 != 0) = false := bne_eq_false_iff_eq.mpr d126
            unfold riseT at H
            by_cases d127 : t709 = true
            ·
             rw [if_pos d127] at H
             subst d127
             by_cases d128 : (FloatKind.f64.format.order t719 t719 == some .eq) = true
             ·
              rw [if_pos d128] at H
              have d128b0 : (FloatKind.f64.format.order t719 t719 == some .eq) = true := d128
              (try (have d128b1 : decide (FloatKind.f64.format.order t719 t719 = some .eq) = true := by simpa using d128))
              by_cases d129 : (FloatKind.f64.format.order t721 t721 == some .eq) = true
              ·
               rw [if_pos d129] at H
               have d129b0 : (FloatKind.f64.format.order t721 t721 == some .eq) = true := d129
               (try (have d129b1 : decide (FloatKind.f64.format.order t721 t721 = some .eq) = true := by simpa using d129))
               by_cases d130 : t723 < 0
               ·
                rw [if_pos d130] at H
                have d130b0 : decide (t723 < 0) = true := decide_eq_true d130
                by_cases d131 : (FloatKind.f64.format.order t719 t721 == some .lt || FloatKind.f64.format.order t719 t721 == some .eq) = true
                ·
                 rw [if_pos d131] at H
                 have d131b0 : (FloatKind.f64.format.order t719 t721 == some .lt || FloatKind.f64.format.order t719 t721 == some .eq) = true := d131
                 (try (have d131b1 : decide (FloatKind.f64.format.order t719 t721 = some .lt || FloatKind.f64.format.order t719 t721 == some .eq) = true := by simpa using d131))
                 obtain rfl := Option.some.inj H
                 go_wp2
                 go_ret
                 exact ⟨eR3, bR3 HB.out⟩
                ·
                 rw [if_neg d131] at H
                 cases H
               ·
                rw [if_neg d130] at H
                have d130b0 : decide (t723 < 0) = false := decide_eq_false d130
                by_cases d132 : t723 > 0
                ·
                 rw [if_pos d132] at H
                 have d132b0 : decide (0 < t723) = true := decide_eq_true d132
                 by_cases d133 : (FloatKind.f64.format.order t719 t721 == some .gt || FloatKind.f64.format.order t719 t721 == some .eq) = true
                 ·
                  rw [if_pos d133] at H
                  have d133b0 : (FloatKind.f64.format.order t719 t721 == some .gt || FloatKind.f64.format.order t719 t721 == some .eq) = true := d133
                  (try (have d133b1 : decide (FloatKind.f64.format.order t719 t721 = some .gt || FloatKind.f64.format.order t719 t721 == some .eq) = true := by simpa using d133))
                  obtain rfl := Option.some.inj H
                  go_wp2
                  go_ret
                  exact ⟨eR3, bR3 HB.out⟩
                 ·
                  rw [if_neg d133] at H
                  cases H
                ·
                 rw [if_neg d132] at H
                 have d132b0 : decide (0 < t723) = false := decide_eq_false d132
                 have d132z : (t723 == 0) = true := beq_iff_eq.mpr (by omega)
                 have d132y : (t723 != 0) = false := bne_eq_false_iff_eq.mpr (by omega)
                 by_cases d134 : (FloatKind.f64.format.order t719 t721 == some .eq) = true
                 ·
                  rw [if_pos d134] at H
                  have d134b0 : (FloatKind.f64.format.order t719 t721 == some .eq) = true := d134
                  (try (have d134b1 : decide (FloatKind.f64.format.order t719 t721 = some .eq) = true := by simpa using d134))
                  obtain rfl := Option.some.inj H
                  go_wp2
                  go_ret
                  exact ⟨eR3, bR3 HB.out⟩
                 ·
                  rw [if_neg d134] at H
                  cases H
              ·
               rw [if_neg d129] at H
               have d129b0 : (FloatKind.f64.format.order t721 t721 == some .eq) = false := by simpa using d129
               (try (have d129b1 : decide (FloatKind.f64.format.order t721 t721 = some .eq) = false := by simpa using d129b0))
               (try (have d129b3 : ¬ (FloatKind.f64.format.order t721 t721 = some .eq) := by simpa using d129b0))
               obtain rfl := Option.some.inj H
               go_wp2
               go_ret
               exact ⟨eR3, bR3 HB.out⟩
             ·
              rw [if_neg d128] at H
              have d128b0 : (FloatKind.f64.format.order t719 t719 == some .eq) = false := by simpa using d128
              (try (have d128b1 : decide (FloatKind.f64.format.order t719 t719 = some .eq) = false := by simpa using d128b0))
              (try (have d128b3 : ¬ (FloatKind.f64.format.order t719 t719 = some .eq) := by simpa using d128b0))
              obtain rfl := Option.some.inj H
              go_wp2
              go_ret
              exact ⟨eR3, bR3 HB.out⟩
            ·
             rw [if_neg d127] at H
             cases H
           ·
            rw [if_neg d126] at H
            cases H
          ·
           rw [if_neg d125] at H
           cases H
       ·
        rw [if_neg d104] at H
        cases H
      ·
       rw [if_neg d103] at H
       have d103x0 : ∀ (t_ : TypeId) (w_ : World), (binOp .sub t_ (.float .f64 t712) (.float .f64 t712)).run Try.prog w_ = .ok (.float .f64 (nanS t712 w_)) w_.drew := fun t_ w_ => run_sub_nan t_ t712 d103 w_
       have d103x1 : ∀ w_ : World, (FloatKind.f64.format.order (nanS t712 w_) 0 == some .eq) = false := fun w_ => by rw [nanS_ord]; rfl
       have d103x2 : ∀ w_ : World, decide (FloatKind.f64.format.order (nanS t712 w_) 0 = some .eq) = false := fun w_ => by rw [nanS_ord]; rfl
       unfold riseT at H
       by_cases d135 : t709 = true
       ·
        rw [if_pos d135] at H
        subst d135
        by_cases d136 : (FloatKind.f64.format.order t719 t719 == some .eq) = true
        ·
         rw [if_pos d136] at H
         have d136b0 : (FloatKind.f64.format.order t719 t719 == some .eq) = true := d136
         (try (have d136b1 : decide (FloatKind.f64.format.order t719 t719 = some .eq) = true := by simpa using d136))
         by_cases d137 : (FloatKind.f64.format.order t721 t721 == some .eq) = true
         ·
          rw [if_pos d137] at H
          have d137b0 : (FloatKind.f64.format.order t721 t721 == some .eq) = true := d137
          (try (have d137b1 : decide (FloatKind.f64.format.order t721 t721 = some .eq) = true := by simpa using d137))
          by_cases d138 : t723 < 0
          ·
           rw [if_pos d138] at H
           have d138b0 : decide (t723 < 0) = true := decide_eq_true d138
           by_cases d139 : (FloatKind.f64.format.order t719 t721 == some .lt || FloatKind.f64.format.order t719 t721 == some .eq) = true
           ·
            rw [if_pos d139] at H
            have d139b0 : (FloatKind.f64.format.order t719 t721 == some .lt || FloatKind.f64.format.order t719 t721 == some .eq) = true := d139
            (try (have d139b1 : decide (FloatKind.f64.format.order t719 t721 = some .lt || FloatKind.f64.format.order t719 t721 == some .eq) = true := by simpa using d139))
            obtain rfl := Option.some.inj H
            go_wp2
            go_ret
            exact ⟨eR3, bR3 HB.out⟩
           ·
            rw [if_neg d139] at H
            cases H
          ·
           rw [if_neg d138] at H
           have d138b0 : decide (t723 < 0) = false := decide_eq_false d138
           by_cases d140 : t723 > 0
           ·
            rw [if_pos d140] at H
            have d140b0 : decide (0 < t723) = true := decide_eq_true d140
            by_cases d141 : (FloatKind.f64.format.order t719 t721 == some .gt || FloatKind.f64.format.order t719 t721 == some .eq) = true
            ·
             rw [if_pos d141] at H
             have d141b0 : (FloatKind.f64.format.order t719 t721 == some .gt || FloatKind.f64.format.order t719 t721 == some .eq) = true := d141
             (try (have d141b1 : decide (FloatKind.f64.format.order t719 t721 = some .gt || FloatKind.f64.format.order t719 t721 == some .eq) = true := by simpa using d141))
             obtain rfl := Option.some.inj H
             go_wp2
             go_ret
             exact ⟨eR3, bR3 HB.out⟩
            ·
             rw [if_neg d141] at H
             cases H
           ·
            rw [if_neg d140] at H
            have d140b0 : decide (0 < t723) = false := decide_eq_false d140
            have d140z : (t723 == 0) = true := beq_iff_eq.mpr (by omega)
            have d140y : (t723 != 0) = false := bne_eq_false_iff_eq.mpr (by omega)
            by_cases d142 : (FloatKind.f64.format.order t719 t721 == some .eq) = true
            ·
             rw [if_pos d142] at H
             have d142b0 : (FloatKind.f64.format.order t719 t721 == some .eq) = true := d142
             (try (have d142b1 : decide (FloatKind.f64.format.order t719 t721 = some .eq) = true := by simpa using d142))
             obtain rfl := Option.some.inj H
             go_wp2
             go_ret
             exact ⟨eR3, bR3 HB.out⟩
            ·
             rw [if_neg d142] at H
             cases H
         ·
          rw [if_neg d137] at H
          have d137b0 : (FloatKind.f64.format.order t721 t721 == some .eq) = false := by simpa using d137
          (try (have d137b1 : decide (FloatKind.f64.format.order t721 t721 = some .eq) = false := by simpa using d137b0))
          (try (have d137b3 : ¬ (FloatKind.f64.format.order t721 t721 = some .eq) := by simpa using d137b0))
          obtain rfl := Option.some.inj H
          go_wp2
          go_ret
          exact ⟨eR3, bR3 HB.out⟩
        ·
         rw [if_neg d136] at H
         have d136b0 : (FloatKind.f64.format.order t719 t719 == some .eq) = false := by simpa using d136
         (try (have d136b1 : decide (FloatKind.f64.format.order t719 t719 = some .eq) = false := by simpa using d136b0))
         (try (have d136b3 : ¬ (FloatKind.f64.format.order t719 t719 = some .eq) := by simpa using d136b0))
         obtain rfl := Option.some.inj H
         go_wp2
         go_ret
         exact ⟨eR3, bR3 HB.out⟩
       ·
        rw [if_neg d135] at H
        cases H
     ·
      rw [if_neg d102] at H
      cases H
    ·
     rw [if_neg d101] at H
     have d101x0 : ∀ (t_ : TypeId) (w_ : World), (binOp .sub t_ (.float .f64 t711) (.float .f64 t711)).run Try.prog w_ = .ok (.float .f64 (nanS t711 w_)) w_.drew := fun t_ w_ => run_sub_nan t_ t711 d101 w_
     have d101x1 : ∀ w_ : World, (FloatKind.f64.format.order (nanS t711 w_) 0 == some .eq) = false := fun w_ => by rw [nanS_ord]; rfl
     have d101x2 : ∀ w_ : World, decide (FloatKind.f64.format.order (nanS t711 w_) 0 = some .eq) = false := fun w_ => by rw [nanS_ord]; rfl
     unfold riseT at H
     by_cases d143 : t709 = true
     ·
      rw [if_pos d143] at H
      subst d143
      by_cases d144 : (FloatKind.f64.format.order t719 t719 == some .eq) = true
      ·
       rw [if_pos d144] at H
       have d144b0 : (FloatKind.f64.format.order t719 t719 == some .eq) = true := d144
       (try (have d144b1 : decide (FloatKind.f64.format.order t719 t719 = some .eq) = true := by simpa using d144))
       by_cases d145 : (FloatKind.f64.format.order t721 t721 == some .eq) = true
       ·
        rw [if_pos d145] at H
        have d145b0 : (FloatKind.f64.format.order t721 t721 == some .eq) = true := d145
        (try (have d145b1 : decide (FloatKind.f64.format.order t721 t721 = some .eq) = true := by simpa using d145))
        by_cases d146 : t723 < 0
        ·
         rw [if_pos d146] at H
         have d146b0 : decide (t723 < 0) = true := decide_eq_true d146
         by_cases d147 : (FloatKind.f64.format.order t719 t721 == some .lt || FloatKind.f64.format.order t719 t721 == some .eq) = true
         ·
          rw [if_pos d147] at H
          have d147b0 : (FloatKind.f64.format.order t719 t721 == some .lt || FloatKind.f64.format.order t719 t721 == some .eq) = true := d147
          (try (have d147b1 : decide (FloatKind.f64.format.order t719 t721 = some .lt || FloatKind.f64.format.order t719 t721 == some .eq) = true := by simpa using d147))
          obtain rfl := Option.some.inj H
          go_wp2
          go_ret
          exact ⟨eR3, bR3 HB.out⟩
         ·
          rw [if_neg d147] at H
          cases H
        ·
         rw [if_neg d146] at H
         have d146b0 : decide (t723 < 0) = false := decide_eq_false d146
         by_cases d148 : t723 > 0
         ·
          rw [if_pos d148] at H
          have d148b0 : decide (0 < t723) = true := decide_eq_true d148
          by_cases d149 : (FloatKind.f64.format.order t719 t721 == some .gt || FloatKind.f64.format.order t719 t721 == some .eq) = true
          ·
           rw [if_pos d149] at H
           have d149b0 : (FloatKind.f64.format.order t719 t721 == some .gt || FloatKind.f64.format.order t719 t721 == some .eq) = true := d149
           (try (have d149b1 : decide (FloatKind.f64.format.order t719 t721 = some .gt || FloatKind.f64.format.order t719 t721 == some .eq) = true := by simpa using d149))
           obtain rfl := Option.some.inj H
           go_wp2
           go_ret
           exact ⟨eR3, bR3 HB.out⟩
          ·
           rw [if_neg d149] at H
           cases H
         ·
          rw [if_neg d148] at H
          have d148b0 : decide (0 < t723) = false := decide_eq_false d148
          have d148z : (t723 == 0) = true := beq_iff_eq.mpr (by omega)
          have d148y : (t723 != 0) = false := bne_eq_false_iff_eq.mpr (by omega)
          by_cases d150 : (FloatKind.f64.format.order t719 t721 == some .eq) = true
          ·
           rw [if_pos d150] at H
           have d150b0 : (FloatKind.f64.format.order t719 t721 == some .eq) = true := d150
           (try (have d150b1 : decide (FloatKind.f64.format.order t719 t721 = some .eq) = true := by simpa using d150))
           obtain rfl := Option.some.inj H
           go_wp2
           go_ret
           exact ⟨eR3, bR3 HB.out⟩
          ·
           rw [if_neg d150] at H
           cases H
       ·
        rw [if_neg d145] at H
        have d145b0 : (FloatKind.f64.format.order t721 t721 == some .eq) = false := by simpa using d145
        (try (have d145b1 : decide (FloatKind.f64.format.order t721 t721 = some .eq) = false := by simpa using d145b0))
        (try (have d145b3 : ¬ (FloatKind.f64.format.order t721 t721 = some .eq) := by simpa using d145b0))
        obtain rfl := Option.some.inj H
        go_wp2
        go_ret
        exact ⟨eR3, bR3 HB.out⟩
      ·
       rw [if_neg d144] at H
       have d144b0 : (FloatKind.f64.format.order t719 t719 == some .eq) = false := by simpa using d144
       (try (have d144b1 : decide (FloatKind.f64.format.order t719 t719 = some .eq) = false := by simpa using d144b0))
       (try (have d144b3 : ¬ (FloatKind.f64.format.order t719 t719 = some .eq) := by simpa using d144b0))
       obtain rfl := Option.some.inj H
       go_wp2
       go_ret
       exact ⟨eR3, bR3 HB.out⟩
     ·
      rw [if_neg d143] at H
      cases H
/-- THE ONE PURE STATEMENT of vernierlaw17_FltRise: yours. -/
def vernierlaw17_FltRise.Pure : Prop := ∀ (a0 : Int) (a1 : Int) (a2 : Int), (Lit.int .i64 a0).wf = true → (Lit.int .u64 a1).wf = true → (Lit.int .u64 a2).wf = true → ∃ k, vernierlaw17_FltRise.f k a0 a1 a2 = some true
theorem vernierlaw17_FltRise.walk (P : vernierlaw17_FltRise.Pure) (a0 : Int) (a1 : Int) (a2 : Int) (w : World) (w0 : (Lit.int .i64 a0).wf = true) (w1 : (Lit.int .u64 a1).wf = true) (w2 : (Lit.int .u64 a2).wf = true) :
  Calls Try.prog 8 #[.int .i64 a0, .int .u64 a1, .int .u64 a2] w fun e w' => e = .returned (.bool true) ∧ Below w.heap.size w w' := by
 obtain ⟨k, h⟩ := P a0 a1 a2 w0 w1 w2
 refine (vernierlaw17_FltRise.calls k a0 a1 a2 true w h).mono ?_
 rintro e w' ⟨rfl, hd⟩
 exact ⟨rfl, hd⟩
end Go.Proofs.Ytpdpggndhmnggaa.F
