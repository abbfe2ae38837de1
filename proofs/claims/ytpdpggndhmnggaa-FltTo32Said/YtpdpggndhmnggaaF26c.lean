/- Functions of the given program as plain Lean functions, and for each a proof that the program's call comes to just these answers; no further conditions. (Written by a program of this repo out of the translation.) -/
import Derived.Test.YtpdpggndhmnggaaF0c
import Derived.Test.YtpdpggndhmnggaaF3c
import Derived.Test.YtpdpggndhmnggaaF12c
import Derived.Test.YtpdpggndhmnggaaF40c
import Derived.Test.YtpdpggndhmnggaaF14c
import Derived.Test.YtpdpggndhmnggaaF15c
import Derived.Test.YtpdpggndhmnggaaF16c
import Derived.Test.YtpdpggndhmnggaaF20c
namespace Go.Proofs.Ytpdpggndhmnggaa.F
open Go.RowKit Go.Proofs.YtpdpggndhmnggaaW.PrintWords Go.Proofs.YtpdpggndhmnggaaW.PrintLast Go.Proofs.YtpdpggndhmnggaaW.PrintMore
attribute [local go_sem high] xor_u64 xor_u32 eqErr25 neErr25 eqErrL25 neErrL25
attribute [local go_sem] max2_int min2_int max_two min_two max_three min_three max_four min_four   -- for this text's walks alone
set_option linter.unusedVariables false
set_option linter.unusedSimpArgs false
def vernierlaw17_FltTo32o.f (k : Nat) (a0 : Int) (a1 : Int) : Option (Bool) := (vernierlaw17_shown.f k).bind fun t621 => ((flt_To32.f k a0 a1).bind fun bt622 => ((vernierref05_Is.f a0).bind fun t624 => (if t624 = true then ((vernierref06_Decode.f k a0 a1).bind fun bt626 => (if bt626.1 = 2 then (if t621 = true then (if bt622.2.isNone = true then (some (FloatKind.f32.format.order bt622.1 bt622.1 != some .eq)) else (some false)) else (some false)) else (if t621 = true then (if bt622.2.isNone = true then ((math_Float32bits.f bt622.1).bind fun t633 => ((vernierref17_Short.f).bind fun bt634 => ((vernierref17_Form_To.f k bt634.1 bt634.2 a0 a1).bind fun t636 => (some ((IntKind.u64.wrap (t633)) == t636))))) else (some false)) else (some false)))) else (if t621 = true then (if (FloatKind.f32.format.order bt622.1 0 == some .eq) = true then (if bt622.2.isNone = true then (some false) else (some ((bt622.2.getD 0) == 2))) else (some false)) else (some false)))))
set_option maxHeartbeats 8000000 in
set_option maxRecDepth 100000 in
theorem vernierlaw17_FltTo32o.calls (k : Nat) (a0 : Int) (a1 : Int) (r : Bool) (w : World) (h : vernierlaw17_FltTo32o.f k a0 a1 = some r) :
  Calls Try.prog 6 #[.int .i64 a0, .int .u64 a1] w fun e w' => e = .returned (.bool r) ∧ Below w.heap.size w w' := by
 have hu42 := Try.underlying42
 have hu25 := Try.underlying25
 have hu40 := Try.underlying40
 have HB := Aside0.mk (Below.refl w.heap.size w)
 have H : ((vernierlaw17_shown.f k).bind fun t621 => ((flt_To32.f k a0 a1).bind fun bt622 => ((vernierref05_Is.f a0).bind fun t624 => (if t624 = true then ((vernierref06_Decode.f k a0 a1).bind fun bt626 => (if bt626.1 = 2 then (if t621 = true then (if bt622.2.isNone = true then (some (FloatKind.f32.format.order bt622.1 bt622.1 != some .eq)) else (some false)) else (some false)) else (if t621 = true then (if bt622.2.isNone = true then ((math_Float32bits.f bt622.1).bind fun t633 => ((vernierref17_Short.f).bind fun bt634 => ((vernierref17_Form_To.f k bt634.1 bt634.2 a0 a1).bind fun t636 => (some ((IntKind.u64.wrap (t633)) == t636))))) else (some false)) else (some false)))) else (if t621 = true then (if (FloatKind.f32.format.order bt622.1 0 == some .eq) = true then (if bt622.2.isNone = true then (some false) else (some ((bt622.2.getD 0) == 2))) else (some false)) else (some false)))))) = some r := h
 clear h
 replace H := Option.bind_eq_some_iff.mp H
 obtain ⟨t621, A30, H⟩ := H
 try dsimp -simprocs only at H
 have A3 := Aside0.mk A30
 clear A30
 replace H := Option.bind_eq_some_iff.mp H
 obtain ⟨⟨t622, t623⟩, A40, H⟩ := H
 try dsimp -simprocs only at H
 have A4 := Aside0.mk A40
 clear A40
 replace H := Option.bind_eq_some_iff.mp H
 obtain ⟨t624, A50, H⟩ := H
 try dsimp -simprocs only at H
 have A5 := Aside0.mk A50
 clear A50
 by_cases c6 : t624 = true
 ·
  subst c6
  rw [if_pos rfl] at H
  replace H := Option.bind_eq_some_iff.mp H
  obtain ⟨⟨t626, t627, t628, t629⟩, A70, H⟩ := H
  try dsimp -simprocs only at H
  have A7 := Aside0.mk A70
  clear A70
  by_cases c8 : t626 = 2
  ·
   rw [if_pos c8] at H
   have c8b0 : (t626 == 2) = true := beq_iff_eq.mpr c8
   have c8b1 : (t626 != 2) = false := bne_eq_false_iff_eq.mpr c8
   clear c8
   by_cases c9 : t621 = true
   ·
    subst c9
    rw [if_pos rfl] at H
    rcases t623 with _ | q631
    ·
     rw [if_pos (show (none : Option Int).isNone = true by rfl)] at H
     try simp only [Option.getD_some] at H
     try simp only [errW_none, errW_some]
     obtain rfl := Option.some.inj H
     go_enter Try.func6, Try.ntmps6
     go_wp2_with (first | ((with_reducible refine gX_ 10 10 rfl rfl ?_); refine goesY_ (some 10) Try.func10 #[] ?_; (with_reducible refine (vernierlaw17_shown.calls k  true _ A3.out).mono ?_); rintro e w10 ⟨rfl, hb⟩; refine ⟨_, rfl, ?_⟩; replace HB := Aside0.mk (bS3 HB.out hb); (try clear hb); (try clear hk)) | ((with_reducible refine gX_ 24 14 rfl rfl ?_); refine goesY_ (some 14) Try.func24 #[.int .i64 a0, .int .u64 a1] ?_; (with_reducible refine (flt_To32.calls k a0 a1 t622 none _ A4.out).mono ?_); rintro e w11 ⟨rfl, hb⟩; refine ⟨_, rfl, ?_⟩; replace HB := Aside0.mk (bS3 HB.out hb); (try clear hb); (try clear hk); (try simp only [errW_none, errW_some])) | ((with_reducible refine gX_ 17 18 rfl rfl ?_); refine goesY_ (some 18) Try.func17 #[.int .i64 a0] ?_; (with_reducible refine (vernierref05_Is.calls a0 true _ A5.out).mono ?_); rintro e w' ⟨rfl, ⟨nd, rfl⟩⟩; refine ⟨_, rfl, ?_⟩; (try (rw [drewN_self w11]; generalize hq_ : World.drewN w11 _ = w11; have n0_ : Aside0 (Below w.heap.size w w11) := ⟨by rw [← hq_]; exact (bR3 HB.out)⟩; clear HB hq_; have HB := n0_; clear n0_))) | ((with_reducible refine gX_ 18 33 rfl rfl ?_); refine goesY_ (some 33) Try.func18 #[.int .i64 a0, .int .u64 a1] ?_; (with_reducible refine (vernierref06_Decode.calls k a0 a1 t626 t627 t628 t629 _ A7.out).mono ?_); rintro e w12 ⟨rfl, hb⟩; refine ⟨_, rfl, ?_⟩; replace HB := Aside0.mk (bS3 HB.out hb); (try clear hb); (try clear hk)) | ((with_reducible refine gD (N := 9) rfl ?_); refine bE3 9 #[.int .i64 0, .bool false, .int .i64 0, .int .u64 0] 42 ?hr ?_; (case hr => first | (go_simp; done) | (go_simp; rfl)); intro gb630 hg w13 hbox hb; have BK630 := Aside0.mk (hbox); have GW630 := Aside0.mk ((bZ3 hg HB.out)); have GE630 := Aside0.mk ((bZ3 hg HB.out)); replace HB := Aside0.mk (bS3 HB.out hb); clear hb hbox hg; obtain ⟨hcz14_0, hcz14_1, hcz14_2, hcz14_3, hfz14_0, hfz14_1, hfz14_2, hfz14_3⟩ := cl4 BK630.out))
     go_ret
     exact ⟨eR3, bR3 HB.out⟩
    ·
     rw [if_neg (show ¬ (some q631).isNone = true by simp)] at H
     try simp only [Option.getD_some] at H
     try simp only [errW_none, errW_some]
     obtain rfl := Option.some.inj H
     go_enter Try.func6, Try.ntmps6
     go_wp2_with (first | ((with_reducible refine gX_ 10 10 rfl rfl ?_); refine goesY_ (some 10) Try.func10 #[] ?_; (with_reducible refine (vernierlaw17_shown.calls k  true _ A3.out).mono ?_); rintro e w15 ⟨rfl, hb⟩; refine ⟨_, rfl, ?_⟩; replace HB := Aside0.mk (bS3 HB.out hb); (try clear hb); (try clear hk)) | ((with_reducible refine gX_ 24 14 rfl rfl ?_); refine goesY_ (some 14) Try.func24 #[.int .i64 a0, .int .u64 a1] ?_; (with_reducible refine (flt_To32.calls k a0 a1 t622 (some q631) _ A4.out).mono ?_); rintro e w16 ⟨rfl, hb⟩; refine ⟨_, rfl, ?_⟩; replace HB := Aside0.mk (bS3 HB.out hb); (try clear hb); (try clear hk); (try simp only [errW_none, errW_some])) | ((with_reducible refine gX_ 17 18 rfl rfl ?_); refine goesY_ (some 18) Try.func17 #[.int .i64 a0] ?_; (with_reducible refine (vernierref05_Is.calls a0 true _ A5.out).mono ?_); rintro e w' ⟨rfl, ⟨nd, rfl⟩⟩; refine ⟨_, rfl, ?_⟩; (try (rw [drewN_self w16]; generalize hq_ : World.drewN w16 _ = w16; have n0_ : Aside0 (Below w.heap.size w w16) := ⟨by rw [← hq_]; exact (bR3 HB.out)⟩; clear HB hq_; have HB := n0_; clear n0_))) | ((with_reducible refine gX_ 18 33 rfl rfl ?_); refine goesY_ (some 33) Try.func18 #[.int .i64 a0, .int .u64 a1] ?_; (with_reducible refine (vernierref06_Decode.calls k a0 a1 t626 t627 t628 t629 _ A7.out).mono ?_); rintro e w17 ⟨rfl, hb⟩; refine ⟨_, rfl, ?_⟩; replace HB := Aside0.mk (bS3 HB.out hb); (try clear hb); (try clear hk)) | ((with_reducible refine gD (N := 9) rfl ?_); refine bE3 9 #[.int .i64 0, .bool false, .int .i64 0, .int .u64 0] 42 ?hr ?_; (case hr => first | (go_simp; done) | (go_simp; rfl)); intro gb630 hg w18 hbox hb; have BK630 := Aside0.mk (hbox); have GW630 := Aside0.mk ((bZ3 hg HB.out)); have GE630 := Aside0.mk ((bZ3 hg HB.out)); replace HB := Aside0.mk (bS3 HB.out hb); clear hb hbox hg; obtain ⟨hcz19_0, hcz19_1, hcz19_2, hcz19_3, hfz19_0, hfz19_1, hfz19_2, hfz19_3⟩ := cl4 BK630.out))
     go_ret
     exact ⟨eR3, bR3 HB.out⟩
   ·
    replace c9 := Bool.eq_false_iff.mpr c9
    subst c9
    rw [if_neg (show ¬ (false = true) by decide)] at H
    obtain rfl := Option.some.inj H
    go_enter Try.func6, Try.ntmps6
    go_wp2_with (first | ((with_reducible refine gX_ 10 10 rfl rfl ?_); refine goesY_ (some 10) Try.func10 #[] ?_; (with_reducible refine (vernierlaw17_shown.calls k  false _ A3.out).mono ?_); rintro e w20 ⟨rfl, hb⟩; refine ⟨_, rfl, ?_⟩; replace HB := Aside0.mk (bS3 HB.out hb); (try clear hb); (try clear hk)) | ((with_reducible refine gX_ 24 14 rfl rfl ?_); refine goesY_ (some 14) Try.func24 #[.int .i64 a0, .int .u64 a1] ?_; (with_reducible refine (flt_To32.calls k a0 a1 t622 t623 _ A4.out).mono ?_); rintro e w21 ⟨rfl, hb⟩; refine ⟨_, rfl, ?_⟩; replace HB := Aside0.mk (bS3 HB.out hb); (try clear hb); (try clear hk); (try simp only [errW_none, errW_some])) | ((with_reducible refine gX_ 17 18 rfl rfl ?_); refine goesY_ (some 18) Try.func17 #[.int .i64 a0] ?_; (with_reducible refine (vernierref05_Is.calls a0 true _ A5.out).mono ?_); rintro e w' ⟨rfl, ⟨nd, rfl⟩⟩; refine ⟨_, rfl, ?_⟩; (try (rw [drewN_self w21]; generalize hq_ : World.drewN w21 _ = w21; have n0_ : Aside0 (Below w.heap.size w w21) := ⟨by rw [← hq_]; exact (bR3 HB.out)⟩; clear HB hq_; have HB := n0_; clear n0_))) | ((with_reducible refine gX_ 18 33 rfl rfl ?_); refine goesY_ (some 33) Try.func18 #[.int .i64 a0, .int .u64 a1] ?_; (with_reducible refine (vernierref06_Decode.calls k a0 a1 t626 t627 t628 t629 _ A7.out).mono ?_); rintro e w22 ⟨rfl, hb⟩; refine ⟨_, rfl, ?_⟩; replace HB := Aside0.mk (bS3 HB.out hb); (try clear hb); (try clear hk)) | ((with_reducible refine gD (N := 9) rfl ?_); refine bE3 9 #[.int .i64 0, .bool false, .int .i64 0, .int .u64 0] 42 ?hr ?_; (case hr => first | (go_simp; done) | (go_simp; rfl)); intro gb630 hg w23 hbox hb; have BK630 := Aside0.mk (hbox); have GW630 := Aside0.mk ((bZ3 hg HB.out)); have GE630 := Aside0.mk ((bZ3 hg HB.out)); replace HB := Aside0.mk (bS3 HB.out hb); clear hb hbox hg; obtain ⟨hcz24_0, hcz24_1, hcz24_2, hcz24_3, hfz24_0, hfz24_1, hfz24_2, hfz24_3⟩ := cl4 BK630.out))
    go_ret
    exact ⟨eR3, bR3 HB.out⟩
  ·
   rw [if_neg c8] at H
   have c8b0 : (t626 == 2) = false := beq_eq_false_iff_ne.mpr c8
   have c8b1 : (t626 != 2) = true := bne_iff_ne.mpr c8
   by_cases c25 : t621 = true
   ·
    subst c25
    rw [if_pos rfl] at H
    rcases t623 with _ | q632
    ·
     rw [if_pos (show (none : Option Int).isNone = true by rfl)] at H
     try simp only [Option.getD_some] at H
     try simp only [errW_none, errW_some]
     replace H := Option.bind_eq_some_iff.mp H
     obtain ⟨t633, A260, H⟩ := H
     try dsimp -simprocs only at H
     have A26 := Aside0.mk A260
     clear A260
     replace H := Option.bind_eq_some_iff.mp H
     obtain ⟨⟨t634, t635⟩, A270, H⟩ := H
     try dsimp -simprocs only at H
     have A27 := Aside0.mk A270
     clear A270
     replace H := Option.bind_eq_some_iff.mp H
     obtain ⟨t636, A280, H⟩ := H
     try dsimp -simprocs only at H
     have A28 := Aside0.mk A280
     clear A280
     obtain rfl := Option.some.inj H
     go_enter Try.func6, Try.ntmps6
     go_wp2_with (first | ((with_reducible refine gX_ 10 10 rfl rfl ?_); refine goesY_ (some 10) Try.func10 #[] ?_; (with_reducible refine (vernierlaw17_shown.calls k  true _ A3.out).mono ?_); rintro e w29 ⟨rfl, hb⟩; refine ⟨_, rfl, ?_⟩; replace HB := Aside0.mk (bS3 HB.out hb); (try clear hb); (try clear hk)) | ((with_reducible refine gX_ 24 14 rfl rfl ?_); refine goesY_ (some 14) Try.func24 #[.int .i64 a0, .int .u64 a1] ?_; (with_reducible refine (flt_To32.calls k a0 a1 t622 none _ A4.out).mono ?_); rintro e w30 ⟨rfl, hb⟩; refine ⟨_, rfl, ?_⟩; replace HB := Aside0.mk (bS3 HB.out hb); (try clear hb); (try clear hk); (try simp only [errW_none, errW_some])) | ((with_reducible refine gX_ 17 18 rfl rfl ?_); refine goesY_ (some 18) Try.func17 #[.int .i64 a0] ?_; (with_reducible refine (vernierref05_Is.calls a0 true _ A5.out).mono ?_); rintro e w' ⟨rfl, ⟨nd, rfl⟩⟩; refine ⟨_, rfl, ?_⟩; (try (rw [drewN_self w30]; generalize hq_ : World.drewN w30 _ = w30; have n0_ : Aside0 (Below w.heap.size w w30) := ⟨by rw [← hq_]; exact (bR3 HB.out)⟩; clear HB hq_; have HB := n0_; clear n0_))) | ((with_reducible refine gX_ 18 33 rfl rfl ?_); refine goesY_ (some 33) Try.func18 #[.int .i64 a0, .int .u64 a1] ?_; (with_reducible refine (vernierref06_Decode.calls k a0 a1 t626 t627 t628 t629 _ A7.out).mono ?_); rintro e w31 ⟨rfl, hb⟩; refine ⟨_, rfl, ?_⟩; replace HB := Aside0.mk (bS3 HB.out hb); (try clear hb); (try clear hk)) | ((with_reducible refine gD (N := 9) rfl ?_); refine bE3 9 #[.int .i64 0, .bool false, .int .i64 0, .int .u64 0] 42 ?hr ?_; (case hr => first | (go_simp; done) | (go_simp; rfl)); intro gb630 hg w32 hbox hb; have BK630 := Aside0.mk (hbox); have GW630 := Aside0.mk ((bZ3 hg HB.out)); have GE630 := Aside0.mk ((bZ3 hg HB.out)); replace HB := Aside0.mk (bS3 HB.out hb); clear hb hbox hg; obtain ⟨hcz33_0, hcz33_1, hcz33_2, hcz33_3, hfz33_0, hfz33_1, hfz33_2, hfz33_3⟩ := cl4 BK630.out) | ((with_reducible refine gate_callee (f := 25) rfl ?_); (try (refine gate_guard (by rfl) ?_; dsimp only)); refine goesX_ _ #[.float .f32 t622] ?_; (with_reducible refine (math_Float32bits.calls t622 t633 _ A26.out).mono ?_); rintro e w' ⟨rfl, rfl⟩; refine ⟨_, rfl, ?_⟩) | (go_at_call 23; (with_reducible refine (vernierref17_Short.calls  t634 t635 _ A27.out).mono ?_); rintro e w34 ⟨rfl, hb⟩; replace BK630 := Aside0.mk (bB (g := gb630) (o := .cells #[.int .i64 t626, .bool t627, .int .i64 t628, .int .u64 t629] 42 (0, 0)) (bQ3 BK630.out) hb); replace HB := Aside0.mk (bS3 HB.out hb); (try clear hb); (try clear hk)) | (go_at_call 20; (with_reducible refine (vernierref17_Form_To.calls k t634 t635 a0 a1 t636 _ A28.out).mono ?_); rintro e w35 ⟨rfl, hb⟩; replace BK630 := Aside0.mk (bB3 BK630.out hb); replace HB := Aside0.mk (bS3 HB.out hb); (try clear hb); (try clear hk)))
     go_ret
     exact ⟨eR3, bR3 HB.out⟩
    ·
     rw [if_neg (show ¬ (some q632).isNone = true by simp)] at H
     try simp only [Option.getD_some] at H
     try simp only [errW_none, errW_some]
     obtain rfl := Option.some.inj H
     go_enter Try.func6, Try.ntmps6
     go_wp2_with (first | ((with_reducible refine gX_ 10 10 rfl rfl ?_); refine goesY_ (some 10) Try.func10 #[] ?_; (with_reducible refine (vernierlaw17_shown.calls k  true _ A3.out).mono ?_); rintro e w36 ⟨rfl, hb⟩; refine ⟨_, rfl, ?_⟩; replace HB := Aside0.mk (bS3 HB.out hb); (try clear hb); (try clear hk)) | ((with_reducible refine gX_ 24 14 rfl rfl ?_); refine goesY_ (some 14) Try.func24 #[.int .i64 a0, .int .u64 a1] ?_; (with_reducible refine (flt_To32.calls k a0 a1 t622 (some q632) _ A4.out).mono ?_); rintro e w37 ⟨rfl, hb⟩; refine ⟨_, rfl, ?_⟩; replace HB := Aside0.mk (bS3 HB.out hb); (try clear hb); (try clear hk); (try simp only [errW_none, errW_some])) | ((with_reducible refine gX_ 17 18 rfl rfl ?_); refine goesY_ (some 18) Try.func17 #[.int .i64 a0] ?_; (with_reducible refine (vernierref05_Is.calls a0 true _ A5.out).mono ?_); rintro e w' ⟨rfl, ⟨nd, rfl⟩⟩; refine ⟨_, rfl, ?_⟩; (try (rw [drewN_self w37]; generalize hq_ : World.drewN w37 _ = w37; have n0_ : Aside0 (Below w.heap.size w w37) := ⟨by rw [← hq_]; exact (bR3 HB.out)⟩; clear HB hq_; have HB := n0_; clear n0_))) | ((with_reducible refine gX_ 18 33 rfl rfl ?_); refine goesY_ (some 33) Try.func18 #[.int .i64 a0, .int .u64 a1] ?_; (with_reducible refine (vernierref06_Decode.calls k a0 a1 t626 t627 t628 t629 _ A7.out).mono ?_); rintro e w38 ⟨rfl, hb⟩; refine ⟨_, rfl, ?_⟩; replace HB := Aside0.mk (bS3 HB.out hb); (try clear hb); (try clear hk)) | ((with_reducible refine gD (N := 9) rfl ?_); refine bE3 9 #[.int .i64 0, .bool false, .int .i64 0, .int .u64 0] 42 ?hr ?_; (case hr => first | (go_simp; done) | (go_simp; rfl)); intro gb630 hg w39 hbox hb; have BK630 := Aside0.mk (hbox); have GW630 := Aside0.mk ((bZ3 hg HB.out)); have GE630 := Aside0.mk ((bZ3 hg HB.out)); replace HB := Aside0.mk (bS3 HB.out hb); clear hb hbox hg; obtain ⟨hcz40_0, hcz40_1, hcz40_2, hcz40_3, hfz40_0, hfz40_1, hfz40_2, hfz40_3⟩ := cl4 BK630.out))
     go_ret
     exact ⟨eR3, bR3 HB.out⟩
   ·
    replace c25 := Bool.eq_false_iff.mpr c25
    subst c25
    rw [if_neg (show ¬ (false = true) by decide)] at H
    obtain rfl := Option.some.inj H
    go_enter Try.func6, Try.ntmps6
    go_wp2_with (first | ((with_reducible refine gX_ 10 10 rfl rfl ?_); refine goesY_ (some 10) Try.func10 #[] ?_; (with_reducible refine (vernierlaw17_shown.calls k  false _ A3.out).mono ?_); rintro e w41 ⟨rfl, hb⟩; refine ⟨_, rfl, ?_⟩; replace HB := Aside0.mk (bS3 HB.out hb); (try clear hb); (try clear hk)) | ((with_reducible refine gX_ 24 14 rfl rfl ?_); refine goesY_ (some 14) Try.func24 #[.int .i64 a0, .int .u64 a1] ?_; (with_reducible refine (flt_To32.calls k a0 a1 t622 t623 _ A4.out).mono ?_); rintro e w42 ⟨rfl, hb⟩; refine ⟨_, rfl, ?_⟩; replace HB := Aside0.mk (bS3 HB.out hb); (try clear hb); (try clear hk); (try simp only [errW_none, errW_some])) | ((with_reducible refine gX_ 17 18 rfl rfl ?_); refine goesY_ (some 18) Try.func17 #[.int .i64 a0] ?_; (with_reducible refine (vernierref05_Is.calls a0 true _ A5.out).mono ?_); rintro e w' ⟨rfl, ⟨nd, rfl⟩⟩; refine ⟨_, rfl, ?_⟩; (try (rw [drewN_self w42]; generalize hq_ : World.drewN w42 _ = w42; have n0_ : Aside0 (Below w.heap.size w w42) := ⟨by rw [← hq_]; exact (bR3 HB.out)⟩; clear HB hq_; have HB := n0_; clear n0_))) | ((with_reducible refine gX_ 18 33 rfl rfl ?_); refine goesY_ (some 33) Try.func18 #[.int .i64 a0, .int .u64 a1] ?_; (with_reducible refine (vernierref06_Decode.calls k a0 a1 t626 t627 t628 t629 _ A7.out).mono ?_); rintro e w43 ⟨rfl, hb⟩; refine ⟨_, rfl, ?_⟩; replace HB := Aside0.mk (bS3 HB.out hb); (try clear hb); (try clear hk)) | ((with_reducible refine gD (N := 9) rfl ?_); refine bE3 9 #[.int .i64 0, .bool false, .int .i64 0, .int .u64 0] 42 ?hr ?_; (case hr => first | (go_simp; done) | (go_simp; rfl)); intro gb630 hg w44 hbox hb; have BK630 := Aside0.mk (hbox); have GW630 := Aside0.mk ((bZ3 hg HB.out)); have GE630 := Aside0.mk ((bZ3 hg HB.out)); replace HB := Aside0.mk (bS3 HB.out hb); clear hb hbox hg; obtain ⟨hcz45_0, hcz45_1, hcz45_2, hcz45_3, hfz45_0, hfz45_1, hfz45_2, hfz45_3⟩ := cl4 BK630.out))
    go_ret
    exact ⟨eR3, bR3 HB.out⟩
 ·
  replace c6 := Bool.eq_false_iff.mpr c6
  subst c6
  rw [if_neg (show ¬ (false = true) by decide)] at H
  by_cases c46 : t621 = true
  ·
   subst c46
   rw [if_pos rfl] at H
   by_cases c47 : (FloatKind.f32.format.order t622 0 == some .eq) = true
   ·
    rw [if_pos c47] at H
    have c47b0 : (FloatKind.f32.format.order t622 0 == some .eq) = true := c47
    (try (have c47b1 : decide (FloatKind.f32.format.order t622 0 = some .eq) = true := by simpa using c47))
    (try (have c47b2 : (FloatKind.f32.format.order t622 0 == some .eq) = true := by simpa using c47))
    clear c47
    rcases t623 with _ | q625
    ·
     rw [if_pos (show (none : Option Int).isNone = true by rfl)] at H
     try simp only [Option.getD_some] at H
     try simp only [errW_none, errW_some]
     obtain rfl := Option.some.inj H
     go_enter Try.func6, Try.ntmps6
     go_wp2_with (first | ((with_reducible refine gX_ 10 10 rfl rfl ?_); refine goesY_ (some 10) Try.func10 #[] ?_; (with_reducible refine (vernierlaw17_shown.calls k  true _ A3.out).mono ?_); rintro e w48 ⟨rfl, hb⟩; refine ⟨_, rfl, ?_⟩; replace HB := Aside0.mk (bS3 HB.out hb); (try clear hb); (try clear hk)) | ((with_reducible refine gX_ 24 14 rfl rfl ?_); refine goesY_ (some 14) Try.func24 #[.int .i64 a0, .int .u64 a1] ?_; (with_reducible refine (flt_To32.calls k a0 a1 t622 none _ A4.out).mono ?_); rintro e w49 ⟨rfl, hb⟩; refine ⟨_, rfl, ?_⟩; replace HB := Aside0.mk (bS3 HB.out hb); (try clear hb); (try clear hk); (try simp only [errW_none, errW_some])) | ((with_reducible refine gX_ 17 18 rfl rfl ?_); refine goesY_ (some 18) Try.func17 #[.int .i64 a0] ?_; (with_reducible refine (vernierref05_Is.calls a0 false _ A5.out).mono ?_); rintro e w' ⟨rfl, ⟨nd, rfl⟩⟩; refine ⟨_, rfl, ?_⟩))
     go_ret
     exact ⟨eR3, bR3 HB.out⟩
    ·
     rw [if_neg (show ¬ (some q625).isNone = true by simp)] at H
     try simp only [Option.getD_some] at H
     try simp only [errW_none, errW_some]
     obtain rfl := Option.some.inj H
     go_enter Try.func6, Try.ntmps6
     go_wp2_with (first | ((with_reducible refine gX_ 10 10 rfl rfl ?_); refine goesY_ (some 10) Try.func10 #[] ?_; (with_reducible refine (vernierlaw17_shown.calls k  true _ A3.out).mono ?_); rintro e w50 ⟨rfl, hb⟩; refine ⟨_, rfl, ?_⟩; replace HB := Aside0.mk (bS3 HB.out hb); (try clear hb); (try clear hk)) | ((with_reducible refine gX_ 24 14 rfl rfl ?_); refine goesY_ (some 14) Try.func24 #[.int .i64 a0, .int .u64 a1] ?_; (with_reducible refine (flt_To32.calls k a0 a1 t622 (some q625) _ A4.out).mono ?_); rintro e w51 ⟨rfl, hb⟩; refine ⟨_, rfl, ?_⟩; replace HB := Aside0.mk (bS3 HB.out hb); (try clear hb); (try clear hk); (try simp only [errW_none, errW_some])) | ((with_reducible refine gX_ 17 18 rfl rfl ?_); refine goesY_ (some 18) Try.func17 #[.int .i64 a0] ?_; (with_reducible refine (vernierref05_Is.calls a0 false _ A5.out).mono ?_); rintro e w' ⟨rfl, ⟨nd, rfl⟩⟩; refine ⟨_, rfl, ?_⟩))
     go_ret
     exact ⟨eR3, bR3 HB.out⟩
   ·
    rw [if_neg c47] at H
    have c47b0 : (FloatKind.f32.format.order t622 0 == some .eq) = false := by simpa using c47
    (try (have c47b1 : decide (FloatKind.f32.format.order t622 0 = some .eq) = false := by simpa using c47))
    (try (have c47b2 : (FloatKind.f32.format.order t622 0 == some .eq) = false := by simpa using c47))
    (try (have c47b3 : ¬ (FloatKind.f32.format.order t622 0 = some .eq) := by simpa using c47))
    clear c47
    obtain rfl := Option.some.inj H
    go_enter Try.func6, Try.ntmps6
    go_wp2_with (first | ((with_reducible refine gX_ 10 10 rfl rfl ?_); refine goesY_ (some 10) Try.func10 #[] ?_; (with_reducible refine (vernierlaw17_shown.calls k  true _ A3.out).mono ?_); rintro e w52 ⟨rfl, hb⟩; refine ⟨_, rfl, ?_⟩; replace HB := Aside0.mk (bS3 HB.out hb); (try clear hb); (try clear hk)) | ((with_reducible refine gX_ 24 14 rfl rfl ?_); refine goesY_ (some 14) Try.func24 #[.int .i64 a0, .int .u64 a1] ?_; (with_reducible refine (flt_To32.calls k a0 a1 t622 t623 _ A4.out).mono ?_); rintro e w53 ⟨rfl, hb⟩; refine ⟨_, rfl, ?_⟩; replace HB := Aside0.mk (bS3 HB.out hb); (try clear hb); (try clear hk); (try simp only [errW_none, errW_some])) | ((with_reducible refine gX_ 17 18 rfl rfl ?_); refine goesY_ (some 18) Try.func17 #[.int .i64 a0] ?_; (with_reducible refine (vernierref05_Is.calls a0 false _ A5.out).mono ?_); rintro e w' ⟨rfl, ⟨nd, rfl⟩⟩; refine ⟨_, rfl, ?_⟩))
    go_ret
    exact ⟨eR3, bR3 HB.out⟩
  ·
   replace c46 := Bool.eq_false_iff.mpr c46
   subst c46
   rw [if_neg (show ¬ (false = true) by decide)] at H
   obtain rfl := Option.some.inj H
   go_enter Try.func6, Try.ntmps6
   go_wp2_with (first | ((with_reducible refine gX_ 10 10 rfl rfl ?_); refine goesY_ (some 10) Try.func10 #[] ?_; (with_reducible refine (vernierlaw17_shown.calls k  false _ A3.out).mono ?_); rintro e w54 ⟨rfl, hb⟩; refine ⟨_, rfl, ?_⟩; replace HB := Aside0.mk (bS3 HB.out hb); (try clear hb); (try clear hk)) | ((with_reducible refine gX_ 24 14 rfl rfl ?_); refine goesY_ (some 14) Try.func24 #[.int .i64 a0, .int .u64 a1] ?_; (with_reducible refine (flt_To32.calls k a0 a1 t622 t623 _ A4.out).mono ?_); rintro e w55 ⟨rfl, hb⟩; refine ⟨_, rfl, ?_⟩; replace HB := Aside0.mk (bS3 HB.out hb); (try clear hb); (try clear hk); (try simp only [errW_none, errW_some])) | ((with_reducible refine gX_ 17 18 rfl rfl ?_); refine goesY_ (some 18) Try.func17 #[.int .i64 a0] ?_; (with_reducible refine (vernierref05_Is.calls a0 false _ A5.out).mono ?_); rintro e w' ⟨rfl, ⟨nd, rfl⟩⟩; refine ⟨_, rfl, ?_⟩))
   go_ret
   exact ⟨eR3, bR3 HB.out⟩
def vernierlaw17_FltTo32.f (k : Nat) (a0 : Int) (a1 : Int) : Option (Bool) := (codec_Decode.f k a0 a1).bind fun bt => (if bt.1 = 2 ∧ bt.2.2.2.2.isNone = true then ((vernierlaw17_shown.f k).bind fun q1 => ((vernierref05_Is.f a0).bind fun q2 => ((vernierref06_Decode.f k a0 a1).bind fun q3 => (if q1 = true ∧ q2 = true ∧ q3.1 = 2 then some true else none)))) else (vernierlaw17_FltTo32o.f k a0 a1))
set_option maxHeartbeats 8000000 in
set_option maxRecDepth 100000 in
theorem vernierlaw17_FltTo32.callsN (k : Nat) (a0 : Int) (a1 : Int) (x1 : Bool) (x2 x3 t626 : Int) (t627 : Bool) (t628 t629 : Int) (w : World) (B0 : codec_Decode.f k a0 a1 = some (2, x1, x2, x3, none)) (B1 : vernierlaw17_shown.f k = some true) (B2 : vernierref05_Is.f a0 = some true) (B3 : vernierref06_Decode.f k a0 a1 = some (t626, t627, t628, t629)) (B4 : t626 = 2) :
  Calls Try.prog 6 #[.int .i64 a0, .int .u64 a1] w fun e w' => e = .returned (.bool true) ∧ Below w.heap.size w w' := by
 have hu42 := Try.underlying42
 have hu25 := Try.underlying25
 have hu40 := Try.underlying40
 have HB := Aside0.mk (Below.refl w.heap.size w)
 have A3 := Aside0.mk B1
 have A4 := Aside0.mk B0
 have A5 := Aside0.mk B2
 have A7 := Aside0.mk B3
 have c8b0 : (t626 == 2) = true := beq_iff_eq.mpr B4
 have c8b1 : (t626 != 2) = false := bne_eq_false_iff_eq.mpr B4
 clear B0 B1 B2 B3 B4
 go_enter Try.func6, Try.ntmps6
 go_wp2_with (first | ((with_reducible refine gX_ 10 10 rfl rfl ?_); refine goesY_ (some 10) Try.func10 #[] ?_; (with_reducible refine (vernierlaw17_shown.calls k  true _ A3.out).mono ?_); rintro e w10 ⟨rfl, hb⟩; refine ⟨_, rfl, ?_⟩; replace HB := Aside0.mk (bS3 HB.out hb); (try clear hb); (try clear hk)) | ((with_reducible refine gX_ 24 14 rfl rfl ?_); refine goesY_ (some 14) Try.func24 #[.int .i64 a0, .int .u64 a1] ?_; (with_reducible refine (flt_To32N.calls k a0 a1 x1 x2 x3 _ A4.out).mono ?_); rintro e w11 ⟨⟨v, hv, rfl⟩, hb⟩; refine ⟨_, rfl, ?_⟩; have hvv := order32_nan hv; have hvb : (FloatKind.f32.format.order v v != some .eq) = true := (by rw [hvv]; rfl); replace HB := Aside0.mk (bS3 HB.out hb); (try clear hb); (try clear hk); (try simp only [errW_none, errW_some])) | ((with_reducible refine gX_ 17 18 rfl rfl ?_); refine goesY_ (some 18) Try.func17 #[.int .i64 a0] ?_; (with_reducible refine (vernierref05_Is.calls a0 true _ A5.out).mono ?_); rintro e w' ⟨rfl, ⟨nd, rfl⟩⟩; refine ⟨_, rfl, ?_⟩; (try (rw [drewN_self w11]; generalize hq_ : World.drewN w11 _ = w11; have n0_ : Aside0 (Below w.heap.size w w11) := ⟨by rw [← hq_]; exact (bR3 HB.out)⟩; clear HB hq_; have HB := n0_; clear n0_))) | ((with_reducible refine gX_ 18 33 rfl rfl ?_); refine goesY_ (some 33) Try.func18 #[.int .i64 a0, .int .u64 a1] ?_; (with_reducible refine (vernierref06_Decode.calls k a0 a1 t626 t627 t628 t629 _ A7.out).mono ?_); rintro e w12 ⟨rfl, hb⟩; refine ⟨_, rfl, ?_⟩; replace HB := Aside0.mk (bS3 HB.out hb); (try clear hb); (try clear hk)) | ((with_reducible refine gD (N := 9) rfl ?_); refine bE3 9 #[.int .i64 0, .bool false, .int .i64 0, .int .u64 0] 42 ?hr ?_; (case hr => first | (go_simp; done) | (go_simp; rfl)); intro gb630 hg w13 hbox hb; have BK630 := Aside0.mk (hbox); have GW630 := Aside0.mk ((bZ3 hg HB.out)); have GE630 := Aside0.mk ((bZ3 hg HB.out)); replace HB := Aside0.mk (bS3 HB.out hb); clear hb hbox hg; obtain ⟨hcz14_0, hcz14_1, hcz14_2, hcz14_3, hfz14_0, hfz14_1, hfz14_2, hfz14_3⟩ := cl4 BK630.out))
 go_ret
 refine ⟨?_, bR3 HB.out⟩
 first | rfl | (simp [hvv]; done) | (simp [*]; done)
theorem vernierlaw17_FltTo32.calls (k : Nat) (a0 : Int) (a1 : Int) (r : Bool) (w : World) (h : vernierlaw17_FltTo32.f k a0 a1 = some r) :
  Calls Try.prog 6 #[.int .i64 a0, .int .u64 a1] w fun e w' => e = .returned (.bool r) ∧ Below w.heap.size w w' := by
 unfold vernierlaw17_FltTo32.f at h
 obtain ⟨⟨x0, x1, x2, x3, x4⟩, h0, ha⟩ := Option.bind_eq_some_iff.mp h
 clear h
 by_cases c : x0 = 2 ∧ x4.isNone = true
 ·
  rw [if_pos c] at ha
  obtain ⟨rfl, c2⟩ := c
  obtain rfl := Option.isNone_iff_eq_none.mp c2
  obtain ⟨q1, h1, hb⟩ := Option.bind_eq_some_iff.mp ha
  obtain ⟨q2, h2, hc⟩ := Option.bind_eq_some_iff.mp hb
  obtain ⟨⟨y0, y1, y2, y3⟩, h3, hd⟩ := Option.bind_eq_some_iff.mp hc
  clear ha hb hc
  by_cases c3 : q1 = true ∧ q2 = true ∧ y0 = 2
  ·
   rw [if_pos c3] at hd
   obtain ⟨rfl, rfl, c4⟩ := c3
   obtain rfl := Option.some.inj hd
   exact vernierlaw17_FltTo32.callsN k a0 a1 x1 x2 x3 y0 y1 y2 y3 w h0 h1 h2 h3 c4
  ·
   rw [if_neg c3] at hd; cases hd
 ·
  rw [if_neg c] at ha
  exact vernierlaw17_FltTo32o.calls k a0 a1 r w ha
/-- THE ONE PURE STATEMENT of vernierlaw17_FltTo32: yours. -/
def vernierlaw17_FltTo32.Pure : Prop := ∀ (a0 : Int) (a1 : Int), (Lit.int .i64 a0).wf = true → (Lit.int .u64 a1).wf = true → ∃ k, vernierlaw17_FltTo32.f k a0 a1 = some true
theorem vernierlaw17_FltTo32.walk (P : vernierlaw17_FltTo32.Pure) (a0 : Int) (a1 : Int) (w : World) (w0 : (Lit.int .i64 a0).wf = true) (w1 : (Lit.int .u64 a1).wf = true) :
  Calls Try.prog 6 #[.int .i64 a0, .int .u64 a1] w fun e w' => e = .returned (.bool true) ∧ Below w.heap.size w w' := by
 obtain ⟨k, h⟩ := P a0 a1 w0 w1
 refine (vernierlaw17_FltTo32.calls k a0 a1 true w h).mono ?_
 rintro e w' ⟨rfl, hd⟩
 exact ⟨rfl, hd⟩
end Go.Proofs.Ytpdpggndhmnggaa.F
