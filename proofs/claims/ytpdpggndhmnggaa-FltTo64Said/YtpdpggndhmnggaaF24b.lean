/- Functions of the given program as plain Lean functions, and for each a proof that the program's call comes to just these answers; no further conditions. (Written by a program of this repo out of the translation.) -/
import Derived.Test.YtpdpggndhmnggaaF0b
import Derived.Test.YtpdpggndhmnggaaF3b
import Derived.Test.YtpdpggndhmnggaaF12b
import Derived.Test.YtpdpggndhmnggaaF14b
import Derived.Test.YtpdpggndhmnggaaF15b
import Derived.Test.YtpdpggndhmnggaaF16b
import Derived.Test.YtpdpggndhmnggaaF20b
namespace Go.Proofs.Ytpdpggndhmnggaa.F
open Go.RowKit Go.Proofs.YtpdpggndhmnggaaW.PrintWords Go.Proofs.YtpdpggndhmnggaaW.PrintLast Go.Proofs.YtpdpggndhmnggaaW.PrintMore
attribute [local go_sem high] xor_u64 xor_u32 eqErr25 neErr25 eqErrL25 neErrL25
attribute [local go_sem] max2_int min2_int max_two min_two max_three min_three max_four min_four   -- for this text's walks alone
set_option linter.unusedVariables false
set_option linter.unusedSimpArgs false
def vernierlaw17_FltTo64.f (k : Nat) (a0 : Int) (a1 : Int) : Option (Bool) := (vernierlaw17_shown.f k).bind fun t593 => ((flt_To64.f k a0 a1).bind fun bt594 => ((vernierref05_Is.f a0).bind fun t596 => (if t596 = true then ((vernierref06_Decode.f k a0 a1).bind fun bt598 => (if bt598.1 = 2 then (if t593 = true then (if bt594.2.isNone = true then (some (FloatKind.f64.format.order bt594.1 bt594.1 != some .eq)) else (some false)) else (some false)) else (if t593 = true then (if bt594.2.isNone = true then ((math_Float64bits.f bt594.1).bind fun t605 => ((vernierref17_Long.f).bind fun bt606 => ((vernierref17_Form_To.f k bt606.1 bt606.2 a0 a1).bind fun t608 => (some (t605 == t608))))) else (some false)) else (some false)))) else (if t593 = true then (if (FloatKind.f64.format.order bt594.1 0 == some .eq) = true then (if bt594.2.isNone = true then (some false) else (some ((bt594.2.getD 0) == 2))) else (some false)) else (some false)))))
set_option maxHeartbeats 8000000 in
set_option maxRecDepth 100000 in
theorem vernierlaw17_FltTo64.calls (k : Nat) (a0 : Int) (a1 : Int) (r : Bool) (w : World) (h : vernierlaw17_FltTo64.f k a0 a1 = some r) :
  Calls Try.prog 4 #[.int .i64 a0, .int .u64 a1] w fun e w' => e = .returned (.bool r) ∧ Below w.heap.size w w' := by
 have hu42 := Try.underlying42
 have hu25 := Try.underlying25
 have hu40 := Try.underlying40
 have HB := Aside0.mk (Below.refl w.heap.size w)
 have H : ((vernierlaw17_shown.f k).bind fun t593 => ((flt_To64.f k a0 a1).bind fun bt594 => ((vernierref05_Is.f a0).bind fun t596 => (if t596 = true then ((vernierref06_Decode.f k a0 a1).bind fun bt598 => (if bt598.1 = 2 then (if t593 = true then (if bt594.2.isNone = true then (some (FloatKind.f64.format.order bt594.1 bt594.1 != some .eq)) else (some false)) else (some false)) else (if t593 = true then (if bt594.2.isNone = true then ((math_Float64bits.f bt594.1).bind fun t605 => ((vernierref17_Long.f).bind fun bt606 => ((vernierref17_Form_To.f k bt606.1 bt606.2 a0 a1).bind fun t608 => (some (t605 == t608))))) else (some false)) else (some false)))) else (if t593 = true then (if (FloatKind.f64.format.order bt594.1 0 == some .eq) = true then (if bt594.2.isNone = true then (some false) else (some ((bt594.2.getD 0) == 2))) else (some false)) else (some false)))))) = some r := h
 clear h
 replace H := Option.bind_eq_some_iff.mp H
 obtain ⟨t593, A30, H⟩ := H
 try dsimp -simprocs only at H
 have A3 := Aside0.mk A30
 clear A30
 replace H := Option.bind_eq_some_iff.mp H
 obtain ⟨⟨t594, t595⟩, A40, H⟩ := H
 try dsimp -simprocs only at H
 have A4 := Aside0.mk A40
 clear A40
 replace H := Option.bind_eq_some_iff.mp H
 obtain ⟨t596, A50, H⟩ := H
 try dsimp -simprocs only at H
 have A5 := Aside0.mk A50
 clear A50
 by_cases c6 : t596 = true
 ·
  subst c6
  rw [if_pos rfl] at H
  replace H := Option.bind_eq_some_iff.mp H
  obtain ⟨⟨t598, t599, t600, t601⟩, A70, H⟩ := H
  try dsimp -simprocs only at H
  have A7 := Aside0.mk A70
  clear A70
  by_cases c8 : t598 = 2
  ·
   rw [if_pos c8] at H
   have c8b0 : (t598 == 2) = true := beq_iff_eq.mpr c8
   have c8b1 : (t598 != 2) = false := bne_eq_false_iff_eq.mpr c8
   clear c8
   by_cases c9 : t593 = true
   ·
    subst c9
    rw [if_pos rfl] at H
    rcases t595 with _ | q603
    ·
     rw [if_pos (show (none : Option Int).isNone = true by rfl)] at H
     try simp only [Option.getD_some] at H
     try simp only [errW_none, errW_some]
     obtain rfl := Option.some.inj H
     go_enter Try.func4, Try.ntmps4
     go_wp2_with (first | ((with_reducible refine gX_ 10 10 rfl rfl ?_); refine goesY_ (some 10) Try.func10 #[] ?_; (with_reducible refine (vernierlaw17_shown.calls k  true _ A3.out).mono ?_); rintro e w10 ⟨rfl, hb⟩; refine ⟨_, rfl, ?_⟩; replace HB := Aside0.mk (bS3 HB.out hb); (try clear hb); (try clear hk)) | ((with_reducible refine gX_ 16 14 rfl rfl ?_); refine goesY_ (some 14) Try.func16 #[.int .i64 a0, .int .u64 a1] ?_; (with_reducible refine (flt_To64.calls k a0 a1 t594 none _ A4.out).mono ?_); rintro e w11 ⟨rfl, hb⟩; refine ⟨_, rfl, ?_⟩; replace HB := Aside0.mk (bS3 HB.out hb); (try clear hb); (try clear hk); (try simp only [errW_none, errW_some])) | ((with_reducible refine gX_ 17 18 rfl rfl ?_); refine goesY_ (some 18) Try.func17 #[.int .i64 a0] ?_; (with_reducible refine (vernierref05_Is.calls a0 true _ A5.out).mono ?_); rintro e w' ⟨rfl, ⟨nd, rfl⟩⟩; refine ⟨_, rfl, ?_⟩; (try (rw [drewN_self w11]; generalize hq_ : World.drewN w11 _ = w11; have n0_ : Aside0 (Below w.heap.size w w11) := ⟨by rw [← hq_]; exact (bR3 HB.out)⟩; clear HB hq_; have HB := n0_; clear n0_))) | ((with_reducible refine gX_ 18 33 rfl rfl ?_); refine goesY_ (some 33) Try.func18 #[.int .i64 a0, .int .u64 a1] ?_; (with_reducible refine (vernierref06_Decode.calls k a0 a1 t598 t599 t600 t601 _ A7.out).mono ?_); rintro e w12 ⟨rfl, hb⟩; refine ⟨_, rfl, ?_⟩; replace HB := Aside0.mk (bS3 HB.out hb); (try clear hb); (try clear hk)) | ((with_reducible refine gD (N := 9) rfl ?_); refine bE3 9 #[.int .i64 0, .bool false, .int .i64 0, .int .u64 0] 42 ?hr ?_; (case hr => first | (go_simp; done) | (go_simp; rfl)); intro gb602 hg w13 hbox hb; have BK602 := Aside0.mk (hbox); have GW602 := Aside0.mk ((bZ3 hg HB.out)); have GE602 := Aside0.mk ((bZ3 hg HB.out)); replace HB := Aside0.mk (bS3 HB.out hb); clear hb hbox hg; obtain ⟨hcz14_0, hcz14_1, hcz14_2, hcz14_3, hfz14_0, hfz14_1, hfz14_2, hfz14_3⟩ := cl4 BK602.out))
     go_ret
     exact ⟨eR3, bR3 HB.out⟩
    ·
     rw [if_neg (show ¬ (some q603).isNone = true by simp)] at H
     try simp only [Option.getD_some] at H
     try simp only [errW_none, errW_some]
     obtain rfl := Option.some.inj H
     go_enter Try.func4, Try.ntmps4
     go_wp2_with (first | ((with_reducible refine gX_ 10 10 rfl rfl ?_); refine goesY_ (some 10) Try.func10 #[] ?_; (with_reducible refine (vernierlaw17_shown.calls k  true _ A3.out).mono ?_); rintro e w15 ⟨rfl, hb⟩; refine ⟨_, rfl, ?_⟩; replace HB := Aside0.mk (bS3 HB.out hb); (try clear hb); (try clear hk)) | ((with_reducible refine gX_ 16 14 rfl rfl ?_); refine goesY_ (some 14) Try.func16 #[.int .i64 a0, .int .u64 a1] ?_; (with_reducible refine (flt_To64.calls k a0 a1 t594 (some q603) _ A4.out).mono ?_); rintro e w16 ⟨rfl, hb⟩; refine ⟨_, rfl, ?_⟩; replace HB := Aside0.mk (bS3 HB.out hb); (try clear hb); (try clear hk); (try simp only [errW_none, errW_some])) | ((with_reducible refine gX_ 17 18 rfl rfl ?_); refine goesY_ (some 18) Try.func17 #[.int .i64 a0] ?_; (with_reducible refine (vernierref05_Is.calls a0 true _ A5.out).mono ?_); rintro e w' ⟨rfl, ⟨nd, rfl⟩⟩; refine ⟨_, rfl, ?_⟩; (try (rw [drewN_self w16]; generalize hq_ : World.drewN w16 _ = w16; have n0_ : Aside0 (Below w.heap.size w w16) := ⟨by rw [← hq_]; exact (bR3 HB.out)⟩; clear HB hq_; have HB := n0_; clear n0_))) | ((with_reducible refine gX_ 18 33 rfl rfl ?_); refine goesY_ (some 33) Try.func18 #[.int .i64 a0, .int .u64 a1] ?_; (with_reducible refine (vernierref06_Decode.calls k a0 a1 t598 t599 t600 t601 _ A7.out).mono ?_); rintro e w17 ⟨rfl, hb⟩; refine ⟨_, rfl, ?_⟩; replace HB := Aside0.mk (bS3 HB.out hb); (try clear hb); (try clear hk)) | ((with_reducible refine gD (N := 9) rfl ?_); refine bE3 9 #[.int .i64 0, .bool false, .int .i64 0, .int .u64 0] 42 ?hr ?_; (case hr => first | (go_simp; done) | (go_simp; rfl)); intro gb602 hg w18 hbox hb; have BK602 := Aside0.mk (hbox); have GW602 := Aside0.mk ((bZ3 hg HB.out)); have GE602 := Aside0.mk ((bZ3 hg HB.out)); replace HB := Aside0.mk (bS3 HB.out hb); clear hb hbox hg; obtain ⟨hcz19_0, hcz19_1, hcz19_2, hcz19_3, hfz19_0, hfz19_1, hfz19_2, hfz19_3⟩ := cl4 BK602.out))
     go_ret
     exact ⟨eR3, bR3 HB.out⟩
   ·
    replace c9 := Bool.eq_false_iff.mpr c9
    subst c9
    rw [if_neg (show ¬ (false = true) by decide)] at H
    obtain rfl := Option.some.inj H
    go_enter Try.func4, Try.ntmps4
    go_wp2_with (first | ((with_reducible refine gX_ 10 10 rfl rfl ?_); refine goesY_ (some 10) Try.func10 #[] ?_; (with_reducible refine (vernierlaw17_shown.calls k  false _ A3.out).mono ?_); rintro e w20 ⟨rfl, hb⟩; refine ⟨_, rfl, ?_⟩; replace HB := Aside0.mk (bS3 HB.out hb); (try clear hb); (try clear hk)) | ((with_reducible refine gX_ 16 14 rfl rfl ?_); refine goesY_ (some 14) Try.func16 #[.int .i64 a0, .int .u64 a1] ?_; (with_reducible refine (flt_To64.calls k a0 a1 t594 t595 _ A4.out).mono ?_); rintro e w21 ⟨rfl, hb⟩; refine ⟨_, rfl, ?_⟩; replace HB := Aside0.mk (bS3 HB.out hb); (try clear hb); (try clear hk); (try simp only [errW_none, errW_some])) | ((with_reducible refine gX_ 17 18 rfl rfl ?_); refine goesY_ (some 18) Try.func17 #[.int .i64 a0] ?_; (with_reducible refine (vernierref05_Is.calls a0 true _ A5.out).mono ?_); rintro e w' ⟨rfl, ⟨nd, rfl⟩⟩; refine ⟨_, rfl, ?_⟩; (try (rw [drewN_self w21]; generalize hq_ : World.drewN w21 _ = w21; have n0_ : Aside0 (Below w.heap.size w w21) := ⟨by rw [← hq_]; exact (bR3 HB.out)⟩; clear HB hq_; have HB := n0_; clear n0_))) | ((with_reducible refine gX_ 18 33 rfl rfl ?_); refine goesY_ (some 33) Try.func18 #[.int .i64 a0, .int .u64 a1] ?_; (with_reducible refine (vernierref06_Decode.calls k a0 a1 t598 t599 t600 t601 _ A7.out).mono ?_); rintro e w22 ⟨rfl, hb⟩; refine ⟨_, rfl, ?_⟩; replace HB := Aside0.mk (bS3 HB.out hb); (try clear hb); (try clear hk)) | ((with_reducible refine gD (N := 9) rfl ?_); refine bE3 9 #[.int .i64 0, .bool false, .int .i64 0, .int .u64 0] 42 ?hr ?_; (case hr => first | (go_simp; done) | (go_simp; rfl)); intro gb602 hg w23 hbox hb; have BK602 := Aside0.mk (hbox); have GW602 := Aside0.mk ((bZ3 hg HB.out)); have GE602 := Aside0.mk ((bZ3 hg HB.out)); replace HB := Aside0.mk (bS3 HB.out hb); clear hb hbox hg; obtain ⟨hcz24_0, hcz24_1, hcz24_2, hcz24_3, hfz24_0, hfz24_1, hfz24_2, hfz24_3⟩ := cl4 BK602.out))
    go_ret
    exact ⟨eR3, bR3 HB.out⟩
  ·
   rw [if_neg c8] at H
   have c8b0 : (t598 == 2) = false := beq_eq_false_iff_ne.mpr c8
   have c8b1 : (t598 != 2) = true := bne_iff_ne.mpr c8
   by_cases c25 : t593 = true
   ·
    subst c25
    rw [if_pos rfl] at H
    rcases t595 with _ | q604
    ·
     rw [if_pos (show (none : Option Int).isNone = true by rfl)] at H
     try simp only [Option.getD_some] at H
     try simp only [errW_none, errW_some]
     replace H := Option.bind_eq_some_iff.mp H
     obtain ⟨t605, A260, H⟩ := H
     try dsimp -simprocs only at H
     have A26 := Aside0.mk A260
     clear A260
     replace H := Option.bind_eq_some_iff.mp H
     obtain ⟨⟨t606, t607⟩, A270, H⟩ := H
     try dsimp -simprocs only at H
     have A27 := Aside0.mk A270
     clear A270
     replace H := Option.bind_eq_some_iff.mp H
     obtain ⟨t608, A280, H⟩ := H
     try dsimp -simprocs only at H
     have A28 := Aside0.mk A280
     clear A280
     obtain rfl := Option.some.inj H
     go_enter Try.func4, Try.ntmps4
     go_wp2_with (first | ((with_reducible refine gX_ 10 10 rfl rfl ?_); refine goesY_ (some 10) Try.func10 #[] ?_; (with_reducible refine (vernierlaw17_shown.calls k  true _ A3.out).mono ?_); rintro e w29 ⟨rfl, hb⟩; refine ⟨_, rfl, ?_⟩; replace HB := Aside0.mk (bS3 HB.out hb); (try clear hb); (try clear hk)) | ((with_reducible refine gX_ 16 14 rfl rfl ?_); refine goesY_ (some 14) Try.func16 #[.int .i64 a0, .int .u64 a1] ?_; (with_reducible refine (flt_To64.calls k a0 a1 t594 none _ A4.out).mono ?_); rintro e w30 ⟨rfl, hb⟩; refine ⟨_, rfl, ?_⟩; replace HB := Aside0.mk (bS3 HB.out hb); (try clear hb); (try clear hk); (try simp only [errW_none, errW_some])) | ((with_reducible refine gX_ 17 18 rfl rfl ?_); refine goesY_ (some 18) Try.func17 #[.int .i64 a0] ?_; (with_reducible refine (vernierref05_Is.calls a0 true _ A5.out).mono ?_); rintro e w' ⟨rfl, ⟨nd, rfl⟩⟩; refine ⟨_, rfl, ?_⟩; (try (rw [drewN_self w30]; generalize hq_ : World.drewN w30 _ = w30; have n0_ : Aside0 (Below w.heap.size w w30) := ⟨by rw [← hq_]; exact (bR3 HB.out)⟩; clear HB hq_; have HB := n0_; clear n0_))) | ((with_reducible refine gX_ 18 33 rfl rfl ?_); refine goesY_ (some 33) Try.func18 #[.int .i64 a0, .int .u64 a1] ?_; (with_reducible refine (vernierref06_Decode.calls k a0 a1 t598 t599 t600 t601 _ A7.out).mono ?_); rintro e w31 ⟨rfl, hb⟩; refine ⟨_, rfl, ?_⟩; replace HB := Aside0.mk (bS3 HB.out hb); (try clear hb); (try clear hk)) | ((with_reducible refine gD (N := 9) rfl ?_); refine bE3 9 #[.int .i64 0, .bool false, .int .i64 0, .int .u64 0] 42 ?hr ?_; (case hr => first | (go_simp; done) | (go_simp; rfl)); intro gb602 hg w32 hbox hb; have BK602 := Aside0.mk (hbox); have GW602 := Aside0.mk ((bZ3 hg HB.out)); have GE602 := Aside0.mk ((bZ3 hg HB.out)); replace HB := Aside0.mk (bS3 HB.out hb); clear hb hbox hg; obtain ⟨hcz33_0, hcz33_1, hcz33_2, hcz33_3, hfz33_0, hfz33_1, hfz33_2, hfz33_3⟩ := cl4 BK602.out) | ((with_reducible refine gate_callee (f := 19) rfl ?_); (try (refine gate_guard (by rfl) ?_; dsimp only)); refine goesX_ _ #[.float .f64 t594] ?_; (with_reducible refine (math_Float64bits.calls t594 t605 _ A26.out).mono ?_); rintro e w' ⟨rfl, rfl⟩; refine ⟨_, rfl, ?_⟩) | (go_at_call 13; (with_reducible refine (vernierref17_Long.calls  t606 t607 _ A27.out).mono ?_); rintro e w34 ⟨rfl, hb⟩; replace BK602 := Aside0.mk (bB (g := gb602) (o := .cells #[.int .i64 t598, .bool t599, .int .i64 t600, .int .u64 t601] 42 (0, 0)) (bQ3 BK602.out) hb); replace HB := Aside0.mk (bS3 HB.out hb); (try clear hb); (try clear hk)) | (go_at_call 20; (with_reducible refine (vernierref17_Form_To.calls k t606 t607 a0 a1 t608 _ A28.out).mono ?_); rintro e w35 ⟨rfl, hb⟩; replace BK602 := Aside0.mk (bB3 BK602.out hb); replace HB := Aside0.mk (bS3 HB.out hb); (try clear hb); (try clear hk)))
     go_ret
     exact ⟨eR3, bR3 HB.out⟩
    ·
     rw [if_neg (show ¬ (some q604).isNone = true by simp)] at H
     try simp only [Option.getD_some] at H
     try simp only [errW_none, errW_some]
     obtain rfl := Option.some.inj H
     go_enter Try.func4, Try.ntmps4
     go_wp2_with (first | ((with_reducible refine gX_ 10 10 rfl rfl ?_); refine goesY_ (some 10) Try.func10 #[] ?_; (with_reducible refine (vernierlaw17_shown.calls k  true _ A3.out).mono ?_); rintro e w36 ⟨rfl, hb⟩; refine ⟨_, rfl, ?_⟩; replace HB := Aside0.mk (bS3 HB.out hb); (try clear hb); (try clear hk)) | ((with_reducible refine gX_ 16 14 rfl rfl ?_); refine goesY_ (some 14) Try.func16 #[.int .i64 a0, .int .u64 a1] ?_; (with_reducible refine (flt_To64.calls k a0 a1 t594 (some q604) _ A4.out).mono ?_); rintro e w37 ⟨rfl, hb⟩; refine ⟨_, rfl, ?_⟩; replace HB := Aside0.mk (bS3 HB.out hb); (try clear hb); (try clear hk); (try simp only [errW_none, errW_some])) | ((with_reducible refine gX_ 17 18 rfl rfl ?_); refine goesY_ (some 18) Try.func17 #[.int .i64 a0] ?_; (with_reducible refine (vernierref05_Is.calls a0 true _ A5.out).mono ?_); rintro e w' ⟨rfl, ⟨nd, rfl⟩⟩; refine ⟨_, rfl, ?_⟩; (try (rw [drewN_self w37]; generalize hq_ : World.drewN w37 _ = w37; have n0_ : Aside0 (Below w.heap.size w w37) := ⟨by rw [← hq_]; exact (bR3 HB.out)⟩; clear HB hq_; have HB := n0_; clear n0_))) | ((with_reducible refine gX_ 18 33 rfl rfl ?_); refine goesY_ (some 33) Try.func18 #[.int .i64 a0, .int .u64 a1] ?_; (with_reducible refine (vernierref06_Decode.calls k a0 a1 t598 t599 t600 t601 _ A7.out).mono ?_); rintro e w38 ⟨rfl, hb⟩; refine ⟨_, rfl, ?_⟩; replace HB := Aside0.mk (bS3 HB.out hb); (try clear hb); (try clear hk)) | ((with_reducible refine gD (N := 9) rfl ?_); refine bE3 9 #[.int .i64 0, .bool false, .int .i64 0, .int .u64 0] 42 ?hr ?_; (case hr => first | (go_simp; done) | (go_simp; rfl)); intro gb602 hg w39 hbox hb; have BK602 := Aside0.mk (hbox); have GW602 := Aside0.mk ((bZ3 hg HB.out)); have GE602 := Aside0.mk ((bZ3 hg HB.out)); replace HB := Aside0.mk (bS3 HB.out hb); clear hb hbox hg; obtain ⟨hcz40_0, hcz40_1, hcz40_2, hcz40_3, hfz40_0, hfz40_1, hfz40_2, hfz40_3⟩ := cl4 BK602.out))
     go_ret
     exact ⟨eR3, bR3 HB.out⟩
   ·
    replace c25 := Bool.eq_false_iff.mpr c25
    subst c25
    rw [if_neg (show ¬ (false = true) by decide)] at H
    obtain rfl := Option.some.inj H
    go_enter Try.func4, Try.ntmps4
    go_wp2_with (first | ((with_reducible refine gX_ 10 10 rfl rfl ?_); refine goesY_ (some 10) Try.func10 #[] ?_; (with_reducible refine (vernierlaw17_shown.calls k  false _ A3.out).mono ?_); rintro e w41 ⟨rfl, hb⟩; refine ⟨_, rfl, ?_⟩; replace HB := Aside0.mk (bS3 HB.out hb); (try clear hb); (try clear hk)) | ((with_reducible refine gX_ 16 14 rfl rfl ?_); refine goesY_ (some 14) Try.func16 #[.int .i64 a0, .int .u64 a1] ?_; (with_reducible refine (flt_To64.calls k a0 a1 t594 t595 _ A4.out).mono ?_); rintro e w42 ⟨rfl, hb⟩; refine ⟨_, rfl, ?_⟩; replace HB := Aside0.mk (bS3 HB.out hb); (try clear hb); (try clear hk); (try simp only [errW_none, errW_some])) | ((with_reducible refine gX_ 17 18 rfl rfl ?_); refine goesY_ (some 18) Try.func17 #[.int .i64 a0] ?_; (with_reducible refine (vernierref05_Is.calls a0 true _ A5.out).mono ?_); rintro e w' ⟨rfl, ⟨nd, rfl⟩⟩; refine ⟨_, rfl, ?_⟩; (try (rw [drewN_self w42]; generalize hq_ : World.drewN w42 _ = w42; have n0_ : Aside0 (Below w.heap.size w w42) := ⟨by rw [← hq_]; exact (bR3 HB.out)⟩; clear HB hq_; have HB := n0_; clear n0_))) | ((with_reducible refine gX_ 18 33 rfl rfl ?_); refine goesY_ (some 33) Try.func18 #[.int .i64 a0, .int .u64 a1] ?_; (with_reducible refine (vernierref06_Decode.calls k a0 a1 t598 t599 t600 t601 _ A7.out).mono ?_); rintro e w43 ⟨rfl, hb⟩; refine ⟨_, rfl, ?_⟩; replace HB := Aside0.mk (bS3 HB.out hb); (try clear hb); (try clear hk)) | ((with_reducible refine gD (N := 9) rfl ?_); refine bE3 9 #[.int .i64 0, .bool false, .int .i64 0, .int .u64 0] 42 ?hr ?_; (case hr => first | (go_simp; done) | (go_simp; rfl)); intro gb602 hg w44 hbox hb; have BK602 := Aside0.mk (hbox); have GW602 := Aside0.mk ((bZ3 hg HB.out)); have GE602 := Aside0.mk ((bZ3 hg HB.out)); replace HB := Aside0.mk (bS3 HB.out hb); clear hb hbox hg; obtain ⟨hcz45_0, hcz45_1, hcz45_2, hcz45_3, hfz45_0, hfz45_1, hfz45_2, hfz45_3⟩ := cl4 BK602.out))
    go_ret
    exact ⟨eR3, bR3 HB.out⟩
 ·
  replace c6 := Bool.eq_false_iff.mpr c6
  subst c6
  rw [if_neg (show ¬ (false = true) by decide)] at H
  by_cases c46 : t593 = true
  ·
   subst c46
   rw [if_pos rfl] at H
   by_cases c47 : (FloatKind.f64.format.order t594 0 == some .eq) = true
   ·
    rw [if_pos c47] at H
    have c47b0 : (FloatKind.f64.format.order t594 0 == some .eq) = true := c47
    (try (have c47b1 : decide (FloatKind.f64.format.order t594 0 = some .eq) = true := by simpa using c47))
    (try (have c47b2 : (FloatKind.f64.format.order t594 0 == some .eq) = true := by simpa using c47))
    clear c47
    rcases t595 with _ | q597
    ·
     rw [if_pos (show (none : Option Int).isNone = true by rfl)] at H
     try simp only [Option.getD_some] at H
     try simp only [errW_none, errW_some]
     obtain rfl := Option.some.inj H
     go_enter Try.func4, Try.ntmps4
     go_wp2_with (first | ((with_reducible refine gX_ 10 10 rfl rfl ?_); refine goesY_ (some 10) Try.func10 #[] ?_; (with_reducible refine (vernierlaw17_shown.calls k  true _ A3.out).mono ?_); rintro e w48 ⟨rfl, hb⟩; refine ⟨_, rfl, ?_⟩; replace HB := Aside0.mk (bS3 HB.out hb); (try clear hb); (try clear hk)) | ((with_reducible refine gX_ 16 14 rfl rfl ?_); refine goesY_ (some 14) Try.func16 #[.int .i64 a0, .int .u64 a1] ?_; (with_reducible refine (flt_To64.calls k a0 a1 t594 none _ A4.out).mono ?_); rintro e w49 ⟨rfl, hb⟩; refine ⟨_, rfl, ?_⟩; replace HB := Aside0.mk (bS3 HB.out hb); (try clear hb); (try clear hk); (try simp only [errW_none, errW_some])) | ((with_reducible refine gX_ 17 18 rfl rfl ?_); refine goesY_ (some 18) Try.func17 #[.int .i64 a0] ?_; (with_reducible refine (vernierref05_Is.calls a0 false _ A5.out).mono ?_); rintro e w' ⟨rfl, ⟨nd, rfl⟩⟩; refine ⟨_, rfl, ?_⟩))
     go_ret
     exact ⟨eR3, bR3 HB.out⟩
    ·
     rw [if_neg (show ¬ (some q597).isNone = true by simp)] at H
     try simp only [Option.getD_some] at H
     try simp only [errW_none, errW_some]
     obtain rfl := Option.some.inj H
     go_enter Try.func4, Try.ntmps4
     go_wp2_with (first | ((with_reducible refine gX_ 10 10 rfl rfl ?_); refine goesY_ (some 10) Try.func10 #[] ?_; (with_reducible refine (vernierlaw17_shown.calls k  true _ A3.out).mono ?_); rintro e w50 ⟨rfl, hb⟩; refine ⟨_, rfl, ?_⟩; replace HB := Aside0.mk (bS3 HB.out hb); (try clear hb); (try clear hk)) | ((with_reducible refine gX_ 16 14 rfl rfl ?_); refine goesY_ (some 14) Try.func16 #[.int .i64 a0, .int .u64 a1] ?_; (with_reducible refine (flt_To64.calls k a0 a1 t594 (some q597) _ A4.out).mono ?_); rintro e w51 ⟨rfl, hb⟩; refine ⟨_, rfl, ?_⟩; replace HB := Aside0.mk (bS3 HB.out hb); (try clear hb); (try clear hk); (try simp only [errW_none, errW_some])) | ((with_reducible refine gX_ 17 18 rfl rfl ?_); refine goesY_ (some 18) Try.func17 #[.int .i64 a0] ?_; (with_reducible refine (vernierref05_Is.calls a0 false _ A5.out).mono ?_); rintro e w' ⟨rfl, ⟨nd, rfl⟩⟩; refine ⟨_, rfl, ?_⟩))
     go_ret
     exact ⟨eR3, bR3 HB.out⟩
   ·
    rw [if_neg c47] at H
    have c47b0 : (FloatKind.f64.format.order t594 0 == some .eq) = false := by simpa using c47
    (try (have c47b1 : decide (FloatKind.f64.format.order t594 0 = some .eq) = false := by simpa using c47))
    (try (have c47b2 : (FloatKind.f64.format.order t594 0 == some .eq) = false := by simpa using c47))
    (try (have c47b3 : ¬ (FloatKind.f64.format.order t594 0 = some .eq) := by simpa using c47))
    clear c47
    obtain rfl := Option.some.inj H
    go_enter Try.func4, Try.ntmps4
    go_wp2_with (first | ((with_reducible refine gX_ 10 10 rfl rfl ?_); refine goesY_ (some 10) Try.func10 #[] ?_; (with_reducible refine (vernierlaw17_shown.calls k  true _ A3.out).mono ?_); rintro e w52 ⟨rfl, hb⟩; refine ⟨_, rfl, ?_⟩; replace HB := Aside0.mk (bS3 HB.out hb); (try clear hb); (try clear hk)) | ((with_reducible refine gX_ 16 14 rfl rfl ?_); refine goesY_ (some 14) Try.func16 #[.int .i64 a0, .int .u64 a1] ?_; (with_reducible refine (flt_To64.calls k a0 a1 t594 t595 _ A4.out).mono ?_); rintro e w53 ⟨rfl, hb⟩; refine ⟨_, rfl, ?_⟩; replace HB := Aside0.mk (bS3 HB.out hb); (try clear hb); (try clear hk); (try simp only [errW_none, errW_some])) | ((with_reducible refine gX_ 17 18 rfl rfl ?_); refine goesY_ (some 18) Try.func17 #[.int .i64 a0] ?_; (with_reducible refine (vernierref05_Is.calls a0 false _ A5.out).mono ?_); rintro e w' ⟨rfl, ⟨nd, rfl⟩⟩; refine ⟨_, rfl, ?_⟩))
    go_ret
    exact ⟨eR3, bR3 HB.out⟩
  ·
   replace c46 := Bool.eq_false_iff.mpr c46
   subst c46
   rw [if_neg (show ¬ (false = true) by decide)] at H
   obtain rfl := Option.some.inj H
   go_enter Try.func4, Try.ntmps4
   go_wp2_with (first | ((with_reducible refine gX_ 10 10 rfl rfl ?_); refine goesY_ (some 10) Try.func10 #[] ?_; (with_reducible refine (vernierlaw17_shown.calls k  false _ A3.out).mono ?_); rintro e w54 ⟨rfl, hb⟩; refine ⟨_, rfl, ?_⟩; replace HB := Aside0.mk (bS3 HB.out hb); (try clear hb); (try clear hk)) | ((with_reducible refine gX_ 16 14 rfl rfl ?_); refine goesY_ (some 14) Try.func16 #[.int .i64 a0, .int .u64 a1] ?_; (with_reducible refine (flt_To64.calls k a0 a1 t594 t595 _ A4.out).mono ?_); rintro e w55 ⟨rfl, hb⟩; refine ⟨_, rfl, ?_⟩; replace HB := Aside0.mk (bS3 HB.out hb); (try clear hb); (try clear hk); (try simp only [errW_none, errW_some])) | ((with_reducible refine gX_ 17 18 rfl rfl ?_); refine goesY_ (some 18) Try.func17 #[.int .i64 a0] ?_; (with_reducible refine (vernierref05_Is.calls a0 false _ A5.out).mono ?_); rintro e w' ⟨rfl, ⟨nd, rfl⟩⟩; refine ⟨_, rfl, ?_⟩))
   go_ret
   exact ⟨eR3, bR3 HB.out⟩
/-- THE ONE PURE STATEMENT of vernierlaw17_FltTo64: yours. -/
def vernierlaw17_FltTo64.Pure : Prop := ∀ (a0 : Int) (a1 : Int), (Lit.int .i64 a0).wf = true → (Lit.int .u64 a1).wf = true → ∃ k, vernierlaw17_FltTo64.f k a0 a1 = some true
theorem vernierlaw17_FltTo64.walk (P : vernierlaw17_FltTo64.Pure) (a0 : Int) (a1 : Int) (w : World) (w0 : (Lit.int .i64 a0).wf = true) (w1 : (Lit.int .u64 a1).wf = true) :
  Calls Try.prog 4 #[.int .i64 a0, .int .u64 a1] w fun e w' => e = .returned (.bool true) ∧ Below w.heap.size w w' := by
 obtain ⟨k, h⟩ := P a0 a1 w0 w1
 refine (vernierlaw17_FltTo64.calls k a0 a1 true w h).mono ?_
 rintro e w' ⟨rfl, hd⟩
 exact ⟨rfl, hd⟩
end Go.Proofs.Ytpdpggndhmnggaa.F
