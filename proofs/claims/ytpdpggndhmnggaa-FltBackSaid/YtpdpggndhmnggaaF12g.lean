/- Functions of the given program as plain Lean functions, and for each a proof that the program's call comes to just these answers; no further conditions. (Written by a program of this repo out of the translation.) -/
import Derived.Test.YtpdpggndhmnggaaF0g
import Derived.Test.YtpdpggndhmnggaaF3g
import Derived.Test.YtpdpggndhmnggaaF7g
import Derived.Test.YtpdpggndhmnggaaF8g
import Derived.Test.YtpdpggndhmnggaaF13g
namespace Go.Proofs.Ytpdpggndhmnggaa.F
open Go.RowKit Go.Proofs.YtpdpggndhmnggaaW.PrintWords Go.Proofs.YtpdpggndhmnggaaW.PrintLast Go.Proofs.YtpdpggndhmnggaaW.PrintMore
attribute [local go_sem high] xor_u64 xor_u32 eqErr25 neErr25 eqErrL25 neErrL25
attribute [local go_sem] max2_int min2_int max_two min_two max_three min_three max_four min_four   -- for this text's walks alone
set_option linter.unusedVariables false
set_option linter.unusedSimpArgs false
def flt_From64.j0 : Nat → Int → Nat → Bool → Int → Bool → Int → Int → Int → Bool → Option (Int × Option Int)
 | 0, _, _, _, _, _, _, _, _, _ => none
 | k + 1, x0, x1, x19, x233000, x233001, x233002, x233003, x233004, x233005 => if x19 = true then ((math_Abs.f x1).bind fun t235 => ((math_Frexp.f k t235).bind fun bt236 => ((math_Ldexp.f bt236.1 53).bind fun t238 => (if (floatToIntVal .f64 t238 .u64).isSome = true then ((round_Make.f k (FloatKind.f64.format.order x1 0 == some .lt) 0 ((floatToIntVal .f64 t238 .u64).getD 0) (wrap64 (bt236.2 - 53)) false).bind fun bt239 => (if bt239.2.2.2.2.2.2.isNone = true then ((round_Round.f k x0 bt239.1 bt239.2.1 bt239.2.2.1 bt239.2.2.2.1 bt239.2.2.2.2.1 bt239.2.2.2.2.2.1).bind fun bt248 => (some (bt248.1, bt248.2))) else (some (0, some (bt239.2.2.2.2.2.2.getD 0))))) else (none))))) else ((round_Round.f k x0 x233000 x233001 x233002 x233003 x233004 x233005).bind fun bt250 => (some (bt250.1, bt250.2)))
def flt_From64.f (k : Nat) (a0 : Int) (a1 : Nat) : Option (Int × Option Int) := (math_IsNaN.f a1).bind fun t233 => (if t233 = true then (flt_From64.j0 k a0 a1 false 2 false 0 0 0 false) else ((math_IsInf.f a1 0).bind fun t234 => (flt_From64.j0 k a0 a1 (!t234) 2 false 0 0 0 false)))
set_option maxHeartbeats 8000000 in
set_option maxRecDepth 100000 in
theorem flt_From64.calls (k : Nat) (a0 : Int) (a1 : Nat) (r1 : Int) (r2 : Option Int) (w : World) (h : flt_From64.f k a0 a1 = some (r1, r2)) :
  Calls Try.prog 11 #[.int .i64 a0, .float .f64 a1] w fun e w' => e = .returned (.tuple #[.int .u64 r1, errW r2]) ∧ Below w.heap.size w w' := by
 have hu61 := Try.underlying61
 have hu25 := Try.underlying25
 have hu40 := Try.underlying40
 have HB := Aside0.mk (Below.refl w.heap.size w)
 have H : ((math_IsNaN.f a1).bind fun t233 => (if t233 = true then (flt_From64.j0 k a0 a1 false 2 false 0 0 0 false) else ((math_IsInf.f a1 0).bind fun t234 => (flt_From64.j0 k a0 a1 (!t234) 2 false 0 0 0 false)))) = some (r1, r2) := h
 clear h
 have HC3 := Aside0.mk H
 clear H
 go_enter Try.func11, Try.ntmps11
 go_upto_region 2 with (first | ((with_reducible refine gD (N := 6) rfl ?_); refine bE3 6 #[.int .i64 0, .bool false, .int .i64 0, .int .u64 0, .int .u64 0, .bool false] 61 ?hr ?_; (case hr => first | (go_simp; done) | (go_simp; rfl)); intro gb232 hg w4 hbox hb; have BK232 := Aside0.mk (hbox); have GW232 := Aside0.mk ((bZ3 hg HB.out)); have GE232 := Aside0.mk ((bZ3 hg HB.out)); replace HB := Aside0.mk (bS3 HB.out hb); clear hb hbox hg; obtain ⟨hcz5_0, hcz5_1, hcz5_2, hcz5_3, hcz5_4, hcz5_5, hfz5_0, hfz5_1, hfz5_2, hfz5_3, hfz5_4, hfz5_5⟩ := cl6 BK232.out))
 (try simp only [Act.put, lS_, lZ_, lC_])
 go_cut [19] (fun v19 wc => ∃ (kq : Nat) (x19_2 : Bool), v19 = .bool x19_2 ∧ Aside0 (flt_From64.j0 kq a0 a1 x19_2 2 false 0 0 0 false = some (r1, r2)) ∧ Aside0 (kq ≤ k) ∧ Aside0 (wc.heap[gb232]? = some (.cells #[.int .i64 2, .bool false, .int .i64 0, .int .u64 0, .int .u64 0, .bool false] 61 (0, 0))) ∧ Aside0 (Below w.heap.size w wc))
 case first =>
  have H := HC3.out
  clear HC3
  replace H := Option.bind_eq_some_iff.mp H
  obtain ⟨t233, A60, H⟩ := H
  try dsimp -simprocs only at H
  have A6 := Aside0.mk A60
  clear A60
  by_cases c7 : t233 = true
  ·
   subst c7
   rw [if_pos rfl] at H
   have H' := Aside0.mk H
   clear H
   go_wp2_with (first | ((with_reducible refine gX_ 30 13 rfl rfl ?_); refine goesY_ (some 13) Try.func30 #[.float .f64 a1] ?_; (with_reducible refine (math_IsNaN.calls a1 true _ A6.out).mono ?_); rintro e w' ⟨rfl, ⟨nd, rfl⟩⟩; refine ⟨_, rfl, ?_⟩))
   go_meet
   case rel => exact ⟨_, (false), (by first | rfl | (simp; done) | (simp [*]; done)), H', ⟨by first | omega | exact Nat.le_refl _⟩, ⟨bQ3 BK232.out⟩, ⟨bR3 HB.out⟩⟩
  ·
   replace c7 := Bool.eq_false_iff.mpr c7
   subst c7
   rw [if_neg (show ¬ (false = true) by decide)] at H
   replace H := Option.bind_eq_some_iff.mp H
   obtain ⟨t234, A80, H⟩ := H
   try dsimp -simprocs only at H
   have A8 := Aside0.mk A80
   clear A80
   have H' := Aside0.mk H
   clear H
   go_wp2_with (first | ((with_reducible refine gX_ 30 13 rfl rfl ?_); refine goesY_ (some 13) Try.func30 #[.float .f64 a1] ?_; (with_reducible refine (math_IsNaN.calls a1 false _ A6.out).mono ?_); rintro e w' ⟨rfl, ⟨nd, rfl⟩⟩; refine ⟨_, rfl, ?_⟩) | (go_at_call 31; (with_reducible refine (math_IsInf.calls a1 0 t234 _ A8.out).mono ?_); rintro e w' ⟨rfl, ⟨nd, rfl⟩⟩))
   go_meet
   case rel => exact ⟨_, (!t234), (by first | rfl | (simp; done) | (simp [*]; done)), H', ⟨by first | omega | exact Nat.le_refl _⟩, ⟨bQ3 BK232.out⟩, ⟨bR3 HB.out⟩⟩
 case rest =>
  clear HC3
  try clear c1
  try clear p2
  try clear c3
  try clear c7
  try clear hcz5_0 hcz5_1 hcz5_2 hcz5_3 hcz5_4 hcz5_5 hfz5_0 hfz5_1 hfz5_2 hfz5_3 hfz5_4 hfz5_5
  obtain ⟨kq, x19_2, rfl, HA, HJ2, BK232, HB⟩ := hcut
  cases kq with
  | zero => exact absurd HA.out (by simp [flt_From64.j0])
  | succ kj2 =>
   have H := HA.out
   clear HA
   simp only [flt_From64.j0] at H
   by_cases c9 : x19_2 = true
   ·
    subst c9
    rw [if_pos rfl] at H
    replace H := Option.bind_eq_some_iff.mp H
    obtain ⟨t235, A100, H⟩ := H
    try dsimp -simprocs only at H
    have A10 := Aside0.mk A100
    clear A100
    replace H := Option.bind_eq_some_iff.mp H
    obtain ⟨⟨t236, t237⟩, A110, H⟩ := H
    try dsimp -simprocs only at H
    have A11 := Aside0.mk A110
    clear A110
    replace H := Option.bind_eq_some_iff.mp H
    obtain ⟨t238, A120, H⟩ := H
    try dsimp -simprocs only at H
    have A12 := Aside0.mk A120
    clear A120
    by_cases c13 : (floatToIntVal .f64 t238 .u64).isSome = true
    ·
     rw [if_pos c13] at H
     have c13x0 : ∀ w_ : World, (convert 28 22 (.float .f64 t238)).run Try.prog w_ = .ok (.int .u64 ((floatToIntVal .f64 t238 .u64).getD 0)) w_ := fun w_ => run_convert_float_int w_ 28 22 .f64 .u64 t238 _ rfl Try.underlying22 (someD_ c13)
     clear c13
     replace H := Option.bind_eq_some_iff.mp H
     obtain ⟨⟨t239, t240, t241, t242, t243, t244, t245⟩, A140, H⟩ := H
     try dsimp -simprocs only at H
     have A14 := Aside0.mk A140
     clear A140
     rcases t245 with _ | q247
     ·
      rw [if_pos (show (none : Option Int).isNone = true by rfl)] at H
      try simp only [Option.getD_some] at H
      try simp only [errW_none, errW_some]
      replace H := Option.bind_eq_some_iff.mp H
      obtain ⟨⟨t248, t249⟩, A150, H⟩ := H
      try dsimp -simprocs only at H
      have A15 := Aside0.mk A150
      clear A150
      simp only [Option.some.injEq, Prod.mk.injEq] at H
      obtain ⟨rfl, rfl⟩ := H
      go_wp2_with (first | ((with_reducible refine gX_ 33 22 rfl rfl ?_); refine goesY_ (some 22) Try.func33 #[.float .f64 a1] ?_; (with_reducible refine (math_Abs.calls a1 t235 _ A10.out).mono ?_); rintro e w' ⟨rfl, ⟨nd, rfl⟩⟩; refine ⟨_, rfl, ?_⟩; (try (rw [drewN_self wc]; generalize hq_ : World.drewN wc _ = wc; have n0_ : Aside0 (wc.heap[gb232]? = some (.cells #[.int .i64 2, .bool false, .int .i64 0, .int .u64 0, .int .u64 0, .bool false] 61 (0, 0))) := ⟨by rw [← hq_]; exact (bK3 BK232.out)⟩; have n1_ : Aside0 (Below w.heap.size w wc) := ⟨by rw [← hq_]; exact (bR3 HB.out)⟩; clear BK232 HB hq_; have BK232 := n0_; have HB := n1_; clear n0_ n1_))) | ((with_reducible refine gX_ 32 23 rfl rfl ?_); refine goesY_ (some 23) Try.func32 #[.float .f64 t235] ?_; (with_reducible refine (math_Frexp.calls kj2 t235 t236 t237 _ A11.out).mono ?_); rintro e w' ⟨rfl, ⟨nd, rfl⟩⟩; refine ⟨_, rfl, ?_⟩; (try (rw [drewN_self wc]; generalize hq_ : World.drewN wc _ = wc; have n0_ : Aside0 (wc.heap[gb232]? = some (.cells #[.int .i64 2, .bool false, .int .i64 0, .int .u64 0, .int .u64 0, .bool false] 61 (0, 0))) := ⟨by rw [← hq_]; exact (bK3 BK232.out)⟩; have n1_ : Aside0 (Below w.heap.size w wc) := ⟨by rw [← hq_]; exact (bR3 HB.out)⟩; clear BK232 HB hq_; have BK232 := n0_; have HB := n1_; clear n0_ n1_))) | ((with_reducible refine gX_ 35 30 rfl rfl ?_); refine goesY_ (some 30) Try.func35 #[.float .f64 t236, .int .i64 53] ?_; (with_reducible refine (math_Ldexp.calls t236 53 t238 _ A12.out).mono ?_); rintro e w' ⟨rfl, ⟨nd, rfl⟩⟩; refine ⟨_, rfl, ?_⟩; (try (rw [drewN_self wc]; generalize hq_ : World.drewN wc _ = wc; have n0_ : Aside0 (wc.heap[gb232]? = some (.cells #[.int .i64 2, .bool false, .int .i64 0, .int .u64 0, .int .u64 0, .bool false] 61 (0, 0))) := ⟨by rw [← hq_]; exact (bK3 BK232.out)⟩; have n1_ : Aside0 (Below w.heap.size w wc) := ⟨by rw [← hq_]; exact (bR3 HB.out)⟩; clear BK232 HB hq_; have BK232 := n0_; have HB := n1_; clear n0_ n1_))) | ((with_reducible refine gX_ 34 34 rfl rfl ?_); refine goesY_ (some 34) Try.func34 #[.bool (FloatKind.f64.format.order a1 0 == some .lt), .int .u64 0, .int .u64 ((floatToIntVal .f64 t238 .u64).getD 0), .int .i64 (wrap64 (t237 - 53)), .bool false] ?_; (with_reducible refine (round_Make.calls kj2 (FloatKind.f64.format.order a1 0 == some .lt) 0 ((floatToIntVal .f64 t238 .u64).getD 0) (wrap64 (t237 - 53)) false t239 t240 t241 t242 t243 t244 none _ A14.out).mono ?_); rintro e w16 ⟨rfl, hb⟩; refine ⟨_, rfl, ?_⟩; replace BK232 := Aside0.mk (bB3 BK232.out hb); replace HB := Aside0.mk (bS3 HB.out hb); (try clear hb); (try clear hk); (try simp only [errW_none, errW_some])) | ((with_reducible refine gD (N := 9) rfl ?_); refine bE3 9 #[.int .i64 0, .bool false, .int .i64 0, .int .u64 0, .int .u64 0, .bool false] 61 ?hr ?_; (case hr => first | (go_simp; done) | (go_simp; rfl)); intro gb246 hg w17 hbox hb; have BK246 := Aside0.mk (hbox); have GW246 := Aside0.mk ((bZ3 hg HB.out)); have GE246 := Aside0.mk ((bZ3 hg HB.out)); replace HB := Aside0.mk (bS3 HB.out hb); have NB232_246 := Aside0.mk ((bL3 hg BK232.out)); have NB246_232 := Aside0.mk ((bG3 hg BK232.out)); replace BK232 := Aside0.mk (bB3 BK232.out hb); clear hb hbox hg; have hnb18 := NB246_232.out; have hnc18 := NB232_246.out; obtain ⟨hcz19_0, hcz19_1, hcz19_2, hcz19_3, hcz19_4, hcz19_5, hfz19_0, hfz19_1, hfz19_2, hfz19_3, hfz19_4, hfz19_5⟩ := cl6 BK246.out; obtain ⟨hcz20_0, hcz20_1, hcz20_2, hcz20_3, hcz20_4, hcz20_5, hfz20_0, hfz20_1, hfz20_2, hfz20_3, hfz20_4, hfz20_5⟩ := cl6 BK232.out) | ((with_reducible refine gX_ 36 43 rfl rfl ?_); refine goesY_ (some 43) Try.func36 #[.int .i64 a0, .agg #[.int .i64 t239, .bool t240, .int .i64 t241, .int .u64 t242, .int .u64 t243, .bool t244]] ?_; (with_reducible refine (round_Round.calls kj2 a0 t239 t240 t241 t242 t243 t244 t248 t249 _ A15.out).mono ?_); rintro e w21 ⟨rfl, hb⟩; refine ⟨_, rfl, ?_⟩; replace BK232 := Aside0.mk (bB (g := gb232) (o := .cells #[.int .i64 t239, .bool t240, .int .i64 t241, .int .u64 t242, .int .u64 t243, .bool t244] 61 (0, 0)) (bQ3 BK232.out) hb); replace BK246 := Aside0.mk (bB (g := gb246) (o := .cells #[.int .i64 t239, .bool t240, .int .i64 t241, .int .u64 t242, .int .u64 t243, .bool t244] 61 (0, 0)) (bQ3 BK246.out) hb); replace HB := Aside0.mk (bS3 HB.out hb); (try clear hb); (try clear hk); (try simp only [errW_none, errW_some])))
      go_ret2
      exact ⟨eR3, bR3 HB.out⟩
     ·
      rw [if_neg (show ¬ (some q247).isNone = true by simp)] at H
      try simp only [Option.getD_some] at H
      try simp only [errW_none, errW_some]
      simp only [Option.some.injEq, Prod.mk.injEq] at H
      obtain ⟨rfl, rfl⟩ := H
      go_wp2_with (first | ((with_reducible refine gX_ 33 22 rfl rfl ?_); refine goesY_ (some 22) Try.func33 #[.float .f64 a1] ?_; (with_reducible refine (math_Abs.calls a1 t235 _ A10.out).mono ?_); rintro e w' ⟨rfl, ⟨nd, rfl⟩⟩; refine ⟨_, rfl, ?_⟩; (try (rw [drewN_self wc]; generalize hq_ : World.drewN wc _ = wc; have n0_ : Aside0 (wc.heap[gb232]? = some (.cells #[.int .i64 2, .bool false, .int .i64 0, .int .u64 0, .int .u64 0, .bool false] 61 (0, 0))) := ⟨by rw [← hq_]; exact (bK3 BK232.out)⟩; have n1_ : Aside0 (Below w.heap.size w wc) := ⟨by rw [← hq_]; exact (bR3 HB.out)⟩; clear BK232 HB hq_; have BK232 := n0_; have HB := n1_; clear n0_ n1_))) | ((with_reducible refine gX_ 32 23 rfl rfl ?_); refine goesY_ (some 23) Try.func32 #[.float .f64 t235] ?_; (with_reducible refine (math_Frexp.calls kj2 t235 t236 t237 _ A11.out).mono ?_); rintro e w' ⟨rfl, ⟨nd, rfl⟩⟩; refine ⟨_, rfl, ?_⟩; (try (rw [drewN_self wc]; generalize hq_ : World.drewN wc _ = wc; have n0_ : Aside0 (wc.heap[gb232]? = some (.cells #[.int .i64 2, .bool false, .int .i64 0, .int .u64 0, .int .u64 0, .bool false] 61 (0, 0))) := ⟨by rw [← hq_]; exact (bK3 BK232.out)⟩; have n1_ : Aside0 (Below w.heap.size w wc) := ⟨by rw [← hq_]; exact (bR3 HB.out)⟩; clear BK232 HB hq_; have BK232 := n0_; have HB := n1_; clear n0_ n1_))) | ((with_reducible refine gX_ 35 30 rfl rfl ?_); refine goesY_ (some 30) Try.func35 #[.float .f64 t236, .int .i64 53] ?_; (with_reducible refine (math_Ldexp.calls t236 53 t238 _ A12.out).mono ?_); rintro e w' ⟨rfl, ⟨nd, rfl⟩⟩; refine ⟨_, rfl, ?_⟩; (try (rw [drewN_self wc]; generalize hq_ : World.drewN wc _ = wc; have n0_ : Aside0 (wc.heap[gb232]? = some (.cells #[.int .i64 2, .bool false, .int .i64 0, .int .u64 0, .int .u64 0, .bool false] 61 (0, 0))) := ⟨by rw [← hq_]; exact (bK3 BK232.out)⟩; have n1_ : Aside0 (Below w.heap.size w wc) := ⟨by rw [← hq_]; exact (bR3 HB.out)⟩; clear BK232 HB hq_; have BK232 := n0_; have HB := n1_; clear n0_ n1_))) | ((with_reducible refine gX_ 34 34 rfl rfl ?_); refine goesY_ (some 34) Try.func34 #[.bool (FloatKind.f64.format.order a1 0 == some .lt), .int .u64 0, .int .u64 ((floatToIntVal .f64 t238 .u64).getD 0), .int .i64 (wrap64 (t237 - 53)), .bool false] ?_; (with_reducible refine (round_Make.calls kj2 (FloatKind.f64.format.order a1 0 == some .lt) 0 ((floatToIntVal .f64 t238 .u64).getD 0) (wrap64 (t237 - 53)) false t239 t240 t241 t242 t243 t244 (some q247) _ A14.out).mono ?_); rintro e w22 ⟨rfl, hb⟩; refine ⟨_, rfl, ?_⟩; replace BK232 := Aside0.mk (bB3 BK232.out hb); replace HB := Aside0.mk (bS3 HB.out hb); (try clear hb); (try clear hk); (try simp only [errW_none, errW_some])) | ((with_reducible refine gD (N := 9) rfl ?_); refine bE3 9 #[.int .i64 0, .bool false, .int .i64 0, .int .u64 0, .int .u64 0, .bool false] 61 ?hr ?_; (case hr => first | (go_simp; done) | (go_simp; rfl)); intro gb246 hg w23 hbox hb; have BK246 := Aside0.mk (hbox); have GW246 := Aside0.mk ((bZ3 hg HB.out)); have GE246 := Aside0.mk ((bZ3 hg HB.out)); replace HB := Aside0.mk (bS3 HB.out hb); have NB232_246 := Aside0.mk ((bL3 hg BK232.out)); have NB246_232 := Aside0.mk ((bG3 hg BK232.out)); replace BK232 := Aside0.mk (bB3 BK232.out hb); clear hb hbox hg; have hnb24 := NB246_232.out; have hnc24 := NB232_246.out; obtain ⟨hcz25_0, hcz25_1, hcz25_2, hcz25_3, hcz25_4, hcz25_5, hfz25_0, hfz25_1, hfz25_2, hfz25_3, hfz25_4, hfz25_5⟩ := cl6 BK246.out))
      go_ret2
      exact ⟨eR3, bR3 HB.out⟩
    ·
     rw [if_neg c13] at H
     exact absurd H (by simp)
   ·
    replace c9 := Bool.eq_false_iff.mpr c9
    subst c9
    rw [if_neg (show ¬ (false = true) by decide)] at H
    replace H := Option.bind_eq_some_iff.mp H
    obtain ⟨⟨t250, t251⟩, A260, H⟩ := H
    try dsimp -simprocs only at H
    have A26 := Aside0.mk A260
    clear A260
    simp only [Option.some.injEq, Prod.mk.injEq] at H
    obtain ⟨rfl, rfl⟩ := H
    obtain ⟨hcz27_0, hcz27_1, hcz27_2, hcz27_3, hcz27_4, hcz27_5, hfz27_0, hfz27_1, hfz27_2, hfz27_3, hfz27_4, hfz27_5⟩ := cl6 BK232.out
    go_wp2_with (first | ((with_reducible refine gX_ 36 43 rfl rfl ?_); refine goesY_ (some 43) Try.func36 #[.int .i64 a0, .agg #[.int .i64 2, .bool false, .int .i64 0, .int .u64 0, .int .u64 0, .bool false]] ?_; (with_reducible refine (round_Round.calls kj2 a0 2 false 0 0 0 false t250 t251 _ A26.out).mono ?_); rintro e w28 ⟨rfl, hb⟩; refine ⟨_, rfl, ?_⟩; replace BK232 := Aside0.mk (bB3 BK232.out hb); replace HB := Aside0.mk (bS3 HB.out hb); (try clear hb); (try clear hk); (try simp only [errW_none, errW_some])))
    go_ret2
    exact ⟨eR3, bR3 HB.out⟩
def flt_cut.f (a0 : Int) (a1 : Int) : Option (Int) := if 0 ≤ (wrap64 (a1 - 1)) then (if 0 ≤ (wrap64 (64 - a1)) then (if (shl .u64 a0 (wrap64 (64 - a1))) > 9223372036854775808 then (some (IntKind.u64.wrap ((shr .u64 (a0 / 2) (wrap64 (a1 - 1))) + 1))) else (if (shl .u64 a0 (wrap64 (64 - a1))) = 9223372036854775808 then (if (Go.bits .and .u64 (shr .u64 (a0 / 2) (wrap64 (a1 - 1))) 1) = 1 then (some (IntKind.u64.wrap ((shr .u64 (a0 / 2) (wrap64 (a1 - 1))) + 1))) else (some (shr .u64 (a0 / 2) (wrap64 (a1 - 1))))) else (some (shr .u64 (a0 / 2) (wrap64 (a1 - 1)))))) else (none)) else (none)
set_option maxHeartbeats 8000000 in
set_option maxRecDepth 100000 in
theorem flt_cut.calls (a0 : Int) (a1 : Int) (r : Int) (w : World) (h : flt_cut.f a0 a1 = some r) :
  Calls Try.prog 46 #[.int .u64 a0, .int .i64 a1] w fun e w' => e = .returned (.int .u64 r) ∧ Drawn0 w w' := by
 have H : (if 0 ≤ (wrap64 (a1 - 1)) then (if 0 ≤ (wrap64 (64 - a1)) then (if (shl .u64 a0 (wrap64 (64 - a1))) > 9223372036854775808 then (some (IntKind.u64.wrap ((shr .u64 (a0 / 2) (wrap64 (a1 - 1))) + 1))) else (if (shl .u64 a0 (wrap64 (64 - a1))) = 9223372036854775808 then (if (Go.bits .and .u64 (shr .u64 (a0 / 2) (wrap64 (a1 - 1))) 1) = 1 then (some (IntKind.u64.wrap ((shr .u64 (a0 / 2) (wrap64 (a1 - 1))) + 1))) else (some (shr .u64 (a0 / 2) (wrap64 (a1 - 1))))) else (some (shr .u64 (a0 / 2) (wrap64 (a1 - 1)))))) else (none)) else (none)) = some r := h
 clear h
 obtain ⟨ji3, hji3⟩ : ∃ j_ : Int, (wrap64 (a1 - 1)) = j_ := ⟨_, rfl⟩
 replace H : (if 0 ≤ (ji3) then (if 0 ≤ (wrap64 (64 - a1)) then (if (shl .u64 a0 (wrap64 (64 - a1))) > 9223372036854775808 then (some (IntKind.u64.wrap ((shr .u64 (a0 / 2) (ji3)) + 1))) else (if (shl .u64 a0 (wrap64 (64 - a1))) = 9223372036854775808 then (if (Go.bits .and .u64 (shr .u64 (a0 / 2) (ji3)) 1) = 1 then (some (IntKind.u64.wrap ((shr .u64 (a0 / 2) (ji3)) + 1))) else (some (shr .u64 (a0 / 2) (ji3)))) else (some (shr .u64 (a0 / 2) (ji3))))) else (none)) else (none)) = some r := by first | (rw [hji3] at H; exact H) | (simp only [hji3] at H ⊢; exact H)
 have hji3w : (IntKind.i64.wrap (a1 - 1)) = ji3 := (i64_w _).trans hji3
 by_cases c4 : 0 ≤ (ji3)
 ·
  rw [if_pos c4] at H
  have c4b0 := eq_true c4
  have c4b1 : decide (0 ≤ (ji3)) = true := decide_eq_true c4
  clear c4
  obtain ⟨ji5, hji5⟩ : ∃ j_ : Int, (shr .u64 (a0 / 2) (ji3)) = j_ := ⟨_, rfl⟩
  replace H : (if 0 ≤ (wrap64 (64 - a1)) then (if (shl .u64 a0 (wrap64 (64 - a1))) > 9223372036854775808 then (some (IntKind.u64.wrap ((ji5) + 1))) else (if (shl .u64 a0 (wrap64 (64 - a1))) = 9223372036854775808 then (if (Go.bits .and .u64 (ji5) 1) = 1 then (some (IntKind.u64.wrap ((ji5) + 1))) else (some ji5)) else (some ji5))) else (none)) = some r := by first | (rw [hji5] at H; exact H) | (simp only [hji5] at H ⊢; exact H)
  have hji5_ : ((a0 / 2) / 2 ^ min (ji3).toNat 64) = ji5 := hji5
  have hji5z : (ji3) ≤ 64 → ((a0 / 2) / 2 ^ (ji3).toNat) = ji5 := shr_small hji5
  obtain ⟨ji6, hji6⟩ : ∃ j_ : Int, (wrap64 (64 - a1)) = j_ := ⟨_, rfl⟩
  replace H : (if 0 ≤ (ji6) then (if (shl .u64 a0 (ji6)) > 9223372036854775808 then (some (IntKind.u64.wrap ((ji5) + 1))) else (if (shl .u64 a0 (ji6)) = 9223372036854775808 then (if (Go.bits .and .u64 (ji5) 1) = 1 then (some (IntKind.u64.wrap ((ji5) + 1))) else (some ji5)) else (some ji5))) else (none)) = some r := by first | (rw [hji6] at H; exact H) | (simp only [hji6] at H ⊢; exact H)
  have hji6w : (IntKind.i64.wrap (64 - a1)) = ji6 := (i64_w _).trans hji6
  by_cases c7 : 0 ≤ (ji6)
  ·
   rw [if_pos c7] at H
   have c7b0 := eq_true c7
   have c7b1 : decide (0 ≤ (ji6)) = true := decide_eq_true c7
   clear c7
   obtain ⟨ji8, hji8⟩ : ∃ j_ : Int, (shl .u64 a0 (ji6)) = j_ := ⟨_, rfl⟩
   replace H : (if (ji8) > 9223372036854775808 then (some (IntKind.u64.wrap ((ji5) + 1))) else (if (ji8) = 9223372036854775808 then (if (Go.bits .and .u64 (ji5) 1) = 1 then (some (IntKind.u64.wrap ((ji5) + 1))) else (some ji5)) else (some ji5))) = some r := by first | (rw [hji8] at H; exact H) | (simp only [hji8] at H ⊢; exact H)
   have hji8_ : (IntKind.u64.wrap (a0 * 2 ^ min (ji6).toNat 64)) = ji8 := hji8
   have hji8z : (ji6) ≤ 64 → (IntKind.u64.wrap (a0 * 2 ^ (ji6).toNat)) = ji8 := shl_small hji8
   by_cases c9 : (ji8) > 9223372036854775808
   ·
    rw [if_pos c9] at H
    have c9b0 : decide (9223372036854775808 < (ji8)) = true := decide_eq_true c9
    clear c9
    obtain rfl := Option.some.inj H
    go_enter Try.func46, Try.ntmps46
    go_wp2
    repeat (go_quiet (fail); try go_wp2)
    go_ret
    exact ⟨by first | rfl | (simp; done) | (simp only [← hji3, ← hji5, ← hji6, ← hji8] <;> (first | rfl | simp)) | (simp [*]; done), by repeat (first | exact Drawn0.refl _ | apply Drawn0.step)⟩
   ·
    rw [if_neg c9] at H
    have c9b0 : decide (9223372036854775808 < (ji8)) = false := decide_eq_false c9
    clear c9
    by_cases c10 : (ji8) = 9223372036854775808
    ·
     rw [if_pos c10] at H
     have c10b0 : ((ji8) == 9223372036854775808) = true := beq_iff_eq.mpr c10
     have c10b1 : ((ji8) != 9223372036854775808) = false := bne_eq_false_iff_eq.mpr c10
     clear c10
     by_cases c11 : (Go.bits .and .u64 (ji5) 1) = 1
     ·
      rw [if_pos c11] at H
      have c11b0 : ((Go.bits .and .u64 (ji5) 1) == 1) = true := beq_iff_eq.mpr c11
      have c11b1 : ((Go.bits .and .u64 (ji5) 1) != 1) = false := bne_eq_false_iff_eq.mpr c11
      clear c11
      obtain rfl := Option.some.inj H
      go_enter Try.func46, Try.ntmps46
      go_wp2
      repeat (go_quiet (fail); try go_wp2)
      go_ret
      exact ⟨by first | rfl | (simp; done) | (simp only [← hji3, ← hji5, ← hji6, ← hji8] <;> (first | rfl | simp)) | (simp [*]; done), by repeat (first | exact Drawn0.refl _ | apply Drawn0.step)⟩
     ·
      rw [if_neg c11] at H
      have c11b0 : ((Go.bits .and .u64 (ji5) 1) == 1) = false := beq_eq_false_iff_ne.mpr c11
      have c11b1 : ((Go.bits .and .u64 (ji5) 1) != 1) = true := bne_iff_ne.mpr c11
      obtain rfl := Option.some.inj H
      go_enter Try.func46, Try.ntmps46
      go_wp2
      repeat (go_quiet (fail); try go_wp2)
      go_ret
      exact ⟨by first | rfl | (simp; done) | (simp only [← hji3, ← hji5, ← hji6, ← hji8] <;> (first | rfl | simp)) | (simp [*]; done), by repeat (first | exact Drawn0.refl _ | apply Drawn0.step)⟩
    ·
     rw [if_neg c10] at H
     have c10b0 : ((ji8) == 9223372036854775808) = false := beq_eq_false_iff_ne.mpr c10
     have c10b1 : ((ji8) != 9223372036854775808) = true := bne_iff_ne.mpr c10
     obtain rfl := Option.some.inj H
     go_enter Try.func46, Try.ntmps46
     go_wp2
     repeat (go_quiet (fail); try go_wp2)
     go_ret
     exact ⟨by first | rfl | (simp; done) | (simp only [← hji3, ← hji5, ← hji6, ← hji8] <;> (first | rfl | simp)) | (simp [*]; done), by repeat (first | exact Drawn0.refl _ | apply Drawn0.step)⟩
  ·
   rw [if_neg c7] at H
   exact absurd H (by simp)
 ·
  rw [if_neg c4] at H
  exact absurd H (by simp)
def flt_To64.f (k : Nat) (a0 : Int) (a1 : Int) : Option (Nat × Option Int) := (codec_Decode.f k a0 a1).bind fun bt296 => (if bt296.2.2.2.2.isNone = true then (if bt296.1 = 2 then ((math_NaN.f).bind fun t303 => (some (t303, none))) else (if bt296.1 = 0 then (some (0, none)) else ((flt_cut.f bt296.2.2.2.1 11).bind fun t304 => (if okF (floatOfInt .f64 t304) = true then ((math_Ldexp.f (floatOfInt .f64 t304) (wrap64 (bt296.2.2.1 - 52))).bind fun t305 => (if bt296.2.1 = true then (if okF (Op.negFloat .f64 t305) = true then (some (Op.negFloat .f64 t305, none)) else (none)) else (some (t305, none)))) else (none))))) else (some (0, some (bt296.2.2.2.2.getD 0))))
set_option maxHeartbeats 8000000 in
set_option maxRecDepth 100000 in
theorem flt_To64.calls (k : Nat) (a0 : Int) (a1 : Int) (r1 : Nat) (r2 : Option Int) (w : World) (h : flt_To64.f k a0 a1 = some (r1, r2)) :
  Calls Try.prog 16 #[.int .i64 a0, .int .u64 a1] w fun e w' => e = .returned (.tuple #[.float .f64 r1, errW r2]) ∧ Below w.heap.size w w' := by
 have hu42 := Try.underlying42
 have hu25 := Try.underlying25
 have hu40 := Try.underlying40
 have HB := Aside0.mk (Below.refl w.heap.size w)
 have H : ((codec_Decode.f k a0 a1).bind fun bt296 => (if bt296.2.2.2.2.isNone = true then (if bt296.1 = 2 then ((math_NaN.f).bind fun t303 => (some (t303, none))) else (if bt296.1 = 0 then (some (0, none)) else ((flt_cut.f bt296.2.2.2.1 11).bind fun t304 => (if okF (floatOfInt .f64 t304) = true then ((math_Ldexp.f (floatOfInt .f64 t304) (wrap64 (bt296.2.2.1 - 52))).bind fun t305 => (if bt296.2.1 = true then (if okF (Op.negFloat .f64 t305) = true then (some (Op.negFloat .f64 t305, none)) else (none)) else (some (t305, none)))) else (none))))) else (some (0, some (bt296.2.2.2.2.getD 0))))) = some (r1, r2) := h
 clear h
 replace H := Option.bind_eq_some_iff.mp H
 obtain ⟨⟨t296, t297, t298, t299, t300⟩, A30, H⟩ := H
 try dsimp -simprocs only at H
 have A3 := Aside0.mk A30
 clear A30
 rcases t300 with _ | q302
 ·
  rw [if_pos (show (none : Option Int).isNone = true by rfl)] at H
  try simp only [Option.getD_some] at H
  try simp only [errW_none, errW_some]
  by_cases c4 : t296 = 2
  ·
   rw [if_pos c4] at H
   have c4b0 : (t296 == 2) = true := beq_iff_eq.mpr c4
   have c4b1 : (t296 != 2) = false := bne_eq_false_iff_eq.mpr c4
   clear c4
   replace H := Option.bind_eq_some_iff.mp H
   obtain ⟨t303, A50, H⟩ := H
   try dsimp -simprocs only at H
   have A5 := Aside0.mk A50
   clear A50
   simp only [Option.some.injEq, Prod.mk.injEq] at H
   obtain ⟨rfl, rfl⟩ := H
   go_enter Try.func16, Try.ntmps16
   go_wp2_with (first | (go_at_call 44; (with_reducible refine (codec_Decode.calls k a0 a1 t296 t297 t298 t299 none _ A3.out).mono ?_); rintro e w6 ⟨rfl, hb⟩; replace HB := Aside0.mk (bS3 HB.out hb); (try clear hb); (try clear hk); (try simp only [errW_none, errW_some])) | ((with_reducible refine gD (N := 6) rfl ?_); refine bE3 6 #[.int .i64 0, .bool false, .int .i64 0, .int .u64 0] 42 ?hr ?_; (case hr => first | (go_simp; done) | (go_simp; rfl)); intro gb301 hg w7 hbox hb; have BK301 := Aside0.mk (hbox); have GW301 := Aside0.mk ((bZ3 hg HB.out)); have GE301 := Aside0.mk ((bZ3 hg HB.out)); replace HB := Aside0.mk (bS3 HB.out hb); clear hb hbox hg; obtain ⟨hcz8_0, hcz8_1, hcz8_2, hcz8_3, hfz8_0, hfz8_1, hfz8_2, hfz8_3⟩ := cl4 BK301.out) | (go_at_call 45; (with_reducible refine (math_NaN.calls  t303 _ A5.out).mono ?_); rintro e w' ⟨rfl, ⟨nd, rfl⟩⟩; (try first | exact ⟨rfl, _, World.drewN_drewN _ _ _⟩ | exact ⟨rfl, _, Eq.trans (World.drewN_drewN _ _ _) (congrArg (World.drewN _) (Nat.add_assoc _ _ _))⟩)))
   repeat (go_quiet (first | (go_at_call 44; (with_reducible refine (codec_Decode.calls k a0 a1 t296 t297 t298 t299 none _ A3.out).mono ?_); rintro e w6 ⟨rfl, hb⟩; replace HB := Aside0.mk (bS3 HB.out hb); (try clear hb); (try clear hk); (try simp only [errW_none, errW_some])) | ((with_reducible refine gD (N := 6) rfl ?_); refine bE3 6 #[.int .i64 0, .bool false, .int .i64 0, .int .u64 0] 42 ?hr ?_; (case hr => first | (go_simp; done) | (go_simp; rfl)); intro gb301 hg w7 hbox hb; have BK301 := Aside0.mk (hbox); have GW301 := Aside0.mk ((bZ3 hg HB.out)); have GE301 := Aside0.mk ((bZ3 hg HB.out)); replace HB := Aside0.mk (bS3 HB.out hb); clear hb hbox hg; obtain ⟨hcz8_0, hcz8_1, hcz8_2, hcz8_3, hfz8_0, hfz8_1, hfz8_2, hfz8_3⟩ := cl4 BK301.out) | (go_at_call 45; (with_reducible refine (math_NaN.calls  t303 _ A5.out).mono ?_); rintro e w' ⟨rfl, ⟨nd, rfl⟩⟩; (try first | exact ⟨rfl, _, World.drewN_drewN _ _ _⟩ | exact ⟨rfl, _, Eq.trans (World.drewN_drewN _ _ _) (congrArg (World.drewN _) (Nat.add_assoc _ _ _))⟩))); try go_wp2_with (first | (go_at_call 44; (with_reducible refine (codec_Decode.calls k a0 a1 t296 t297 t298 t299 none _ A3.out).mono ?_); rintro e w6 ⟨rfl, hb⟩; replace HB := Aside0.mk (bS3 HB.out hb); (try clear hb); (try clear hk); (try simp only [errW_none, errW_some])) | ((with_reducible refine gD (N := 6) rfl ?_); refine bE3 6 #[.int .i64 0, .bool false, .int .i64 0, .int .u64 0] 42 ?hr ?_; (case hr => first | (go_simp; done) | (go_simp; rfl)); intro gb301 hg w7 hbox hb; have BK301 := Aside0.mk (hbox); have GW301 := Aside0.mk ((bZ3 hg HB.out)); have GE301 := Aside0.mk ((bZ3 hg HB.out)); replace HB := Aside0.mk (bS3 HB.out hb); clear hb hbox hg; obtain ⟨hcz8_0, hcz8_1, hcz8_2, hcz8_3, hfz8_0, hfz8_1, hfz8_2, hfz8_3⟩ := cl4 BK301.out) | (go_at_call 45; (with_reducible refine (math_NaN.calls  t303 _ A5.out).mono ?_); rintro e w' ⟨rfl, ⟨nd, rfl⟩⟩; (try first | exact ⟨rfl, _, World.drewN_drewN _ _ _⟩ | exact ⟨rfl, _, Eq.trans (World.drewN_drewN _ _ _) (congrArg (World.drewN _) (Nat.add_assoc _ _ _))⟩))))
   go_ret2
   exact ⟨eR3, bR3 HB.out⟩
  ·
   rw [if_neg c4] at H
   have c4b0 : (t296 == 2) = false := beq_eq_false_iff_ne.mpr c4
   have c4b1 : (t296 != 2) = true := bne_iff_ne.mpr c4
   by_cases c9 : t296 = 0
   ·
    rw [if_pos c9] at H
    have c9b0 : (t296 == 0) = true := beq_iff_eq.mpr c9
    have c9b1 : (t296 != 0) = false := bne_eq_false_iff_eq.mpr c9
    clear c9
    simp only [Option.some.injEq, Prod.mk.injEq] at H
    obtain ⟨rfl, rfl⟩ := H
    go_enter Try.func16, Try.ntmps16
    go_wp2_with (first | (go_at_call 44; (with_reducible refine (codec_Decode.calls k a0 a1 t296 t297 t298 t299 none _ A3.out).mono ?_); rintro e w10 ⟨rfl, hb⟩; replace HB := Aside0.mk (bS3 HB.out hb); (try clear hb); (try clear hk); (try simp only [errW_none, errW_some])) | ((with_reducible refine gD (N := 6) rfl ?_); refine bE3 6 #[.int .i64 0, .bool false, .int .i64 0, .int .u64 0] 42 ?hr ?_; (case hr => first | (go_simp; done) | (go_simp; rfl)); intro gb301 hg w11 hbox hb; have BK301 := Aside0.mk (hbox); have GW301 := Aside0.mk ((bZ3 hg HB.out)); have GE301 := Aside0.mk ((bZ3 hg HB.out)); replace HB := Aside0.mk (bS3 HB.out hb); clear hb hbox hg; obtain ⟨hcz12_0, hcz12_1, hcz12_2, hcz12_3, hfz12_0, hfz12_1, hfz12_2, hfz12_3⟩ := cl4 BK301.out))
    repeat (go_quiet (first | (go_at_call 44; (with_reducible refine (codec_Decode.calls k a0 a1 t296 t297 t298 t299 none _ A3.out).mono ?_); rintro e w10 ⟨rfl, hb⟩; replace HB := Aside0.mk (bS3 HB.out hb); (try clear hb); (try clear hk); (try simp only [errW_none, errW_some])) | ((with_reducible refine gD (N := 6) rfl ?_); refine bE3 6 #[.int .i64 0, .bool false, .int .i64 0, .int .u64 0] 42 ?hr ?_; (case hr => first | (go_simp; done) | (go_simp; rfl)); intro gb301 hg w11 hbox hb; have BK301 := Aside0.mk (hbox); have GW301 := Aside0.mk ((bZ3 hg HB.out)); have GE301 := Aside0.mk ((bZ3 hg HB.out)); replace HB := Aside0.mk (bS3 HB.out hb); clear hb hbox hg; obtain ⟨hcz12_0, hcz12_1, hcz12_2, hcz12_3, hfz12_0, hfz12_1, hfz12_2, hfz12_3⟩ := cl4 BK301.out)); try go_wp2_with (first | (go_at_call 44; (with_reducible refine (codec_Decode.calls k a0 a1 t296 t297 t298 t299 none _ A3.out).mono ?_); rintro e w10 ⟨rfl, hb⟩; replace HB := Aside0.mk (bS3 HB.out hb); (try clear hb); (try clear hk); (try simp only [errW_none, errW_some])) | ((with_reducible refine gD (N := 6) rfl ?_); refine bE3 6 #[.int .i64 0, .bool false, .int .i64 0, .int .u64 0] 42 ?hr ?_; (case hr => first | (go_simp; done) | (go_simp; rfl)); intro gb301 hg w11 hbox hb; have BK301 := Aside0.mk (hbox); have GW301 := Aside0.mk ((bZ3 hg HB.out)); have GE301 := Aside0.mk ((bZ3 hg HB.out)); replace HB := Aside0.mk (bS3 HB.out hb); clear hb hbox hg; obtain ⟨hcz12_0, hcz12_1, hcz12_2, hcz12_3, hfz12_0, hfz12_1, hfz12_2, hfz12_3⟩ := cl4 BK301.out)))
    go_ret2
    exact ⟨eR3, bR3 HB.out⟩
   ·
    rw [if_neg c9] at H
    have c9b0 : (t296 == 0) = false := beq_eq_false_iff_ne.mpr c9
    have c9b1 : (t296 != 0) = true := bne_iff_ne.mpr c9
    replace H := Option.bind_eq_some_iff.mp H
    obtain ⟨t304, A130, H⟩ := H
    try dsimp -simprocs only at H
    have A13 := Aside0.mk A130
    clear A130
    by_cases c14 : okF (floatOfInt .f64 t304) = true
    ·
     rw [if_pos c14] at H
     have c14x0 : ∀ w_ : World, (convert 22 28 (.int .u64 t304)).run Try.prog w_ = .ok (.float .f64 (floatOfInt .f64 t304)) w_ := fun w_ => run_convert_int_float w_ 22 28 .u64 .f64 t304 rfl Try.underlying28
     clear c14
     replace H := Option.bind_eq_some_iff.mp H
     obtain ⟨t305, A150, H⟩ := H
     try dsimp -simprocs only at H
     have A15 := Aside0.mk A150
     clear A150
     by_cases c16 : t297 = true
     ·
      subst c16
      rw [if_pos rfl] at H
      by_cases c17 : okF (Op.negFloat .f64 t305) = true
      ·
       rw [if_pos c17] at H
       have c17x0 : Op.unary .neg (.float .f64 t305) = pure (.float .f64 (Op.negFloat .f64 t305)) := rfl
       clear c17
       simp only [Option.some.injEq, Prod.mk.injEq] at H
       obtain ⟨rfl, rfl⟩ := H
       go_enter Try.func16, Try.ntmps16
       go_wp2_with (first | (go_at_call 44; (with_reducible refine (codec_Decode.calls k a0 a1 t296 true t298 t299 none _ A3.out).mono ?_); rintro e w18 ⟨rfl, hb⟩; replace HB := Aside0.mk (bS3 HB.out hb); (try clear hb); (try clear hk); (try simp only [errW_none, errW_some])) | ((with_reducible refine gD (N := 6) rfl ?_); refine bE3 6 #[.int .i64 0, .bool false, .int .i64 0, .int .u64 0] 42 ?hr ?_; (case hr => first | (go_simp; done) | (go_simp; rfl)); intro gb301 hg w19 hbox hb; have BK301 := Aside0.mk (hbox); have GW301 := Aside0.mk ((bZ3 hg HB.out)); have GE301 := Aside0.mk ((bZ3 hg HB.out)); replace HB := Aside0.mk (bS3 HB.out hb); clear hb hbox hg; obtain ⟨hcz20_0, hcz20_1, hcz20_2, hcz20_3, hfz20_0, hfz20_1, hfz20_2, hfz20_3⟩ := cl4 BK301.out) | (go_at_call 46; (with_reducible refine (flt_cut.calls t299 11 t304 _ A13.out).mono ?_); rintro e w' ⟨rfl, ⟨nd, rfl⟩⟩; (try first | exact ⟨rfl, _, World.drewN_drewN _ _ _⟩ | exact ⟨rfl, _, Eq.trans (World.drewN_drewN _ _ _) (congrArg (World.drewN _) (Nat.add_assoc _ _ _))⟩)) | (go_at_call 35; (with_reducible refine (math_Ldexp.calls (floatOfInt .f64 t304) (wrap64 (t298 - 52)) t305 _ A15.out).mono ?_); rintro e w' ⟨rfl, ⟨nd, rfl⟩⟩; (try first | exact ⟨rfl, _, World.drewN_drewN _ _ _⟩ | exact ⟨rfl, _, Eq.trans (World.drewN_drewN _ _ _) (congrArg (World.drewN _) (Nat.add_assoc _ _ _))⟩)))
       repeat (go_quiet (first | (go_at_call 44; (with_reducible refine (codec_Decode.calls k a0 a1 t296 true t298 t299 none _ A3.out).mono ?_); rintro e w18 ⟨rfl, hb⟩; replace HB := Aside0.mk (bS3 HB.out hb); (try clear hb); (try clear hk); (try simp only [errW_none, errW_some])) | ((with_reducible refine gD (N := 6) rfl ?_); refine bE3 6 #[.int .i64 0, .bool false, .int .i64 0, .int .u64 0] 42 ?hr ?_; (case hr => first | (go_simp; done) | (go_simp; rfl)); intro gb301 hg w19 hbox hb; have BK301 := Aside0.mk (hbox); have GW301 := Aside0.mk ((bZ3 hg HB.out)); have GE301 := Aside0.mk ((bZ3 hg HB.out)); replace HB := Aside0.mk (bS3 HB.out hb); clear hb hbox hg; obtain ⟨hcz20_0, hcz20_1, hcz20_2, hcz20_3, hfz20_0, hfz20_1, hfz20_2, hfz20_3⟩ := cl4 BK301.out) | (go_at_call 46; (with_reducible refine (flt_cut.calls t299 11 t304 _ A13.out).mono ?_); rintro e w' ⟨rfl, ⟨nd, rfl⟩⟩; (try first | exact ⟨rfl, _, World.drewN_drewN _ _ _⟩ | exact ⟨rfl, _, Eq.trans (World.drewN_drewN _ _ _) (congrArg (World.drewN _) (Nat.add_assoc _ _ _))⟩)) | (go_at_call 35; (with_reducible refine (math_Ldexp.calls (floatOfInt .f64 t304) (wrap64 (t298 - 52)) t305 _ A15.out).mono ?_); rintro e w' ⟨rfl, ⟨nd, rfl⟩⟩; (try first | exact ⟨rfl, _, World.drewN_drewN _ _ _⟩ | exact ⟨rfl, _, Eq.trans (World.drewN_drewN _ _ _) (congrArg (World.drewN _) (Nat.add_assoc _ _ _))⟩))); try go_wp2_with (first | (go_at_call 44; (with_reducible refine (codec_Decode.calls k a0 a1 t296 true t298 t299 none _ A3.out).mono ?_); rintro e w18 ⟨rfl, hb⟩; replace HB := Aside0.mk (bS3 HB.out hb); (try clear hb); (try clear hk); (try simp only [errW_none, errW_some])) | ((with_reducible refine gD (N := 6) rfl ?_); refine bE3 6 #[.int .i64 0, .bool false, .int .i64 0, .int .u64 0] 42 ?hr ?_; (case hr => first | (go_simp; done) | (go_simp; rfl)); intro gb301 hg w19 hbox hb; have BK301 := Aside0.mk (hbox); have GW301 := Aside0.mk ((bZ3 hg HB.out)); have GE301 := Aside0.mk ((bZ3 hg HB.out)); replace HB := Aside0.mk (bS3 HB.out hb); clear hb hbox hg; obtain ⟨hcz20_0, hcz20_1, hcz20_2, hcz20_3, hfz20_0, hfz20_1, hfz20_2, hfz20_3⟩ := cl4 BK301.out) | (go_at_call 46; (with_reducible refine (flt_cut.calls t299 11 t304 _ A13.out).mono ?_); rintro e w' ⟨rfl, ⟨nd, rfl⟩⟩; (try first | exact ⟨rfl, _, World.drewN_drewN _ _ _⟩ | exact ⟨rfl, _, Eq.trans (World.drewN_drewN _ _ _) (congrArg (World.drewN _) (Nat.add_assoc _ _ _))⟩)) | (go_at_call 35; (with_reducible refine (math_Ldexp.calls (floatOfInt .f64 t304) (wrap64 (t298 - 52)) t305 _ A15.out).mono ?_); rintro e w' ⟨rfl, ⟨nd, rfl⟩⟩; (try first | exact ⟨rfl, _, World.drewN_drewN _ _ _⟩ | exact ⟨rfl, _, Eq.trans (World.drewN_drewN _ _ _) (congrArg (World.drewN _) (Nat.add_assoc _ _ _))⟩))))
       go_ret2
       exact ⟨eR3, bR3 HB.out⟩
      ·
       rw [if_neg c17] at H
       exact absurd H (by simp)
     ·
      replace c16 := Bool.eq_false_iff.mpr c16
      subst c16
      rw [if_neg (show ¬ (false = true) by decide)] at H
      simp only [Option.some.injEq, Prod.mk.injEq] at H
      obtain ⟨rfl, rfl⟩ := H
      go_enter Try.func16, Try.ntmps16
      go_wp2_with (first | (go_at_call 44; (with_reducible refine (codec_Decode.calls k a0 a1 t296 false t298 t299 none _ A3.out).mono ?_); rintro e w21 ⟨rfl, hb⟩; replace HB := Aside0.mk (bS3 HB.out hb); (try clear hb); (try clear hk); (try simp only [errW_none, errW_some])) | ((with_reducible refine gD (N := 6) rfl ?_); refine bE3 6 #[.int .i64 0, .bool false, .int .i64 0, .int .u64 0] 42 ?hr ?_; (case hr => first | (go_simp; done) | (go_simp; rfl)); intro gb301 hg w22 hbox hb; have BK301 := Aside0.mk (hbox); have GW301 := Aside0.mk ((bZ3 hg HB.out)); have GE301 := Aside0.mk ((bZ3 hg HB.out)); replace HB := Aside0.mk (bS3 HB.out hb); clear hb hbox hg; obtain ⟨hcz23_0, hcz23_1, hcz23_2, hcz23_3, hfz23_0, hfz23_1, hfz23_2, hfz23_3⟩ := cl4 BK301.out) | (go_at_call 46; (with_reducible refine (flt_cut.calls t299 11 t304 _ A13.out).mono ?_); rintro e w' ⟨rfl, ⟨nd, rfl⟩⟩; (try first | exact ⟨rfl, _, World.drewN_drewN _ _ _⟩ | exact ⟨rfl, _, Eq.trans (World.drewN_drewN _ _ _) (congrArg (World.drewN _) (Nat.add_assoc _ _ _))⟩)) | (go_at_call 35; (with_reducible refine (math_Ldexp.calls (floatOfInt .f64 t304) (wrap64 (t298 - 52)) t305 _ A15.out).mono ?_); rintro e w' ⟨rfl, ⟨nd, rfl⟩⟩; (try first | exact ⟨rfl, _, World.drewN_drewN _ _ _⟩ | exact ⟨rfl, _, Eq.trans (World.drewN_drewN _ _ _) (congrArg (World.drewN _) (Nat.add_assoc _ _ _))⟩)))
      repeat (go_quiet (first | (go_at_call 44; (with_reducible refine (codec_Decode.calls k a0 a1 t296 false t298 t299 none _ A3.out).mono ?_); rintro e w21 ⟨rfl, hb⟩; replace HB := Aside0.mk (bS3 HB.out hb); (try clear hb); (try clear hk); (try simp only [errW_none, errW_some])) | ((with_reducible refine gD (N := 6) rfl ?_); refine bE3 6 #[.int .i64 0, .bool false, .int .i64 0, .int .u64 0] 42 ?hr ?_; (case hr => first | (go_simp; done) | (go_simp; rfl)); intro gb301 hg w22 hbox hb; have BK301 := Aside0.mk (hbox); have GW301 := Aside0.mk ((bZ3 hg HB.out)); have GE301 := Aside0.mk ((bZ3 hg HB.out)); replace HB := Aside0.mk (bS3 HB.out hb); clear hb hbox hg; obtain ⟨hcz23_0, hcz23_1, hcz23_2, hcz23_3, hfz23_0, hfz23_1, hfz23_2, hfz23_3⟩ := cl4 BK301.out) | (go_at_call 46; (with_reducible refine (flt_cut.calls t299 11 t304 _ A13.out).mono ?_); rintro e w' ⟨rfl, ⟨nd, rfl⟩⟩; (try first | exact ⟨rfl, _, World.drewN_drewN _ _ _⟩ | exact ⟨rfl, _, Eq.trans (World.drewN_drewN _ _ _) (congrArg (World.drewN _) (Nat.add_assoc _ _ _))⟩)) | (go_at_call 35; (with_reducible refine (math_Ldexp.calls (floatOfInt .f64 t304) (wrap64 (t298 - 52)) t305 _ A15.out).mono ?_); rintro e w' ⟨rfl, ⟨nd, rfl⟩⟩; (try first | exact ⟨rfl, _, World.drewN_drewN _ _ _⟩ | exact ⟨rfl, _, Eq.trans (World.drewN_drewN _ _ _) (congrArg (World.drewN _) (Nat.add_assoc _ _ _))⟩))); try go_wp2_with (first | (go_at_call 44; (with_reducible refine (codec_Decode.calls k a0 a1 t296 false t298 t299 none _ A3.out).mono ?_); rintro e w21 ⟨rfl, hb⟩; replace HB := Aside0.mk (bS3 HB.out hb); (try clear hb); (try clear hk); (try simp only [errW_none, errW_some])) | ((with_reducible refine gD (N := 6) rfl ?_); refine bE3 6 #[.int .i64 0, .bool false, .int .i64 0, .int .u64 0] 42 ?hr ?_; (case hr => first | (go_simp; done) | (go_simp; rfl)); intro gb301 hg w22 hbox hb; have BK301 := Aside0.mk (hbox); have GW301 := Aside0.mk ((bZ3 hg HB.out)); have GE301 := Aside0.mk ((bZ3 hg HB.out)); replace HB := Aside0.mk (bS3 HB.out hb); clear hb hbox hg; obtain ⟨hcz23_0, hcz23_1, hcz23_2, hcz23_3, hfz23_0, hfz23_1, hfz23_2, hfz23_3⟩ := cl4 BK301.out) | (go_at_call 46; (with_reducible refine (flt_cut.calls t299 11 t304 _ A13.out).mono ?_); rintro e w' ⟨rfl, ⟨nd, rfl⟩⟩; (try first | exact ⟨rfl, _, World.drewN_drewN _ _ _⟩ | exact ⟨rfl, _, Eq.trans (World.drewN_drewN _ _ _) (congrArg (World.drewN _) (Nat.add_assoc _ _ _))⟩)) | (go_at_call 35; (with_reducible refine (math_Ldexp.calls (floatOfInt .f64 t304) (wrap64 (t298 - 52)) t305 _ A15.out).mono ?_); rintro e w' ⟨rfl, ⟨nd, rfl⟩⟩; (try first | exact ⟨rfl, _, World.drewN_drewN _ _ _⟩ | exact ⟨rfl, _, Eq.trans (World.drewN_drewN _ _ _) (congrArg (World.drewN _) (Nat.add_assoc _ _ _))⟩))))
      go_ret2
      exact ⟨eR3, bR3 HB.out⟩
    ·
     rw [if_neg c14] at H
     exact absurd H (by simp)
 ·
  rw [if_neg (show ¬ (some q302).isNone = true by simp)] at H
  try simp only [Option.getD_some] at H
  try simp only [errW_none, errW_some]
  simp only [Option.some.injEq, Prod.mk.injEq] at H
  obtain ⟨rfl, rfl⟩ := H
  go_enter Try.func16, Try.ntmps16
  go_wp2_with (first | (go_at_call 44; (with_reducible refine (codec_Decode.calls k a0 a1 t296 t297 t298 t299 (some q302) _ A3.out).mono ?_); rintro e w24 ⟨rfl, hb⟩; replace HB := Aside0.mk (bS3 HB.out hb); (try clear hb); (try clear hk); (try simp only [errW_none, errW_some])) | ((with_reducible refine gD (N := 6) rfl ?_); refine bE3 6 #[.int .i64 0, .bool false, .int .i64 0, .int .u64 0] 42 ?hr ?_; (case hr => first | (go_simp; done) | (go_simp; rfl)); intro gb301 hg w25 hbox hb; have BK301 := Aside0.mk (hbox); have GW301 := Aside0.mk ((bZ3 hg HB.out)); have GE301 := Aside0.mk ((bZ3 hg HB.out)); replace HB := Aside0.mk (bS3 HB.out hb); clear hb hbox hg; obtain ⟨hcz26_0, hcz26_1, hcz26_2, hcz26_3, hfz26_0, hfz26_1, hfz26_2, hfz26_3⟩ := cl4 BK301.out))
  repeat (go_quiet (first | (go_at_call 44; (with_reducible refine (codec_Decode.calls k a0 a1 t296 t297 t298 t299 (some q302) _ A3.out).mono ?_); rintro e w24 ⟨rfl, hb⟩; replace HB := Aside0.mk (bS3 HB.out hb); (try clear hb); (try clear hk); (try simp only [errW_none, errW_some])) | ((with_reducible refine gD (N := 6) rfl ?_); refine bE3 6 #[.int .i64 0, .bool false, .int .i64 0, .int .u64 0] 42 ?hr ?_; (case hr => first | (go_simp; done) | (go_simp; rfl)); intro gb301 hg w25 hbox hb; have BK301 := Aside0.mk (hbox); have GW301 := Aside0.mk ((bZ3 hg HB.out)); have GE301 := Aside0.mk ((bZ3 hg HB.out)); replace HB := Aside0.mk (bS3 HB.out hb); clear hb hbox hg; obtain ⟨hcz26_0, hcz26_1, hcz26_2, hcz26_3, hfz26_0, hfz26_1, hfz26_2, hfz26_3⟩ := cl4 BK301.out)); try go_wp2_with (first | (go_at_call 44; (with_reducible refine (codec_Decode.calls k a0 a1 t296 t297 t298 t299 (some q302) _ A3.out).mono ?_); rintro e w24 ⟨rfl, hb⟩; replace HB := Aside0.mk (bS3 HB.out hb); (try clear hb); (try clear hk); (try simp only [errW_none, errW_some])) | ((with_reducible refine gD (N := 6) rfl ?_); refine bE3 6 #[.int .i64 0, .bool false, .int .i64 0, .int .u64 0] 42 ?hr ?_; (case hr => first | (go_simp; done) | (go_simp; rfl)); intro gb301 hg w25 hbox hb; have BK301 := Aside0.mk (hbox); have GW301 := Aside0.mk ((bZ3 hg HB.out)); have GE301 := Aside0.mk ((bZ3 hg HB.out)); replace HB := Aside0.mk (bS3 HB.out hb); clear hb hbox hg; obtain ⟨hcz26_0, hcz26_1, hcz26_2, hcz26_3, hfz26_0, hfz26_1, hfz26_2, hfz26_3⟩ := cl4 BK301.out)))
  go_ret2
  exact ⟨eR3, bR3 HB.out⟩
def flt_To32.j0 : Nat → Int → Int → Bool → Int → Int → Option (Nat × Option Int)
 | 0, _, _, _, _, _ => none
 | k + 1, x8, x312000, x312001, x312002, x312003 => if x312002 > 127 then (if x312001 = true then ((math_Float32frombits.f (Go.bits .or .u32 2139095040 2147483648)).bind fun t314 => (some (t314, none))) else ((math_Float32frombits.f 2139095040).bind fun t315 => (some (t315, none)))) else (if x8 > 64 then (if x312001 = true then ((math_Float32frombits.f (Go.bits .or .u32 0 2147483648)).bind fun t316 => (some (t316, none))) else ((math_Float32frombits.f 0).bind fun t317 => (some (t317, none)))) else ((flt_cut.f x312003 x8).bind fun t318 => (if x312002 ≥ (-126) then (if x312001 = true then ((math_Float32frombits.f (Go.bits .or .u32 (((t318) + (((wrap64 (x312002 + 126)) % 4294967296) * 8388608)) % 4294967296) 2147483648)).bind fun t319 => (some (t319, none))) else ((math_Float32frombits.f (((t318) + (((wrap64 (x312002 + 126)) % 4294967296) * 8388608)) % 4294967296)).bind fun t320 => (some (t320, none)))) else (if x312001 = true then ((math_Float32frombits.f (Go.bits .or .u32 ((t318) % 4294967296) 2147483648)).bind fun t321 => (some (t321, none))) else ((math_Float32frombits.f ((t318) % 4294967296)).bind fun t322 => (some (t322, none)))))))
def flt_To32.f (k : Nat) (a0 : Int) (a1 : Int) : Option (Nat × Option Int) := (codec_Decode.f k a0 a1).bind fun bt306 => (if bt306.2.2.2.2.isNone = true then (if bt306.1 = 2 then ((math_NaN.f).bind fun t313 => (if (floatToFloatBits .f64 t313 .f32).isSome = true then (some ((floatToFloatBits .f64 t313 .f32).getD 0, none)) else (none))) else (if bt306.1 = 0 then (some (0, none)) else (if bt306.2.2.1 < (-126) then (flt_To32.j0 k (wrap64 (40 + (wrap64 ((-126) - bt306.2.2.1)))) bt306.1 bt306.2.1 bt306.2.2.1 bt306.2.2.2.1) else (flt_To32.j0 k 40 bt306.1 bt306.2.1 bt306.2.2.1 bt306.2.2.2.1)))) else (some (0, some (bt306.2.2.2.2.getD 0))))
set_option maxHeartbeats 8000000 in
set_option maxRecDepth 100000 in
theorem flt_To32.calls (k : Nat) (a0 : Int) (a1 : Int) (r1 : Nat) (r2 : Option Int) (w : World) (h : flt_To32.f k a0 a1 = some (r1, r2)) :
  Calls Try.prog 24 #[.int .i64 a0, .int .u64 a1] w fun e w' => e = .returned (.tuple #[.float .f32 r1, errW r2]) ∧ Below w.heap.size w w' := by
 have hu42 := Try.underlying42
 have hu25 := Try.underlying25
 have hu40 := Try.underlying40
 have HB := Aside0.mk (Below.refl w.heap.size w)
 have H : ((codec_Decode.f k a0 a1).bind fun bt306 => (if bt306.2.2.2.2.isNone = true then (if bt306.1 = 2 then ((math_NaN.f).bind fun t313 => (if (floatToFloatBits .f64 t313 .f32).isSome = true then (some ((floatToFloatBits .f64 t313 .f32).getD 0, none)) else (none))) else (if bt306.1 = 0 then (some (0, none)) else (if bt306.2.2.1 < (-126) then (flt_To32.j0 k (wrap64 (40 + (wrap64 ((-126) - bt306.2.2.1)))) bt306.1 bt306.2.1 bt306.2.2.1 bt306.2.2.2.1) else (flt_To32.j0 k 40 bt306.1 bt306.2.1 bt306.2.2.1 bt306.2.2.2.1)))) else (some (0, some (bt306.2.2.2.2.getD 0))))) = some (r1, r2) := h
 clear h
 replace H := Option.bind_eq_some_iff.mp H
 obtain ⟨⟨t306, t307, t308, t309, t310⟩, A30, H⟩ := H
 try dsimp -simprocs only at H
 have A3 := Aside0.mk A30
 clear A30
 rcases t310 with _ | q312
 ·
  rw [if_pos (show (none : Option Int).isNone = true by rfl)] at H
  try simp only [Option.getD_some] at H
  try simp only [errW_none, errW_some]
  by_cases c4 : t306 = 2
  ·
   rw [if_pos c4] at H
   have c4b0 : (t306 == 2) = true := beq_iff_eq.mpr c4
   have c4b1 : (t306 != 2) = false := bne_eq_false_iff_eq.mpr c4
   clear c4
   replace H := Option.bind_eq_some_iff.mp H
   obtain ⟨t313, A50, H⟩ := H
   try dsimp -simprocs only at H
   have A5 := Aside0.mk A50
   clear A50
   by_cases c6 : (floatToFloatBits .f64 t313 .f32).isSome = true
   ·
    rw [if_pos c6] at H
    have c6x0 : ∀ w_ : World, (convert 28 48 (.float .f64 t313)).run Try.prog w_ = .ok (.float .f32 ((floatToFloatBits .f64 t313 .f32).getD 0)) w_ := fun w_ => run_convert_float_float w_ 28 48 .f64 .f32 t313 _ rfl Try.underlying48 (someD_ c6)
    clear c6
    simp only [Option.some.injEq, Prod.mk.injEq] at H
    obtain ⟨rfl, rfl⟩ := H
    go_enter Try.func24, Try.ntmps24
    go_wp2_with (first | ((with_reducible refine gX_ 44 13 rfl rfl ?_); refine goesY_ (some 13) Try.func44 #[.int .i64 a0, .int .u64 a1] ?_; (with_reducible refine (codec_Decode.calls k a0 a1 t306 t307 t308 t309 none _ A3.out).mono ?_); rintro e w7 ⟨rfl, hb⟩; refine ⟨_, rfl, ?_⟩; replace HB := Aside0.mk (bS3 HB.out hb); (try clear hb); (try clear hk); (try simp only [errW_none, errW_some])) | ((with_reducible refine gD (N := 6) rfl ?_); refine bE3 6 #[.int .i64 0, .bool false, .int .i64 0, .int .u64 0] 42 ?hr ?_; (case hr => first | (go_simp; done) | (go_simp; rfl)); intro gb311 hg w8 hbox hb; have BK311 := Aside0.mk (hbox); have GW311 := Aside0.mk ((bZ3 hg HB.out)); have GE311 := Aside0.mk ((bZ3 hg HB.out)); replace HB := Aside0.mk (bS3 HB.out hb); clear hb hbox hg; obtain ⟨hcz9_0, hcz9_1, hcz9_2, hcz9_3, hfz9_0, hfz9_1, hfz9_2, hfz9_3⟩ := cl4 BK311.out) | ((with_reducible refine gX_ 45 24 rfl rfl ?_); refine goesY_ (some 24) Try.func45 #[] ?_; (with_reducible refine (math_NaN.calls  t313 _ A5.out).mono ?_); rintro e w' ⟨rfl, ⟨nd, rfl⟩⟩; refine ⟨_, rfl, ?_⟩))
    go_ret2
    exact ⟨eR3, bR3 HB.out⟩
   ·
    rw [if_neg c6] at H
    exact absurd H (by simp)
  ·
   rw [if_neg c4] at H
   have c4b0 : (t306 == 2) = false := beq_eq_false_iff_ne.mpr c4
   have c4b1 : (t306 != 2) = true := bne_iff_ne.mpr c4
   by_cases c10 : t306 = 0
   ·
    rw [if_pos c10] at H
    have c10b0 : (t306 == 0) = true := beq_iff_eq.mpr c10
    have c10b1 : (t306 != 0) = false := bne_eq_false_iff_eq.mpr c10
    clear c10
    simp only [Option.some.injEq, Prod.mk.injEq] at H
    obtain ⟨rfl, rfl⟩ := H
    go_enter Try.func24, Try.ntmps24
    go_wp2_with (first | ((with_reducible refine gX_ 44 13 rfl rfl ?_); refine goesY_ (some 13) Try.func44 #[.int .i64 a0, .int .u64 a1] ?_; (with_reducible refine (codec_Decode.calls k a0 a1 t306 t307 t308 t309 none _ A3.out).mono ?_); rintro e w11 ⟨rfl, hb⟩; refine ⟨_, rfl, ?_⟩; replace HB := Aside0.mk (bS3 HB.out hb); (try clear hb); (try clear hk); (try simp only [errW_none, errW_some])) | ((with_reducible refine gD (N := 6) rfl ?_); refine bE3 6 #[.int .i64 0, .bool false, .int .i64 0, .int .u64 0] 42 ?hr ?_; (case hr => first | (go_simp; done) | (go_simp; rfl)); intro gb311 hg w12 hbox hb; have BK311 := Aside0.mk (hbox); have GW311 := Aside0.mk ((bZ3 hg HB.out)); have GE311 := Aside0.mk ((bZ3 hg HB.out)); replace HB := Aside0.mk (bS3 HB.out hb); clear hb hbox hg; obtain ⟨hcz13_0, hcz13_1, hcz13_2, hcz13_3, hfz13_0, hfz13_1, hfz13_2, hfz13_3⟩ := cl4 BK311.out))
    go_ret2
    exact ⟨eR3, bR3 HB.out⟩
   ·
    rw [if_neg c10] at H
    have c10b0 : (t306 == 0) = false := beq_eq_false_iff_ne.mpr c10
    have c10b1 : (t306 != 0) = true := bne_iff_ne.mpr c10
    have HC14 := Aside0.mk H
    clear H
    go_enter Try.func24, Try.ntmps24
    go_upto_if 32 with (first | ((with_reducible refine gX_ 44 13 rfl rfl ?_); refine goesY_ (some 13) Try.func44 #[.int .i64 a0, .int .u64 a1] ?_; (with_reducible refine (codec_Decode.calls k a0 a1 t306 t307 t308 t309 none _ A3.out).mono ?_); rintro e w15 ⟨rfl, hb⟩; refine ⟨_, rfl, ?_⟩; replace HB := Aside0.mk (bS3 HB.out hb); (try clear hb); (try clear hk); (try simp only [errW_none, errW_some])) | ((with_reducible refine gD (N := 6) rfl ?_); refine bE3 6 #[.int .i64 0, .bool false, .int .i64 0, .int .u64 0] 42 ?hr ?_; (case hr => first | (go_simp; done) | (go_simp; rfl)); intro gb311 hg w16 hbox hb; have BK311 := Aside0.mk (hbox); have GW311 := Aside0.mk ((bZ3 hg HB.out)); have GE311 := Aside0.mk ((bZ3 hg HB.out)); replace HB := Aside0.mk (bS3 HB.out hb); clear hb hbox hg; obtain ⟨hcz17_0, hcz17_1, hcz17_2, hcz17_3, hfz17_0, hfz17_1, hfz17_2, hfz17_3⟩ := cl4 BK311.out))
    (try simp only [Act.put, lS_, lZ_, lC_])
    go_cut [8] (fun v8 wc => ∃ (kq : Nat) (x8_13 : Int), v8 = .int .i64 x8_13 ∧ Aside0 (flt_To32.j0 kq x8_13 t306 t307 t308 t309 = some (r1, r2)) ∧ Aside0 (kq ≤ k) ∧ Aside0 (wc.heap[gb311]? = some (.cells #[.int .i64 t306, .bool t307, .int .i64 t308, .int .u64 t309] 42 (0, 0))) ∧ Aside0 (Below w.heap.size w wc))
    case first =>
     have H := HC14.out
     clear HC14
     by_cases c18 : t308 < (-126)
     ·
      rw [if_pos c18] at H
      have c18b0 : decide (t308 < (-126)) = true := decide_eq_true c18
      clear c18
      (first | rw [c18b0] | (simp only [i64_w, i32_w]; rw [c18b0]) | skip)
      have H' := Aside0.mk H
      clear H
      obtain ⟨hcz19_0, hcz19_1, hcz19_2, hcz19_3, hfz19_0, hfz19_1, hfz19_2, hfz19_3⟩ := cl4 BK311.out
      go_wp2
      go_meet
      case rel => exact ⟨_, (wrap64 (40 + (wrap64 ((-126) - t308)))), (by first | rfl | (simp; done) | (simp [*]; done)), H', ⟨by first | omega | exact Nat.le_refl _⟩, ⟨bQ3 BK311.out⟩, ⟨bR3 HB.out⟩⟩
     ·
      rw [if_neg c18] at H
      have c18b0 : decide (t308 < (-126)) = false := decide_eq_false c18
      clear c18
      (first | rw [c18b0] | (simp only [i64_w, i32_w]; rw [c18b0]) | skip)
      have H' := Aside0.mk H
      clear H
      go_wp2
      go_meet
      case rel => exact ⟨_, (40), (by first | rfl | (simp; done) | (simp [*]; done)), H', ⟨by first | omega | exact Nat.le_refl _⟩, ⟨bQ3 BK311.out⟩, ⟨bR3 HB.out⟩⟩
    case rest =>
     clear HC14
     try clear c1
     try clear c2
     try clear p2
     try clear q3
     try clear c4
     try clear c4b0
     try clear c4b1
     try clear c6
     try clear p6
     try clear c10
     try clear c10b0
     try clear c10b1
     try clear c18
     try clear c18b0
     try clear hcz13_0 hcz13_1 hcz13_2 hcz13_3
     try clear hcz17_0 hcz17_1 hcz17_2 hcz17_3
     try clear hcz19_0 hcz19_1 hcz19_2 hcz19_3
     try clear hcz9_0 hcz9_1 hcz9_2 hcz9_3
     try clear hfz13_0 hfz13_1 hfz13_2 hfz13_3
     try clear hfz17_0 hfz17_1 hfz17_2 hfz17_3
     try clear hfz19_0 hfz19_1 hfz19_2 hfz19_3
     try clear hfz9_0 hfz9_1 hfz9_2 hfz9_3
     try clear q312
     obtain ⟨kq, x8_13, rfl, HA, HJ13, BK311, HB⟩ := hcut
     cases kq with
     | zero => exact absurd HA.out (by simp [flt_To32.j0])
     | succ kj13 =>
      have H := HA.out
      clear HA
      simp only [flt_To32.j0] at H
      by_cases c20 : t308 > 127
      ·
       rw [if_pos c20] at H
       have c20b0 : decide (127 < t308) = true := decide_eq_true c20
       clear c20
       by_cases c21 : t307 = true
       ·
        subst c21
        rw [if_pos rfl] at H
        replace H := Option.bind_eq_some_iff.mp H
        obtain ⟨t314, A220, H⟩ := H
        try dsimp -simprocs only at H
        have A22 := Aside0.mk A220
        clear A220
        simp only [Option.some.injEq, Prod.mk.injEq] at H
        obtain ⟨rfl, rfl⟩ := H
        obtain ⟨hcz23_0, hcz23_1, hcz23_2, hcz23_3, hfz23_0, hfz23_1, hfz23_2, hfz23_3⟩ := cl4 BK311.out
        go_wp2_with (first | ((with_reducible refine gC (f := 22) rfl ?_); (with_reducible refine gD (N := 65) rfl ?_); refine goesX_ (some 65) #[.int .u32 (Go.bits .or .u32 2139095040 2147483648)] ?_; (with_reducible refine (math_Float32frombits.calls (Go.bits .or .u32 2139095040 2147483648) t314 _ A22.out).mono ?_); rintro e w' ⟨rfl, rfl⟩; refine ⟨_, rfl, ?_⟩))
        go_ret2
        exact ⟨eR3, bR3 HB.out⟩
       ·
        replace c21 := Bool.eq_false_iff.mpr c21
        subst c21
        rw [if_neg (show ¬ (false = true) by decide)] at H
        replace H := Option.bind_eq_some_iff.mp H
        obtain ⟨t315, A240, H⟩ := H
        try dsimp -simprocs only at H
        have A24 := Aside0.mk A240
        clear A240
        simp only [Option.some.injEq, Prod.mk.injEq] at H
        obtain ⟨rfl, rfl⟩ := H
        obtain ⟨hcz25_0, hcz25_1, hcz25_2, hcz25_3, hfz25_0, hfz25_1, hfz25_2, hfz25_3⟩ := cl4 BK311.out
        go_wp2_with (first | ((with_reducible refine gC (f := 22) rfl ?_); (with_reducible refine gD (N := 65) rfl ?_); refine goesX_ (some 65) #[.int .u32 2139095040] ?_; (with_reducible refine (math_Float32frombits.calls 2139095040 t315 _ A24.out).mono ?_); rintro e w' ⟨rfl, rfl⟩; refine ⟨_, rfl, ?_⟩))
        go_ret2
        exact ⟨eR3, bR3 HB.out⟩
      ·
       rw [if_neg c20] at H
       have c20b0 : decide (127 < t308) = false := decide_eq_false c20
       clear c20
       by_cases c26 : x8_13 > 64
       ·
        rw [if_pos c26] at H
        have c26b0 : decide (64 < x8_13) = true := decide_eq_true c26
        clear c26
        by_cases c27 : t307 = true
        ·
         subst c27
         rw [if_pos rfl] at H
         replace H := Option.bind_eq_some_iff.mp H
         obtain ⟨t316, A280, H⟩ := H
         try dsimp -simprocs only at H
         have A28 := Aside0.mk A280
         clear A280
         simp only [Option.some.injEq, Prod.mk.injEq] at H
         obtain ⟨rfl, rfl⟩ := H
         obtain ⟨hcz29_0, hcz29_1, hcz29_2, hcz29_3, hfz29_0, hfz29_1, hfz29_2, hfz29_3⟩ := cl4 BK311.out
         go_wp2_with (first | ((with_reducible refine gC (f := 22) rfl ?_); (with_reducible refine gD (N := 65) rfl ?_); refine goesX_ (some 65) #[.int .u32 (Go.bits .or .u32 0 2147483648)] ?_; (with_reducible refine (math_Float32frombits.calls (Go.bits .or .u32 0 2147483648) t316 _ A28.out).mono ?_); rintro e w' ⟨rfl, rfl⟩; refine ⟨_, rfl, ?_⟩))
         go_ret2
         exact ⟨eR3, bR3 HB.out⟩
        ·
         replace c27 := Bool.eq_false_iff.mpr c27
         subst c27
         rw [if_neg (show ¬ (false = true) by decide)] at H
         replace H := Option.bind_eq_some_iff.mp H
         obtain ⟨t317, A300, H⟩ := H
         try dsimp -simprocs only at H
         have A30 := Aside0.mk A300
         clear A300
         simp only [Option.some.injEq, Prod.mk.injEq] at H
         obtain ⟨rfl, rfl⟩ := H
         obtain ⟨hcz31_0, hcz31_1, hcz31_2, hcz31_3, hfz31_0, hfz31_1, hfz31_2, hfz31_3⟩ := cl4 BK311.out
         go_wp2_with (first | ((with_reducible refine gC (f := 22) rfl ?_); (with_reducible refine gD (N := 65) rfl ?_); refine goesX_ (some 65) #[.int .u32 0] ?_; (with_reducible refine (math_Float32frombits.calls 0 t317 _ A30.out).mono ?_); rintro e w' ⟨rfl, rfl⟩; refine ⟨_, rfl, ?_⟩))
         go_ret2
         exact ⟨eR3, bR3 HB.out⟩
       ·
        rw [if_neg c26] at H
        have c26b0 : decide (64 < x8_13) = false := decide_eq_false c26
        clear c26
        replace H := Option.bind_eq_some_iff.mp H
        obtain ⟨t318, A320, H⟩ := H
        try dsimp -simprocs only at H
        have A32 := Aside0.mk A320
        clear A320
        by_cases c33 : t308 ≥ (-126)
        ·
         rw [if_pos c33] at H
         have c33b0 : decide ((-126) ≤ t308) = true := decide_eq_true c33
         clear c33
         by_cases c34 : t307 = true
         ·
          subst c34
          rw [if_pos rfl] at H
          replace H := Option.bind_eq_some_iff.mp H
          obtain ⟨t319, A350, H⟩ := H
          try dsimp -simprocs only at H
          have A35 := Aside0.mk A350
          clear A350
          simp only [Option.some.injEq, Prod.mk.injEq] at H
          obtain ⟨rfl, rfl⟩ := H
          obtain ⟨hcz36_0, hcz36_1, hcz36_2, hcz36_3, hfz36_0, hfz36_1, hfz36_2, hfz36_3⟩ := cl4 BK311.out
          go_wp2_with (first | ((with_reducible refine gX_ 46 41 rfl rfl ?_); refine goesY_ (some 41) Try.func46 #[.int .u64 t309, .int .i64 x8_13] ?_; (with_reducible refine (flt_cut.calls t309 x8_13 t318 _ A32.out).mono ?_); rintro e w' ⟨rfl, ⟨nd, rfl⟩⟩; refine ⟨_, rfl, ?_⟩) | ((with_reducible refine gC (f := 22) rfl ?_); (with_reducible refine gD (N := 65) rfl ?_); refine goesX_ (some 65) #[.int .u32 (Go.bits .or .u32 (((t318) + (((wrap64 (t308 + 126)) % 4294967296) * 8388608)) % 4294967296) 2147483648)] ?_; (with_reducible refine (math_Float32frombits.calls (Go.bits .or .u32 (((t318) + (((wrap64 (t308 + 126)) % 4294967296) * 8388608)) % 4294967296) 2147483648) t319 _ A35.out).mono ?_); rintro e w' ⟨rfl, rfl⟩; refine ⟨_, rfl, ?_⟩))
          go_ret2
          exact ⟨eR3, bR3 HB.out⟩
         ·
          replace c34 := Bool.eq_false_iff.mpr c34
          subst c34
          rw [if_neg (show ¬ (false = true) by decide)] at H
          replace H := Option.bind_eq_some_iff.mp H
          obtain ⟨t320, A370, H⟩ := H
          try dsimp -simprocs only at H
          have A37 := Aside0.mk A370
          clear A370
          simp only [Option.some.injEq, Prod.mk.injEq] at H
          obtain ⟨rfl, rfl⟩ := H
          obtain ⟨hcz38_0, hcz38_1, hcz38_2, hcz38_3, hfz38_0, hfz38_1, hfz38_2, hfz38_3⟩ := cl4 BK311.out
          go_wp2_with (first | ((with_reducible refine gX_ 46 41 rfl rfl ?_); refine goesY_ (some 41) Try.func46 #[.int .u64 t309, .int .i64 x8_13] ?_; (with_reducible refine (flt_cut.calls t309 x8_13 t318 _ A32.out).mono ?_); rintro e w' ⟨rfl, ⟨nd, rfl⟩⟩; refine ⟨_, rfl, ?_⟩) | ((with_reducible refine gC (f := 22) rfl ?_); (with_reducible refine gD (N := 65) rfl ?_); refine goesX_ (some 65) #[.int .u32 ((t318 % 4294967296 + wrap64 (t308 + 126) % 4294967296 * 8388608 % 4294967296) % 4294967296)] ?_; rw [show ((t318 % 4294967296 + wrap64 (t308 + 126) % 4294967296 * 8388608 % 4294967296) % 4294967296 : Int) = (((t318) + (((wrap64 (t308 + 126)) % 4294967296) * 8388608)) % 4294967296) from by omega]; (with_reducible refine (math_Float32frombits.calls (((t318) + (((wrap64 (t308 + 126)) % 4294967296) * 8388608)) % 4294967296) t320 _ A37.out).mono ?_); rintro e w' ⟨rfl, rfl⟩; refine ⟨_, rfl, ?_⟩))
          go_ret2
          exact ⟨eR3, bR3 HB.out⟩
        ·
         rw [if_neg c33] at H
         have c33b0 : decide ((-126) ≤ t308) = false := decide_eq_false c33
         clear c33
         by_cases c39 : t307 = true
         ·
          subst c39
          rw [if_pos rfl] at H
          replace H := Option.bind_eq_some_iff.mp H
          obtain ⟨t321, A400, H⟩ := H
          try dsimp -simprocs only at H
          have A40 := Aside0.mk A400
          clear A400
          simp only [Option.some.injEq, Prod.mk.injEq] at H
          obtain ⟨rfl, rfl⟩ := H
          obtain ⟨hcz41_0, hcz41_1, hcz41_2, hcz41_3, hfz41_0, hfz41_1, hfz41_2, hfz41_3⟩ := cl4 BK311.out
          go_wp2_with (first | ((with_reducible refine gX_ 46 41 rfl rfl ?_); refine goesY_ (some 41) Try.func46 #[.int .u64 t309, .int .i64 x8_13] ?_; (with_reducible refine (flt_cut.calls t309 x8_13 t318 _ A32.out).mono ?_); rintro e w' ⟨rfl, ⟨nd, rfl⟩⟩; refine ⟨_, rfl, ?_⟩) | ((with_reducible refine gC (f := 22) rfl ?_); (with_reducible refine gD (N := 65) rfl ?_); refine goesX_ (some 65) #[.int .u32 (Go.bits .or .u32 ((t318) % 4294967296) 2147483648)] ?_; (with_reducible refine (math_Float32frombits.calls (Go.bits .or .u32 ((t318) % 4294967296) 2147483648) t321 _ A40.out).mono ?_); rintro e w' ⟨rfl, rfl⟩; refine ⟨_, rfl, ?_⟩))
          go_ret2
          exact ⟨eR3, bR3 HB.out⟩
         ·
          replace c39 := Bool.eq_false_iff.mpr c39
          subst c39
          rw [if_neg (show ¬ (false = true) by decide)] at H
          replace H := Option.bind_eq_some_iff.mp H
          obtain ⟨t322, A420, H⟩ := H
          try dsimp -simprocs only at H
          have A42 := Aside0.mk A420
          clear A420
          simp only [Option.some.injEq, Prod.mk.injEq] at H
          obtain ⟨rfl, rfl⟩ := H
          obtain ⟨hcz43_0, hcz43_1, hcz43_2, hcz43_3, hfz43_0, hfz43_1, hfz43_2, hfz43_3⟩ := cl4 BK311.out
          go_wp2_with (first | ((with_reducible refine gX_ 46 41 rfl rfl ?_); refine goesY_ (some 41) Try.func46 #[.int .u64 t309, .int .i64 x8_13] ?_; (with_reducible refine (flt_cut.calls t309 x8_13 t318 _ A32.out).mono ?_); rintro e w' ⟨rfl, ⟨nd, rfl⟩⟩; refine ⟨_, rfl, ?_⟩) | ((with_reducible refine gC (f := 22) rfl ?_); (with_reducible refine gD (N := 65) rfl ?_); refine goesX_ (some 65) #[.int .u32 ((t318) % 4294967296)] ?_; (with_reducible refine (math_Float32frombits.calls ((t318) % 4294967296) t322 _ A42.out).mono ?_); rintro e w' ⟨rfl, rfl⟩; refine ⟨_, rfl, ?_⟩))
          go_ret2
          exact ⟨eR3, bR3 HB.out⟩
 ·
  rw [if_neg (show ¬ (some q312).isNone = true by simp)] at H
  try simp only [Option.getD_some] at H
  try simp only [errW_none, errW_some]
  simp only [Option.some.injEq, Prod.mk.injEq] at H
  obtain ⟨rfl, rfl⟩ := H
  go_enter Try.func24, Try.ntmps24
  go_wp2_with (first | ((with_reducible refine gX_ 44 13 rfl rfl ?_); refine goesY_ (some 13) Try.func44 #[.int .i64 a0, .int .u64 a1] ?_; (with_reducible refine (codec_Decode.calls k a0 a1 t306 t307 t308 t309 (some q312) _ A3.out).mono ?_); rintro e w44 ⟨rfl, hb⟩; refine ⟨_, rfl, ?_⟩; replace HB := Aside0.mk (bS3 HB.out hb); (try clear hb); (try clear hk); (try simp only [errW_none, errW_some])) | ((with_reducible refine gD (N := 6) rfl ?_); refine bE3 6 #[.int .i64 0, .bool false, .int .i64 0, .int .u64 0] 42 ?hr ?_; (case hr => first | (go_simp; done) | (go_simp; rfl)); intro gb311 hg w45 hbox hb; have BK311 := Aside0.mk (hbox); have GW311 := Aside0.mk ((bZ3 hg HB.out)); have GE311 := Aside0.mk ((bZ3 hg HB.out)); replace HB := Aside0.mk (bS3 HB.out hb); clear hb hbox hg; obtain ⟨hcz46_0, hcz46_1, hcz46_2, hcz46_3, hfz46_0, hfz46_1, hfz46_2, hfz46_3⟩ := cl4 BK311.out))
  go_ret2
  exact ⟨eR3, bR3 HB.out⟩
def flt_From32.f (k : Nat) (a0 : Int) (a1 : Nat) : Option (Int × Option Int) := if (floatToFloatBits .f32 a1 .f64).isSome = true then ((flt_From64.f k a0 ((floatToFloatBits .f32 a1 .f64).getD 0)).bind fun bt609 => (some (bt609.1, bt609.2))) else (none)
set_option maxHeartbeats 8000000 in
set_option maxRecDepth 100000 in
theorem flt_From32.calls (k : Nat) (a0 : Int) (a1 : Nat) (r1 : Int) (r2 : Option Int) (w : World) (h : flt_From32.f k a0 a1 = some (r1, r2)) :
  Calls Try.prog 21 #[.int .i64 a0, .float .f32 a1] w fun e w' => e = .returned (.tuple #[.int .u64 r1, errW r2]) ∧ Below w.heap.size w w' := by
 have HB := Aside0.mk (Below.refl w.heap.size w)
 have H : (if (floatToFloatBits .f32 a1 .f64).isSome = true then ((flt_From64.f k a0 ((floatToFloatBits .f32 a1 .f64).getD 0)).bind fun bt609 => (some (bt609.1, bt609.2))) else (none)) = some (r1, r2) := h
 clear h
 by_cases c3 : (floatToFloatBits .f32 a1 .f64).isSome = true
 ·
  rw [if_pos c3] at H
  have c3x0 : ∀ w_ : World, (convert 48 28 (.float .f32 a1)).run Try.prog w_ = .ok (.float .f64 ((floatToFloatBits .f32 a1 .f64).getD 0)) w_ := fun w_ => run_convert_float_float w_ 48 28 .f32 .f64 a1 _ rfl Try.underlying28 (someD_ c3)
  clear c3
  replace H := Option.bind_eq_some_iff.mp H
  obtain ⟨⟨t609, t610⟩, A40, H⟩ := H
  try dsimp -simprocs only at H
  have A4 := Aside0.mk A40
  clear A40
  simp only [Option.some.injEq, Prod.mk.injEq] at H
  obtain ⟨rfl, rfl⟩ := H
  go_enter Try.func21, Try.ntmps21
  go_wp2_with (first | ((with_reducible refine gX_ 11 9 rfl rfl ?_); refine goesY_ (some 9) Try.func11 #[.int .i64 a0, .float .f64 ((floatToFloatBits .f32 a1 .f64).getD 0)] ?_; (with_reducible refine (flt_From64.calls k a0 ((floatToFloatBits .f32 a1 .f64).getD 0) t609 t610 _ A4.out).mono ?_); rintro e w5 ⟨rfl, hb⟩; refine ⟨_, rfl, ?_⟩; replace HB := Aside0.mk (bS3 HB.out hb); (try clear hb); (try clear hk); (try simp only [errW_none, errW_some])))
  go_ret2
  exact ⟨eR3, bR3 HB.out⟩
 ·
  rw [if_neg c3] at H
  exact absurd H (by simp)
end Go.Proofs.Ytpdpggndhmnggaa.F
