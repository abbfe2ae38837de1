/- Functions of the given program as plain Lean functions, and for each a proof that the program's call comes to just these answers; no further conditions. (Written by a program of this repo out of the translation.) -/
import Derived.Test.YtogldofffdiflaaF0b
import Derived.Test.YtogldofffdiflaaF1b
import Derived.Test.YtogldofffdiflaaF8b
namespace Go.Proofs.Ytogldofffdiflaa.F
open Go.RowKit Go.Proofs.YtogldofffdiflaaW.PrintWords Go.Proofs.YtogldofffdiflaaW.PrintLast Go.Proofs.YtogldofffdiflaaW.PrintMore
attribute [local go_sem high] xor_u64 xor_u32 eqErr25 neErr25 eqErrL25 neErrL25
attribute [local go_sem] max2_int min2_int max_two min_two max_three min_three max_four min_four   -- for this text's walks alone
set_option linter.unusedVariables false
set_option linter.unusedSimpArgs false
attribute [local go_sem high] eqA33
def vernierlaw05_up.f  : Option (Bool) := (shape_Of.f 8).bind fun bt139 => ((shape_Pattern.f 8 (-1)).bind fun bt146 => (if bt139.2.2.2.2.2.isNone = true then (if bt146.2.isNone = true then (if (bt139.1 == 8 && (bt139.2.1 == 127 && (bt139.2.2.1 == 1 && (bt139.2.2.2.1 == 128 && (bt139.2.2.2.2.1 == 24))))) = true then (some (bt146.1 == 255)) else (some false)) else (some false)) else (some false)))
set_option maxHeartbeats 8000000 in
set_option maxRecDepth 100000 in
theorem vernierlaw05_up.calls  (r : Bool) (w : World) (h : vernierlaw05_up.f  = some r) :
  Calls Try.prog 9 #[] w fun e w' => e = .returned (.bool r) ∧ Below w.heap.size w w' := by
 have hu33 := Try.underlying33
 have hu25 := Try.underlying25
 have hu45 := Try.underlying45
 have HB := Aside0.mk (Below.refl w.heap.size w)
 have H : ((shape_Of.f 8).bind fun bt139 => ((shape_Pattern.f 8 (-1)).bind fun bt146 => (if bt139.2.2.2.2.2.isNone = true then (if bt146.2.isNone = true then (if (bt139.1 == 8 && (bt139.2.1 == 127 && (bt139.2.2.1 == 1 && (bt139.2.2.2.1 == 128 && (bt139.2.2.2.2.1 == 24))))) = true then (some (bt146.1 == 255)) else (some false)) else (some false)) else (some false)))) = some r := h
 clear h
 replace H := Option.bind_eq_some_iff.mp H
 obtain ⟨⟨t139, t140, t141, t142, t143, t144⟩, A10, H⟩ := H
 try dsimp -simprocs only at H
 have A1 := Aside0.mk A10
 clear A10
 replace H := Option.bind_eq_some_iff.mp H
 obtain ⟨⟨t146, t147⟩, A20, H⟩ := H
 try dsimp -simprocs only at H
 have A2 := Aside0.mk A20
 clear A20
 rcases t144 with _ | q148
 ·
  rw [if_pos (show (none : Option Int).isNone = true by rfl)] at H
  try simp only [Option.getD_some] at H
  try simp only [errW_none, errW_some]
  rcases t147 with _ | q149
  ·
   rw [if_pos (show (none : Option Int).isNone = true by rfl)] at H
   try simp only [Option.getD_some] at H
   try simp only [errW_none, errW_some]
   by_cases c3 : (t139 == 8 && (t140 == 127 && (t141 == 1 && (t142 == 128 && (t143 == 24))))) = true
   ·
    rw [if_pos c3] at H
    have c3b0 : (t139 == 8 && (t140 == 127 && (t141 == 1 && (t142 == 128 && (t143 == 24))))) = true := c3
    (try (have c3b1 : decide (t139 = 8 && (t140 == 127 && (t141 == 1 && (t142 == 128 && (t143 == 24))))) = true := by simpa using c3))
    (try (have c3b2 : (t139 == 8 && (t140 == 127 && (t141 == 1 && (t142 == 128 && (t143 == 24))))) = true := by simpa using c3))
    clear c3
    obtain rfl := Option.some.inj H
    go_enter Try.func9, Try.ntmps9
    go_wp2_with (first | ((with_reducible refine gX_ 10 6 rfl rfl ?_); refine goesY_ (some 6) Try.func10 #[.int .i64 8] ?_; (with_reducible refine (shape_Of.calls 8 t139 t140 t141 t142 t143 none _ A1.out).mono ?_); rintro e w4 ⟨rfl, hb⟩; refine ⟨_, rfl, ?_⟩; replace HB := Aside0.mk (bS3 HB.out hb); (try clear hb); (try clear hk); (try simp only [errW_none, errW_some])) | ((with_reducible refine gD (N := 1) rfl ?_); refine bE3 1 #[.int .i64 0, .int .u64 0, .int .u64 0, .int .u64 0, .int .i64 0] 33 ?hr ?_; (case hr => first | (go_simp; done) | (go_simp; rfl)); intro gb145 hg w5 hbox hb; have BK145 := Aside0.mk (hbox); have GW145 := Aside0.mk ((bZ3 hg HB.out)); have GE145 := Aside0.mk ((bZ3 hg HB.out)); replace HB := Aside0.mk (bS3 HB.out hb); clear hb hbox hg; obtain ⟨hcz6_0, hcz6_1, hcz6_2, hcz6_3, hcz6_4, hfz6_0, hfz6_1, hfz6_2, hfz6_3, hfz6_4⟩ := cl5 BK145.out) | ((with_reducible refine gX_ 17 10 rfl rfl ?_); refine goesY_ (some 10) Try.func17 #[.int .i64 8, .int .i64 (-1)] ?_; (with_reducible refine (shape_Pattern.calls 8 (-1) t146 none _ A2.out).mono ?_); rintro e w' ⟨rfl, ⟨nd, rfl⟩⟩; refine ⟨_, rfl, ?_⟩; (try simp only [errW_none, errW_some])))
    go_ret
    exact ⟨eR3, bR3 HB.out⟩
   ·
    rw [if_neg c3] at H
    have c3b0 : (t139 == 8 && (t140 == 127 && (t141 == 1 && (t142 == 128 && (t143 == 24))))) = false := by simpa using c3
    (try (have c3b1 : decide (t139 = 8 && (t140 == 127 && (t141 == 1 && (t142 == 128 && (t143 == 24))))) = false := by simpa using c3))
    (try (have c3b2 : (t139 == 8 && (t140 == 127 && (t141 == 1 && (t142 == 128 && (t143 == 24))))) = false := by simpa using c3))
    (try (have c3b3 : ¬ (t139 = 8 && (t140 == 127 && (t141 == 1 && (t142 == 128 && (t143 == 24))))) := by simpa using c3))
    clear c3
    obtain rfl := Option.some.inj H
    go_enter Try.func9, Try.ntmps9
    go_wp2_with (first | ((with_reducible refine gX_ 10 6 rfl rfl ?_); refine goesY_ (some 6) Try.func10 #[.int .i64 8] ?_; (with_reducible refine (shape_Of.calls 8 t139 t140 t141 t142 t143 none _ A1.out).mono ?_); rintro e w7 ⟨rfl, hb⟩; refine ⟨_, rfl, ?_⟩; replace HB := Aside0.mk (bS3 HB.out hb); (try clear hb); (try clear hk); (try simp only [errW_none, errW_some])) | ((with_reducible refine gD (N := 1) rfl ?_); refine bE3 1 #[.int .i64 0, .int .u64 0, .int .u64 0, .int .u64 0, .int .i64 0] 33 ?hr ?_; (case hr => first | (go_simp; done) | (go_simp; rfl)); intro gb145 hg w8 hbox hb; have BK145 := Aside0.mk (hbox); have GW145 := Aside0.mk ((bZ3 hg HB.out)); have GE145 := Aside0.mk ((bZ3 hg HB.out)); replace HB := Aside0.mk (bS3 HB.out hb); clear hb hbox hg; obtain ⟨hcz9_0, hcz9_1, hcz9_2, hcz9_3, hcz9_4, hfz9_0, hfz9_1, hfz9_2, hfz9_3, hfz9_4⟩ := cl5 BK145.out) | ((with_reducible refine gX_ 17 10 rfl rfl ?_); refine goesY_ (some 10) Try.func17 #[.int .i64 8, .int .i64 (-1)] ?_; (with_reducible refine (shape_Pattern.calls 8 (-1) t146 none _ A2.out).mono ?_); rintro e w' ⟨rfl, ⟨nd, rfl⟩⟩; refine ⟨_, rfl, ?_⟩; (try simp only [errW_none, errW_some])))
    go_ret
    exact ⟨eR3, bR3 HB.out⟩
  ·
   rw [if_neg (show ¬ (some q149).isNone = true by simp)] at H
   try simp only [Option.getD_some] at H
   try simp only [errW_none, errW_some]
   obtain rfl := Option.some.inj H
   go_enter Try.func9, Try.ntmps9
   go_wp2_with (first | ((with_reducible refine gX_ 10 6 rfl rfl ?_); refine goesY_ (some 6) Try.func10 #[.int .i64 8] ?_; (with_reducible refine (shape_Of.calls 8 t139 t140 t141 t142 t143 none _ A1.out).mono ?_); rintro e w10 ⟨rfl, hb⟩; refine ⟨_, rfl, ?_⟩; replace HB := Aside0.mk (bS3 HB.out hb); (try clear hb); (try clear hk); (try simp only [errW_none, errW_some])) | ((with_reducible refine gD (N := 1) rfl ?_); refine bE3 1 #[.int .i64 0, .int .u64 0, .int .u64 0, .int .u64 0, .int .i64 0] 33 ?hr ?_; (case hr => first | (go_simp; done) | (go_simp; rfl)); intro gb145 hg w11 hbox hb; have BK145 := Aside0.mk (hbox); have GW145 := Aside0.mk ((bZ3 hg HB.out)); have GE145 := Aside0.mk ((bZ3 hg HB.out)); replace HB := Aside0.mk (bS3 HB.out hb); clear hb hbox hg; obtain ⟨hcz12_0, hcz12_1, hcz12_2, hcz12_3, hcz12_4, hfz12_0, hfz12_1, hfz12_2, hfz12_3, hfz12_4⟩ := cl5 BK145.out) | ((with_reducible refine gX_ 17 10 rfl rfl ?_); refine goesY_ (some 10) Try.func17 #[.int .i64 8, .int .i64 (-1)] ?_; (with_reducible refine (shape_Pattern.calls 8 (-1) t146 (some q149) _ A2.out).mono ?_); rintro e w' ⟨rfl, ⟨nd, rfl⟩⟩; refine ⟨_, rfl, ?_⟩; (try simp only [errW_none, errW_some])))
   go_ret
   exact ⟨eR3, bR3 HB.out⟩
 ·
  rw [if_neg (show ¬ (some q148).isNone = true by simp)] at H
  try simp only [Option.getD_some] at H
  try simp only [errW_none, errW_some]
  obtain rfl := Option.some.inj H
  go_enter Try.func9, Try.ntmps9
  go_wp2_with (first | ((with_reducible refine gX_ 10 6 rfl rfl ?_); refine goesY_ (some 6) Try.func10 #[.int .i64 8] ?_; (with_reducible refine (shape_Of.calls 8 t139 t140 t141 t142 t143 (some q148) _ A1.out).mono ?_); rintro e w13 ⟨rfl, hb⟩; refine ⟨_, rfl, ?_⟩; replace HB := Aside0.mk (bS3 HB.out hb); (try clear hb); (try clear hk); (try simp only [errW_none, errW_some])) | ((with_reducible refine gD (N := 1) rfl ?_); refine bE3 1 #[.int .i64 0, .int .u64 0, .int .u64 0, .int .u64 0, .int .i64 0] 33 ?hr ?_; (case hr => first | (go_simp; done) | (go_simp; rfl)); intro gb145 hg w14 hbox hb; have BK145 := Aside0.mk (hbox); have GW145 := Aside0.mk ((bZ3 hg HB.out)); have GE145 := Aside0.mk ((bZ3 hg HB.out)); replace HB := Aside0.mk (bS3 HB.out hb); clear hb hbox hg; obtain ⟨hcz15_0, hcz15_1, hcz15_2, hcz15_3, hcz15_4, hfz15_0, hfz15_1, hfz15_2, hfz15_3, hfz15_4⟩ := cl5 BK145.out) | ((with_reducible refine gX_ 17 10 rfl rfl ?_); refine goesY_ (some 10) Try.func17 #[.int .i64 8, .int .i64 (-1)] ?_; (with_reducible refine (shape_Pattern.calls 8 (-1) t146 t147 _ A2.out).mono ?_); rintro e w' ⟨rfl, ⟨nd, rfl⟩⟩; refine ⟨_, rfl, ?_⟩; (try simp only [errW_none, errW_some])))
  go_ret
  exact ⟨eR3, bR3 HB.out⟩
end Go.Proofs.Ytogldofffdiflaa.F
