/- Functions of the given program as plain Lean functions, and for each a proof that the program's call comes to just these answers; no further conditions. (Written by a program of this repo out of the translation.) -/
import Derived.Test.YtikbelfghkfnnaaF0a
import Derived.Test.YtikbelfghkfnnaaF1a
namespace Go.Proofs.Ytikbelfghkfnnaa.F
open Go.RowKit Go.Proofs.YtikbelfghkfnnaaW.PrintWords Go.Proofs.YtikbelfghkfnnaaW.PrintLast Go.Proofs.YtikbelfghkfnnaaW.PrintMore
attribute [local go_sem high] xor_u64 xor_u32 eqErr25 neErr25 eqErrL25 neErrL25
attribute [local go_sem] max2_int min2_int max_two min_two max_three min_three max_four min_four   -- for this text's walks alone
set_option linter.unusedVariables false
set_option linter.unusedSimpArgs false
def order_Next.f (a0 : Int) (a1 : Int) : Option (Int × Option Int) := (shape_Of.f a0).bind fun bt107 => (if bt107.2.2.2.2.2.isNone = true then ((shape_Fold.f a0 a1).bind fun bt115 => (if bt115.1 = bt107.2.2.2.1 then ((shape_Fold.f a0 bt115.1).bind fun bt117 => (some (bt117.1, bt117.2))) else (if bt115.1 = bt107.2.1 then ((shape_Fold.f a0 bt115.1).bind fun bt119 => (some (bt119.1, bt119.2))) else ((shape_Fold.f a0 (IntKind.u64.wrap (bt115.1 + 1))).bind fun bt121 => (some (bt121.1, bt121.2)))))) else (some (0, some (bt107.2.2.2.2.2.getD 0))))
set_option maxHeartbeats 8000000 in
set_option maxRecDepth 100000 in
theorem order_Next.calls (a0 : Int) (a1 : Int) (r1 : Int) (r2 : Option Int) (w : World) (h : order_Next.f a0 a1 = some (r1, r2)) :
    Calls Try.prog 5 #[.int .i64 a0, .int .u64 a1] w fun e w' => e = .returned (.tuple #[.int .u64 r1, errW r2]) ∧ Below w.heap.size w w' := by
  have hu35 := Try.underlying35
  have hu25 := Try.underlying25
  have hu29 := Try.underlying29
  have HB := Aside0.mk (Below.refl w.heap.size w)
  have H : ((shape_Of.f a0).bind fun bt107 => (if bt107.2.2.2.2.2.isNone = true then ((shape_Fold.f a0 a1).bind fun bt115 => (if bt115.1 = bt107.2.2.2.1 then ((shape_Fold.f a0 bt115.1).bind fun bt117 => (some (bt117.1, bt117.2))) else (if bt115.1 = bt107.2.1 then ((shape_Fold.f a0 bt115.1).bind fun bt119 => (some (bt119.1, bt119.2))) else ((shape_Fold.f a0 (IntKind.u64.wrap (bt115.1 + 1))).bind fun bt121 => (some (bt121.1, bt121.2)))))) else (some (0, some (bt107.2.2.2.2.2.getD 0))))) = some (r1, r2) := h
  clear h
  replace H := Option.bind_eq_some_iff.mp H
  obtain ⟨⟨t107, t108, t109, t110, t111, t112⟩, A30, H⟩ := H
  try dsimp -simprocs only at H
  have A3 := Aside0.mk A30
  clear A30
  rcases t112 with _ | q114
  · rw [if_pos (show (none : Option Int).isNone = true by rfl)] at H
    try simp only [Option.getD_some] at H
    try simp only [errW_none, errW_some]
    replace H := Option.bind_eq_some_iff.mp H
    obtain ⟨⟨t115, t116⟩, A40, H⟩ := H
    try dsimp -simprocs only at H
    have A4 := Aside0.mk A40
    clear A40
    by_cases c5 : t115 = t110
    · rw [if_pos c5] at H
      have c5b0 : (t115 == t110) = true := beq_iff_eq.mpr c5
      have c5b1 : (t115 != t110) = false := bne_eq_false_iff_eq.mpr c5
      clear c5
      replace H := Option.bind_eq_some_iff.mp H
      obtain ⟨⟨t117, t118⟩, A60, H⟩ := H
      try dsimp -simprocs only at H
      have A6 := Aside0.mk A60
      clear A60
      simp only [Option.some.injEq, Prod.mk.injEq] at H
      obtain ⟨rfl, rfl⟩ := H
      go_enter Try.func5, Try.ntmps5
      go_wp2_with (first | ((with_reducible refine gC (f := 13) rfl ?_); (with_reducible refine gD (N := 10) rfl ?_); refine goesY_ (some 10) Try.func13 #[.int .i64 a0] ?_; (with_reducible refine (shape_Of.calls a0 t107 t108 t109 t110 t111 none _ A3.out).mono ?_); rintro e w7 ⟨rfl, hb⟩; refine ⟨_, rfl, ?_⟩; have n0_ := Aside0.mk (bS3 HB.out hb); clear HB; have HB := n0_; clear n0_; (try clear hb); (try clear hb2); (try clear hk); (try clear hi); (try simp only [errW_none, errW_some])) | ((with_reducible refine gD (N := 6) rfl ?_); refine bE3 6 #[.int .i64 0, .int .u64 0, .int .u64 0, .int .u64 0, .int .i64 0] 35 ?hr ?_; (case hr => first | (go_simp; done) | (go_simp; rfl)); intro gb113 hg w8 hbox hb; have n0_ := Aside0.mk (bS3 HB.out hb); have n1_ := Aside0.mk (hbox); have n2_ := Aside0.mk ((bZ3 hg HB.out)); have n3_ := Aside0.mk ((bZ3 hg HB.out)); clear HB; have HB := n0_; have BK113 := n1_; have GW113 := n2_; have GE113 := n3_; clear n0_ n1_ n2_ n3_; clear hb hbox hg; obtain ⟨hcz9_0, hcz9_1, hcz9_2, hcz9_3, hcz9_4, hfz9_0, hfz9_1, hfz9_2, hfz9_3, hfz9_4⟩ := cl5 BK113.out) | ((with_reducible refine gC (f := 14) rfl ?_); (with_reducible refine gD (N := 19) rfl ?_); refine goesY_ (some 19) Try.func14 #[.int .i64 a0, .int .u64 a1] ?_; (with_reducible refine (shape_Fold.calls a0 a1 t115 t116 _ A4.out).mono ?_); rintro e w' ⟨rfl, ⟨nd, rfl⟩⟩; refine ⟨_, rfl, ?_⟩; (try simp only [errW_none, errW_some])) | ((with_reducible refine gC (f := 14) rfl ?_); (with_reducible refine gD (N := 36) rfl ?_); refine goesY_ (some 36) Try.func14 #[.int .i64 a0, .int .u64 t115] ?_; (with_reducible refine (shape_Fold.calls a0 t115 t117 t118 _ A6.out).mono ?_); rintro e w' ⟨rfl, ⟨nd, rfl⟩⟩; refine ⟨_, rfl, ?_⟩; (try simp only [errW_none, errW_some])))
      go_ret2
      exact ⟨eR3, bR3 HB.out⟩
    · rw [if_neg c5] at H
      have c5b0 : (t115 == t110) = false := beq_eq_false_iff_ne.mpr c5
      have c5b1 : (t115 != t110) = true := bne_iff_ne.mpr c5
      by_cases c10 : t115 = t108
      · rw [if_pos c10] at H
        have c10b0 : (t115 == t108) = true := beq_iff_eq.mpr c10
        have c10b1 : (t115 != t108) = false := bne_eq_false_iff_eq.mpr c10
        clear c10
        replace H := Option.bind_eq_some_iff.mp H
        obtain ⟨⟨t119, t120⟩, A110, H⟩ := H
        try dsimp -simprocs only at H
        have A11 := Aside0.mk A110
        clear A110
        simp only [Option.some.injEq, Prod.mk.injEq] at H
        obtain ⟨rfl, rfl⟩ := H
        go_enter Try.func5, Try.ntmps5
        go_wp2_with (first | ((with_reducible refine gC (f := 13) rfl ?_); (with_reducible refine gD (N := 10) rfl ?_); refine goesY_ (some 10) Try.func13 #[.int .i64 a0] ?_; (with_reducible refine (shape_Of.calls a0 t107 t108 t109 t110 t111 none _ A3.out).mono ?_); rintro e w12 ⟨rfl, hb⟩; refine ⟨_, rfl, ?_⟩; have n0_ := Aside0.mk (bS3 HB.out hb); clear HB; have HB := n0_; clear n0_; (try clear hb); (try clear hb2); (try clear hk); (try clear hi); (try simp only [errW_none, errW_some])) | ((with_reducible refine gD (N := 6) rfl ?_); refine bE3 6 #[.int .i64 0, .int .u64 0, .int .u64 0, .int .u64 0, .int .i64 0] 35 ?hr ?_; (case hr => first | (go_simp; done) | (go_simp; rfl)); intro gb113 hg w13 hbox hb; have n0_ := Aside0.mk (bS3 HB.out hb); have n1_ := Aside0.mk (hbox); have n2_ := Aside0.mk ((bZ3 hg HB.out)); have n3_ := Aside0.mk ((bZ3 hg HB.out)); clear HB; have HB := n0_; have BK113 := n1_; have GW113 := n2_; have GE113 := n3_; clear n0_ n1_ n2_ n3_; clear hb hbox hg; obtain ⟨hcz14_0, hcz14_1, hcz14_2, hcz14_3, hcz14_4, hfz14_0, hfz14_1, hfz14_2, hfz14_3, hfz14_4⟩ := cl5 BK113.out) | ((with_reducible refine gC (f := 14) rfl ?_); (with_reducible refine gD (N := 19) rfl ?_); refine goesY_ (some 19) Try.func14 #[.int .i64 a0, .int .u64 a1] ?_; (with_reducible refine (shape_Fold.calls a0 a1 t115 t116 _ A4.out).mono ?_); rintro e w' ⟨rfl, ⟨nd, rfl⟩⟩; refine ⟨_, rfl, ?_⟩; (try simp only [errW_none, errW_some])) | ((with_reducible refine gC (f := 14) rfl ?_); (with_reducible refine gD (N := 36) rfl ?_); refine goesY_ (some 36) Try.func14 #[.int .i64 a0, .int .u64 t115] ?_; (with_reducible refine (shape_Fold.calls a0 t115 t119 t120 _ A11.out).mono ?_); rintro e w' ⟨rfl, ⟨nd, rfl⟩⟩; refine ⟨_, rfl, ?_⟩; (try simp only [errW_none, errW_some])))
        go_ret2
        exact ⟨eR3, bR3 HB.out⟩
      · rw [if_neg c10] at H
        have c10b0 : (t115 == t108) = false := beq_eq_false_iff_ne.mpr c10
        have c10b1 : (t115 != t108) = true := bne_iff_ne.mpr c10
        replace H := Option.bind_eq_some_iff.mp H
        obtain ⟨⟨t121, t122⟩, A150, H⟩ := H
        try dsimp -simprocs only at H
        have A15 := Aside0.mk A150
        clear A150
        simp only [Option.some.injEq, Prod.mk.injEq] at H
        obtain ⟨rfl, rfl⟩ := H
        go_enter Try.func5, Try.ntmps5
        go_wp2_with (first | ((with_reducible refine gC (f := 13) rfl ?_); (with_reducible refine gD (N := 10) rfl ?_); refine goesY_ (some 10) Try.func13 #[.int .i64 a0] ?_; (with_reducible refine (shape_Of.calls a0 t107 t108 t109 t110 t111 none _ A3.out).mono ?_); rintro e w16 ⟨rfl, hb⟩; refine ⟨_, rfl, ?_⟩; have n0_ := Aside0.mk (bS3 HB.out hb); clear HB; have HB := n0_; clear n0_; (try clear hb); (try clear hb2); (try clear hk); (try clear hi); (try simp only [errW_none, errW_some])) | ((with_reducible refine gD (N := 6) rfl ?_); refine bE3 6 #[.int .i64 0, .int .u64 0, .int .u64 0, .int .u64 0, .int .i64 0] 35 ?hr ?_; (case hr => first | (go_simp; done) | (go_simp; rfl)); intro gb113 hg w17 hbox hb; have n0_ := Aside0.mk (bS3 HB.out hb); have n1_ := Aside0.mk (hbox); have n2_ := Aside0.mk ((bZ3 hg HB.out)); have n3_ := Aside0.mk ((bZ3 hg HB.out)); clear HB; have HB := n0_; have BK113 := n1_; have GW113 := n2_; have GE113 := n3_; clear n0_ n1_ n2_ n3_; clear hb hbox hg; obtain ⟨hcz18_0, hcz18_1, hcz18_2, hcz18_3, hcz18_4, hfz18_0, hfz18_1, hfz18_2, hfz18_3, hfz18_4⟩ := cl5 BK113.out) | ((with_reducible refine gC (f := 14) rfl ?_); (with_reducible refine gD (N := 19) rfl ?_); refine goesY_ (some 19) Try.func14 #[.int .i64 a0, .int .u64 a1] ?_; (with_reducible refine (shape_Fold.calls a0 a1 t115 t116 _ A4.out).mono ?_); rintro e w' ⟨rfl, ⟨nd, rfl⟩⟩; refine ⟨_, rfl, ?_⟩; (try simp only [errW_none, errW_some])) | ((with_reducible refine gC (f := 14) rfl ?_); (with_reducible refine gD (N := 36) rfl ?_); refine goesY_ (some 36) Try.func14 #[.int .i64 a0, .int .u64 (IntKind.u64.wrap (t115 + 1))] ?_; (with_reducible refine (shape_Fold.calls a0 (IntKind.u64.wrap (t115 + 1)) t121 t122 _ A15.out).mono ?_); rintro e w' ⟨rfl, ⟨nd, rfl⟩⟩; refine ⟨_, rfl, ?_⟩; (try simp only [errW_none, errW_some])))
        go_ret2
        exact ⟨eR3, bR3 HB.out⟩
  · rw [if_neg (show ¬ (some q114).isNone = true by simp)] at H
    try simp only [Option.getD_some] at H
    try simp only [errW_none, errW_some]
    simp only [Option.some.injEq, Prod.mk.injEq] at H
    obtain ⟨rfl, rfl⟩ := H
    go_enter Try.func5, Try.ntmps5
    go_wp2_with (first | ((with_reducible refine gC (f := 13) rfl ?_); (with_reducible refine gD (N := 10) rfl ?_); refine goesY_ (some 10) Try.func13 #[.int .i64 a0] ?_; (with_reducible refine (shape_Of.calls a0 t107 t108 t109 t110 t111 (some q114) _ A3.out).mono ?_); rintro e w19 ⟨rfl, hb⟩; refine ⟨_, rfl, ?_⟩; have n0_ := Aside0.mk (bS3 HB.out hb); clear HB; have HB := n0_; clear n0_; (try clear hb); (try clear hb2); (try clear hk); (try clear hi); (try simp only [errW_none, errW_some])) | ((with_reducible refine gD (N := 6) rfl ?_); refine bE3 6 #[.int .i64 0, .int .u64 0, .int .u64 0, .int .u64 0, .int .i64 0] 35 ?hr ?_; (case hr => first | (go_simp; done) | (go_simp; rfl)); intro gb113 hg w20 hbox hb; have n0_ := Aside0.mk (bS3 HB.out hb); have n1_ := Aside0.mk (hbox); have n2_ := Aside0.mk ((bZ3 hg HB.out)); have n3_ := Aside0.mk ((bZ3 hg HB.out)); clear HB; have HB := n0_; have BK113 := n1_; have GW113 := n2_; have GE113 := n3_; clear n0_ n1_ n2_ n3_; clear hb hbox hg; obtain ⟨hcz21_0, hcz21_1, hcz21_2, hcz21_3, hcz21_4, hfz21_0, hfz21_1, hfz21_2, hfz21_3, hfz21_4⟩ := cl5 BK113.out))
    go_ret2
    exact ⟨eR3, bR3 HB.out⟩
def order_Cmp.f (a0 : Int) (a1 : Int) (a2 : Int) : Option (Int × Option Int) := (shape_Rank.f a0 a1).bind fun bt126 => (if bt126.2.isNone = true then ((shape_Rank.f a0 a2).bind fun bt129 => (if bt126.1 < bt129.1 then (some ((-1), bt129.2)) else (if bt126.1 > bt129.1 then (some (1, bt129.2)) else (some (0, bt129.2))))) else (some (0, some (bt126.2.getD 0))))
set_option maxHeartbeats 8000000 in
set_option maxRecDepth 100000 in
theorem order_Cmp.calls (a0 : Int) (a1 : Int) (a2 : Int) (r1 : Int) (r2 : Option Int) (w : World) (h : order_Cmp.f a0 a1 a2 = some (r1, r2)) :
    Calls Try.prog 8 #[.int .i64 a0, .int .u64 a1, .int .u64 a2] w fun e w' => e = .returned (.tuple #[.int .i64 r1, errW r2]) ∧ Drawn0 w w' := by
  have hu25 := Try.underlying25
  have hu29 := Try.underlying29
  have H : ((shape_Rank.f a0 a1).bind fun bt126 => (if bt126.2.isNone = true then ((shape_Rank.f a0 a2).bind fun bt129 => (if bt126.1 < bt129.1 then (some ((-1), bt129.2)) else (if bt126.1 > bt129.1 then (some (1, bt129.2)) else (some (0, bt129.2))))) else (some (0, some (bt126.2.getD 0))))) = some (r1, r2) := h
  clear h
  replace H := Option.bind_eq_some_iff.mp H
  obtain ⟨⟨t126, t127⟩, A40, H⟩ := H
  try dsimp -simprocs only at H
  have A4 := Aside0.mk A40
  clear A40
  rcases t127 with _ | q128
  · rw [if_pos (show (none : Option Int).isNone = true by rfl)] at H
    try simp only [Option.getD_some] at H
    try simp only [errW_none, errW_some]
    replace H := Option.bind_eq_some_iff.mp H
    obtain ⟨⟨t129, t130⟩, A50, H⟩ := H
    try dsimp -simprocs only at H
    have A5 := Aside0.mk A50
    clear A50
    by_cases c6 : t126 < t129
    · rw [if_pos c6] at H
      have c6b0 : decide (t126 < t129) = true := decide_eq_true c6
      clear c6
      simp only [Option.some.injEq, Prod.mk.injEq] at H
      obtain ⟨rfl, rfl⟩ := H
      go_enter Try.func8, Try.ntmps8
      go_wp2_with (first | ((with_reducible refine gC (f := 15) rfl ?_); (with_reducible refine gD (N := 14) rfl ?_); refine goesY_ (some 14) Try.func15 #[.int .i64 a0, .int .u64 a1] ?_; (with_reducible refine (shape_Rank.calls a0 a1 t126 none _ A4.out).mono ?_); rintro e w' ⟨rfl, ⟨nd, rfl⟩⟩; refine ⟨_, rfl, ?_⟩; (try simp only [errW_none, errW_some])) | ((with_reducible refine gC (f := 15) rfl ?_); (with_reducible refine gD (N := 23) rfl ?_); refine goesY_ (some 23) Try.func15 #[.int .i64 a0, .int .u64 a2] ?_; (with_reducible refine (shape_Rank.calls a0 a2 t129 t130 _ A5.out).mono ?_); rintro e w' ⟨rfl, ⟨nd, rfl⟩⟩; refine ⟨_, rfl, ?_⟩; (try simp only [errW_none, errW_some])))
      go_ret2
      exact ⟨by first | rfl | (simp; done) | (simp [*]; done), by repeat (first | exact Drawn0.refl _ | apply Drawn0.step)⟩
    · rw [if_neg c6] at H
      have c6b0 : decide (t126 < t129) = false := decide_eq_false c6
      clear c6
      by_cases c7 : t126 > t129
      · rw [if_pos c7] at H
        have c7b0 : decide (t129 < t126) = true := decide_eq_true c7
        clear c7
        simp only [Option.some.injEq, Prod.mk.injEq] at H
        obtain ⟨rfl, rfl⟩ := H
        go_enter Try.func8, Try.ntmps8
        go_wp2_with (first | ((with_reducible refine gC (f := 15) rfl ?_); (with_reducible refine gD (N := 14) rfl ?_); refine goesY_ (some 14) Try.func15 #[.int .i64 a0, .int .u64 a1] ?_; (with_reducible refine (shape_Rank.calls a0 a1 t126 none _ A4.out).mono ?_); rintro e w' ⟨rfl, ⟨nd, rfl⟩⟩; refine ⟨_, rfl, ?_⟩; (try simp only [errW_none, errW_some])) | ((with_reducible refine gC (f := 15) rfl ?_); (with_reducible refine gD (N := 23) rfl ?_); refine goesY_ (some 23) Try.func15 #[.int .i64 a0, .int .u64 a2] ?_; (with_reducible refine (shape_Rank.calls a0 a2 t129 t130 _ A5.out).mono ?_); rintro e w' ⟨rfl, ⟨nd, rfl⟩⟩; refine ⟨_, rfl, ?_⟩; (try simp only [errW_none, errW_some])))
        go_ret2
        exact ⟨by first | rfl | (simp; done) | (simp [*]; done), by repeat (first | exact Drawn0.refl _ | apply Drawn0.step)⟩
      · rw [if_neg c7] at H
        have c7b0 : decide (t129 < t126) = false := decide_eq_false c7
        clear c7
        simp only [Option.some.injEq, Prod.mk.injEq] at H
        obtain ⟨rfl, rfl⟩ := H
        go_enter Try.func8, Try.ntmps8
        go_wp2_with (first | ((with_reducible refine gC (f := 15) rfl ?_); (with_reducible refine gD (N := 14) rfl ?_); refine goesY_ (some 14) Try.func15 #[.int .i64 a0, .int .u64 a1] ?_; (with_reducible refine (shape_Rank.calls a0 a1 t126 none _ A4.out).mono ?_); rintro e w' ⟨rfl, ⟨nd, rfl⟩⟩; refine ⟨_, rfl, ?_⟩; (try simp only [errW_none, errW_some])) | ((with_reducible refine gC (f := 15) rfl ?_); (with_reducible refine gD (N := 23) rfl ?_); refine goesY_ (some 23) Try.func15 #[.int .i64 a0, .int .u64 a2] ?_; (with_reducible refine (shape_Rank.calls a0 a2 t129 t130 _ A5.out).mono ?_); rintro e w' ⟨rfl, ⟨nd, rfl⟩⟩; refine ⟨_, rfl, ?_⟩; (try simp only [errW_none, errW_some])))
        go_ret2
        exact ⟨by first | rfl | (simp; done) | (simp [*]; done), by repeat (first | exact Drawn0.refl _ | apply Drawn0.step)⟩
  · rw [if_neg (show ¬ (some q128).isNone = true by simp)] at H
    try simp only [Option.getD_some] at H
    try simp only [errW_none, errW_some]
    simp only [Option.some.injEq, Prod.mk.injEq] at H
    obtain ⟨rfl, rfl⟩ := H
    go_enter Try.func8, Try.ntmps8
    go_wp2_with (first | ((with_reducible refine gC (f := 15) rfl ?_); (with_reducible refine gD (N := 14) rfl ?_); refine goesY_ (some 14) Try.func15 #[.int .i64 a0, .int .u64 a1] ?_; (with_reducible refine (shape_Rank.calls a0 a1 t126 (some q128) _ A4.out).mono ?_); rintro e w' ⟨rfl, ⟨nd, rfl⟩⟩; refine ⟨_, rfl, ?_⟩; (try simp only [errW_none, errW_some])))
    go_ret2
    exact ⟨by first | rfl | (simp; done) | (simp [*]; done), by repeat (first | exact Drawn0.refl _ | apply Drawn0.step)⟩
def order_Neg.f (a0 : Int) (a1 : Int) : Option (Int × Option Int) := (shape_Fold.f a0 (IntKind.u64.wrap (-a1))).bind fun bt131 => (some (bt131.1, bt131.2))
set_option maxHeartbeats 8000000 in
set_option maxRecDepth 100000 in
theorem order_Neg.calls (a0 : Int) (a1 : Int) (r1 : Int) (r2 : Option Int) (w : World) (h : order_Neg.f a0 a1 = some (r1, r2)) :
    Calls Try.prog 12 #[.int .i64 a0, .int .u64 a1] w fun e w' => e = .returned (.tuple #[.int .u64 r1, errW r2]) ∧ Drawn0 w w' := by
  have H : ((shape_Fold.f a0 (IntKind.u64.wrap (-a1))).bind fun bt131 => (some (bt131.1, bt131.2))) = some (r1, r2) := h
  clear h
  replace H := Option.bind_eq_some_iff.mp H
  obtain ⟨⟨t131, t132⟩, A30, H⟩ := H
  try dsimp -simprocs only at H
  have A3 := Aside0.mk A30
  clear A30
  simp only [Option.some.injEq, Prod.mk.injEq] at H
  obtain ⟨rfl, rfl⟩ := H
  go_enter Try.func12, Try.ntmps12
  go_wp2_with (first | ((with_reducible refine gC (f := 14) rfl ?_); (with_reducible refine gD (N := 9) rfl ?_); refine goesY_ (some 9) Try.func14 #[.int .i64 a0, .int .u64 (IntKind.u64.wrap (-a1))] ?_; (with_reducible refine (shape_Fold.calls a0 (IntKind.u64.wrap (-a1)) t131 t132 _ A3.out).mono ?_); rintro e w' ⟨rfl, ⟨nd, rfl⟩⟩; refine ⟨_, rfl, ?_⟩; (try simp only [errW_none, errW_some])))
  go_ret2
  exact ⟨by first | rfl | (simp; done) | (simp [*]; done), by repeat (first | exact Drawn0.refl _ | apply Drawn0.step)⟩
def order_Prev.f (a0 : Int) (a1 : Int) : Option (Int × Option Int) := (shape_Of.f a0).bind fun bt142 => (if bt142.2.2.2.2.2.isNone = true then ((shape_Fold.f a0 a1).bind fun bt150 => (if bt150.1 = bt142.2.2.2.1 then ((shape_Fold.f a0 bt150.1).bind fun bt152 => (some (bt152.1, bt152.2))) else (if bt150.1 = (IntKind.u64.wrap (bt142.2.2.2.1 + 1)) then ((shape_Fold.f a0 bt150.1).bind fun bt154 => (some (bt154.1, bt154.2))) else ((shape_Fold.f a0 (IntKind.u64.wrap (bt150.1 - 1))).bind fun bt156 => (some (bt156.1, bt156.2)))))) else (some (0, some (bt142.2.2.2.2.2.getD 0))))
set_option maxHeartbeats 8000000 in
set_option maxRecDepth 100000 in
theorem order_Prev.calls (a0 : Int) (a1 : Int) (r1 : Int) (r2 : Option Int) (w : World) (h : order_Prev.f a0 a1 = some (r1, r2)) :
    Calls Try.prog 6 #[.int .i64 a0, .int .u64 a1] w fun e w' => e = .returned (.tuple #[.int .u64 r1, errW r2]) ∧ Below w.heap.size w w' := by
  have hu35 := Try.underlying35
  have hu25 := Try.underlying25
  have hu29 := Try.underlying29
  have HB := Aside0.mk (Below.refl w.heap.size w)
  have H : ((shape_Of.f a0).bind fun bt142 => (if bt142.2.2.2.2.2.isNone = true then ((shape_Fold.f a0 a1).bind fun bt150 => (if bt150.1 = bt142.2.2.2.1 then ((shape_Fold.f a0 bt150.1).bind fun bt152 => (some (bt152.1, bt152.2))) else (if bt150.1 = (IntKind.u64.wrap (bt142.2.2.2.1 + 1)) then ((shape_Fold.f a0 bt150.1).bind fun bt154 => (some (bt154.1, bt154.2))) else ((shape_Fold.f a0 (IntKind.u64.wrap (bt150.1 - 1))).bind fun bt156 => (some (bt156.1, bt156.2)))))) else (some (0, some (bt142.2.2.2.2.2.getD 0))))) = some (r1, r2) := h
  clear h
  replace H := Option.bind_eq_some_iff.mp H
  obtain ⟨⟨t142, t143, t144, t145, t146, t147⟩, A30, H⟩ := H
  try dsimp -simprocs only at H
  have A3 := Aside0.mk A30
  clear A30
  rcases t147 with _ | q149
  · rw [if_pos (show (none : Option Int).isNone = true by rfl)] at H
    try simp only [Option.getD_some] at H
    try simp only [errW_none, errW_some]
    replace H := Option.bind_eq_some_iff.mp H
    obtain ⟨⟨t150, t151⟩, A40, H⟩ := H
    try dsimp -simprocs only at H
    have A4 := Aside0.mk A40
    clear A40
    by_cases c5 : t150 = t145
    · rw [if_pos c5] at H
      have c5b0 : (t150 == t145) = true := beq_iff_eq.mpr c5
      have c5b1 : (t150 != t145) = false := bne_eq_false_iff_eq.mpr c5
      clear c5
      replace H := Option.bind_eq_some_iff.mp H
      obtain ⟨⟨t152, t153⟩, A60, H⟩ := H
      try dsimp -simprocs only at H
      have A6 := Aside0.mk A60
      clear A60
      simp only [Option.some.injEq, Prod.mk.injEq] at H
      obtain ⟨rfl, rfl⟩ := H
      go_enter Try.func6, Try.ntmps6
      go_wp2_with (first | ((with_reducible refine gC (f := 13) rfl ?_); (with_reducible refine gD (N := 10) rfl ?_); refine goesY_ (some 10) Try.func13 #[.int .i64 a0] ?_; (with_reducible refine (shape_Of.calls a0 t142 t143 t144 t145 t146 none _ A3.out).mono ?_); rintro e w7 ⟨rfl, hb⟩; refine ⟨_, rfl, ?_⟩; have n0_ := Aside0.mk (bS3 HB.out hb); clear HB; have HB := n0_; clear n0_; (try clear hb); (try clear hb2); (try clear hk); (try clear hi); (try simp only [errW_none, errW_some])) | ((with_reducible refine gD (N := 6) rfl ?_); refine bE3 6 #[.int .i64 0, .int .u64 0, .int .u64 0, .int .u64 0, .int .i64 0] 35 ?hr ?_; (case hr => first | (go_simp; done) | (go_simp; rfl)); intro gb148 hg w8 hbox hb; have n0_ := Aside0.mk (bS3 HB.out hb); have n1_ := Aside0.mk (hbox); have n2_ := Aside0.mk ((bZ3 hg HB.out)); have n3_ := Aside0.mk ((bZ3 hg HB.out)); clear HB; have HB := n0_; have BK148 := n1_; have GW148 := n2_; have GE148 := n3_; clear n0_ n1_ n2_ n3_; clear hb hbox hg; obtain ⟨hcz9_0, hcz9_1, hcz9_2, hcz9_3, hcz9_4, hfz9_0, hfz9_1, hfz9_2, hfz9_3, hfz9_4⟩ := cl5 BK148.out) | ((with_reducible refine gC (f := 14) rfl ?_); (with_reducible refine gD (N := 19) rfl ?_); refine goesY_ (some 19) Try.func14 #[.int .i64 a0, .int .u64 a1] ?_; (with_reducible refine (shape_Fold.calls a0 a1 t150 t151 _ A4.out).mono ?_); rintro e w' ⟨rfl, ⟨nd, rfl⟩⟩; refine ⟨_, rfl, ?_⟩; (try simp only [errW_none, errW_some])) | ((with_reducible refine gC (f := 14) rfl ?_); (with_reducible refine gD (N := 37) rfl ?_); refine goesY_ (some 37) Try.func14 #[.int .i64 a0, .int .u64 t150] ?_; (with_reducible refine (shape_Fold.calls a0 t150 t152 t153 _ A6.out).mono ?_); rintro e w' ⟨rfl, ⟨nd, rfl⟩⟩; refine ⟨_, rfl, ?_⟩; (try simp only [errW_none, errW_some])))
      go_ret2
      exact ⟨eR3, bR3 HB.out⟩
    · rw [if_neg c5] at H
      have c5b0 : (t150 == t145) = false := beq_eq_false_iff_ne.mpr c5
      have c5b1 : (t150 != t145) = true := bne_iff_ne.mpr c5
      by_cases c10 : t150 = (IntKind.u64.wrap (t145 + 1))
      · rw [if_pos c10] at H
        have c10b0 : (t150 == (IntKind.u64.wrap (t145 + 1))) = true := beq_iff_eq.mpr c10
        have c10b1 : (t150 != (IntKind.u64.wrap (t145 + 1))) = false := bne_eq_false_iff_eq.mpr c10
        clear c10
        replace H := Option.bind_eq_some_iff.mp H
        obtain ⟨⟨t154, t155⟩, A110, H⟩ := H
        try dsimp -simprocs only at H
        have A11 := Aside0.mk A110
        clear A110
        simp only [Option.some.injEq, Prod.mk.injEq] at H
        obtain ⟨rfl, rfl⟩ := H
        go_enter Try.func6, Try.ntmps6
        go_wp2_with (first | ((with_reducible refine gC (f := 13) rfl ?_); (with_reducible refine gD (N := 10) rfl ?_); refine goesY_ (some 10) Try.func13 #[.int .i64 a0] ?_; (with_reducible refine (shape_Of.calls a0 t142 t143 t144 t145 t146 none _ A3.out).mono ?_); rintro e w12 ⟨rfl, hb⟩; refine ⟨_, rfl, ?_⟩; have n0_ := Aside0.mk (bS3 HB.out hb); clear HB; have HB := n0_; clear n0_; (try clear hb); (try clear hb2); (try clear hk); (try clear hi); (try simp only [errW_none, errW_some])) | ((with_reducible refine gD (N := 6) rfl ?_); refine bE3 6 #[.int .i64 0, .int .u64 0, .int .u64 0, .int .u64 0, .int .i64 0] 35 ?hr ?_; (case hr => first | (go_simp; done) | (go_simp; rfl)); intro gb148 hg w13 hbox hb; have n0_ := Aside0.mk (bS3 HB.out hb); have n1_ := Aside0.mk (hbox); have n2_ := Aside0.mk ((bZ3 hg HB.out)); have n3_ := Aside0.mk ((bZ3 hg HB.out)); clear HB; have HB := n0_; have BK148 := n1_; have GW148 := n2_; have GE148 := n3_; clear n0_ n1_ n2_ n3_; clear hb hbox hg; obtain ⟨hcz14_0, hcz14_1, hcz14_2, hcz14_3, hcz14_4, hfz14_0, hfz14_1, hfz14_2, hfz14_3, hfz14_4⟩ := cl5 BK148.out) | ((with_reducible refine gC (f := 14) rfl ?_); (with_reducible refine gD (N := 19) rfl ?_); refine goesY_ (some 19) Try.func14 #[.int .i64 a0, .int .u64 a1] ?_; (with_reducible refine (shape_Fold.calls a0 a1 t150 t151 _ A4.out).mono ?_); rintro e w' ⟨rfl, ⟨nd, rfl⟩⟩; refine ⟨_, rfl, ?_⟩; (try simp only [errW_none, errW_some])) | ((with_reducible refine gC (f := 14) rfl ?_); (with_reducible refine gD (N := 37) rfl ?_); refine goesY_ (some 37) Try.func14 #[.int .i64 a0, .int .u64 t150] ?_; (with_reducible refine (shape_Fold.calls a0 t150 t154 t155 _ A11.out).mono ?_); rintro e w' ⟨rfl, ⟨nd, rfl⟩⟩; refine ⟨_, rfl, ?_⟩; (try simp only [errW_none, errW_some])))
        go_ret2
        exact ⟨eR3, bR3 HB.out⟩
      · rw [if_neg c10] at H
        have c10b0 : (t150 == (IntKind.u64.wrap (t145 + 1))) = false := beq_eq_false_iff_ne.mpr c10
        have c10b1 : (t150 != (IntKind.u64.wrap (t145 + 1))) = true := bne_iff_ne.mpr c10
        replace H := Option.bind_eq_some_iff.mp H
        obtain ⟨⟨t156, t157⟩, A150, H⟩ := H
        try dsimp -simprocs only at H
        have A15 := Aside0.mk A150
        clear A150
        simp only [Option.some.injEq, Prod.mk.injEq] at H
        obtain ⟨rfl, rfl⟩ := H
        go_enter Try.func6, Try.ntmps6
        go_wp2_with (first | ((with_reducible refine gC (f := 13) rfl ?_); (with_reducible refine gD (N := 10) rfl ?_); refine goesY_ (some 10) Try.func13 #[.int .i64 a0] ?_; (with_reducible refine (shape_Of.calls a0 t142 t143 t144 t145 t146 none _ A3.out).mono ?_); rintro e w16 ⟨rfl, hb⟩; refine ⟨_, rfl, ?_⟩; have n0_ := Aside0.mk (bS3 HB.out hb); clear HB; have HB := n0_; clear n0_; (try clear hb); (try clear hb2); (try clear hk); (try clear hi); (try simp only [errW_none, errW_some])) | ((with_reducible refine gD (N := 6) rfl ?_); refine bE3 6 #[.int .i64 0, .int .u64 0, .int .u64 0, .int .u64 0, .int .i64 0] 35 ?hr ?_; (case hr => first | (go_simp; done) | (go_simp; rfl)); intro gb148 hg w17 hbox hb; have n0_ := Aside0.mk (bS3 HB.out hb); have n1_ := Aside0.mk (hbox); have n2_ := Aside0.mk ((bZ3 hg HB.out)); have n3_ := Aside0.mk ((bZ3 hg HB.out)); clear HB; have HB := n0_; have BK148 := n1_; have GW148 := n2_; have GE148 := n3_; clear n0_ n1_ n2_ n3_; clear hb hbox hg; obtain ⟨hcz18_0, hcz18_1, hcz18_2, hcz18_3, hcz18_4, hfz18_0, hfz18_1, hfz18_2, hfz18_3, hfz18_4⟩ := cl5 BK148.out) | ((with_reducible refine gC (f := 14) rfl ?_); (with_reducible refine gD (N := 19) rfl ?_); refine goesY_ (some 19) Try.func14 #[.int .i64 a0, .int .u64 a1] ?_; (with_reducible refine (shape_Fold.calls a0 a1 t150 t151 _ A4.out).mono ?_); rintro e w' ⟨rfl, ⟨nd, rfl⟩⟩; refine ⟨_, rfl, ?_⟩; (try simp only [errW_none, errW_some])) | ((with_reducible refine gC (f := 14) rfl ?_); (with_reducible refine gD (N := 37) rfl ?_); refine goesY_ (some 37) Try.func14 #[.int .i64 a0, .int .u64 (IntKind.u64.wrap (t150 - 1))] ?_; (with_reducible refine (shape_Fold.calls a0 (IntKind.u64.wrap (t150 - 1)) t156 t157 _ A15.out).mono ?_); rintro e w' ⟨rfl, ⟨nd, rfl⟩⟩; refine ⟨_, rfl, ?_⟩; (try simp only [errW_none, errW_some])))
        go_ret2
        exact ⟨eR3, bR3 HB.out⟩
  · rw [if_neg (show ¬ (some q149).isNone = true by simp)] at H
    try simp only [Option.getD_some] at H
    try simp only [errW_none, errW_some]
    simp only [Option.some.injEq, Prod.mk.injEq] at H
    obtain ⟨rfl, rfl⟩ := H
    go_enter Try.func6, Try.ntmps6
    go_wp2_with (first | ((with_reducible refine gC (f := 13) rfl ?_); (with_reducible refine gD (N := 10) rfl ?_); refine goesY_ (some 10) Try.func13 #[.int .i64 a0] ?_; (with_reducible refine (shape_Of.calls a0 t142 t143 t144 t145 t146 (some q149) _ A3.out).mono ?_); rintro e w19 ⟨rfl, hb⟩; refine ⟨_, rfl, ?_⟩; have n0_ := Aside0.mk (bS3 HB.out hb); clear HB; have HB := n0_; clear n0_; (try clear hb); (try clear hb2); (try clear hk); (try clear hi); (try simp only [errW_none, errW_some])) | ((with_reducible refine gD (N := 6) rfl ?_); refine bE3 6 #[.int .i64 0, .int .u64 0, .int .u64 0, .int .u64 0, .int .i64 0] 35 ?hr ?_; (case hr => first | (go_simp; done) | (go_simp; rfl)); intro gb148 hg w20 hbox hb; have n0_ := Aside0.mk (bS3 HB.out hb); have n1_ := Aside0.mk (hbox); have n2_ := Aside0.mk ((bZ3 hg HB.out)); have n3_ := Aside0.mk ((bZ3 hg HB.out)); clear HB; have HB := n0_; have BK148 := n1_; have GW148 := n2_; have GE148 := n3_; clear n0_ n1_ n2_ n3_; clear hb hbox hg; obtain ⟨hcz21_0, hcz21_1, hcz21_2, hcz21_3, hcz21_4, hfz21_0, hfz21_1, hfz21_2, hfz21_3, hfz21_4⟩ := cl5 BK148.out))
    go_ret2
    exact ⟨eR3, bR3 HB.out⟩
def order_Steps.f (a0 : Int) (a1 : Int) (a2 : Int) : Option (Int × Option Int) := (shape_Rank.f a0 a1).bind fun bt158 => (if bt158.2.isNone = true then ((shape_Rank.f a0 a2).bind fun bt161 => (if bt158.1 < bt161.1 then (some (IntKind.u64.wrap ((IntKind.u64.wrap (bt161.1)) - (IntKind.u64.wrap (bt158.1))), none)) else (some (IntKind.u64.wrap ((IntKind.u64.wrap (bt158.1)) - (IntKind.u64.wrap (bt161.1))), none)))) else (some (0, some (bt158.2.getD 0))))
set_option maxHeartbeats 8000000 in
set_option maxRecDepth 100000 in
theorem order_Steps.calls (a0 : Int) (a1 : Int) (a2 : Int) (r1 : Int) (r2 : Option Int) (w : World) (h : order_Steps.f a0 a1 a2 = some (r1, r2)) :
    Calls Try.prog 7 #[.int .i64 a0, .int .u64 a1, .int .u64 a2] w fun e w' => e = .returned (.tuple #[.int .u64 r1, errW r2]) ∧ Drawn0 w w' := by
  have hu25 := Try.underlying25
  have hu29 := Try.underlying29
  have H : ((shape_Rank.f a0 a1).bind fun bt158 => (if bt158.2.isNone = true then ((shape_Rank.f a0 a2).bind fun bt161 => (if bt158.1 < bt161.1 then (some (IntKind.u64.wrap ((IntKind.u64.wrap (bt161.1)) - (IntKind.u64.wrap (bt158.1))), none)) else (some (IntKind.u64.wrap ((IntKind.u64.wrap (bt158.1)) - (IntKind.u64.wrap (bt161.1))), none)))) else (some (0, some (bt158.2.getD 0))))) = some (r1, r2) := h
  clear h
  replace H := Option.bind_eq_some_iff.mp H
  obtain ⟨⟨t158, t159⟩, A40, H⟩ := H
  try dsimp -simprocs only at H
  have A4 := Aside0.mk A40
  clear A40
  rcases t159 with _ | q160
  · rw [if_pos (show (none : Option Int).isNone = true by rfl)] at H
    try simp only [Option.getD_some] at H
    try simp only [errW_none, errW_some]
    replace H := Option.bind_eq_some_iff.mp H
    obtain ⟨⟨t161, t162⟩, A50, H⟩ := H
    try dsimp -simprocs only at H
    have A5 := Aside0.mk A50
    clear A50
    by_cases c6 : t158 < t161
    · rw [if_pos c6] at H
      have c6b0 : decide (t158 < t161) = true := decide_eq_true c6
      clear c6
      simp only [Option.some.injEq, Prod.mk.injEq] at H
      obtain ⟨rfl, rfl⟩ := H
      go_enter Try.func7, Try.ntmps7
      go_wp2_with (first | ((with_reducible refine gC (f := 15) rfl ?_); (with_reducible refine gD (N := 15) rfl ?_); refine goesY_ (some 15) Try.func15 #[.int .i64 a0, .int .u64 a1] ?_; (with_reducible refine (shape_Rank.calls a0 a1 t158 none _ A4.out).mono ?_); rintro e w' ⟨rfl, ⟨nd, rfl⟩⟩; refine ⟨_, rfl, ?_⟩; (try simp only [errW_none, errW_some])) | ((with_reducible refine gC (f := 15) rfl ?_); (with_reducible refine gD (N := 24) rfl ?_); refine goesY_ (some 24) Try.func15 #[.int .i64 a0, .int .u64 a2] ?_; (with_reducible refine (shape_Rank.calls a0 a2 t161 t162 _ A5.out).mono ?_); rintro e w' ⟨rfl, ⟨nd, rfl⟩⟩; refine ⟨_, rfl, ?_⟩; (try simp only [errW_none, errW_some])))
      go_ret2
      exact ⟨by first | rfl | (simp; done) | (simp [*]; done), by repeat (first | exact Drawn0.refl _ | apply Drawn0.step)⟩
    · rw [if_neg c6] at H
      have c6b0 : decide (t158 < t161) = false := decide_eq_false c6
      clear c6
      simp only [Option.some.injEq, Prod.mk.injEq] at H
      obtain ⟨rfl, rfl⟩ := H
      go_enter Try.func7, Try.ntmps7
      go_wp2_with (first | ((with_reducible refine gC (f := 15) rfl ?_); (with_reducible refine gD (N := 15) rfl ?_); refine goesY_ (some 15) Try.func15 #[.int .i64 a0, .int .u64 a1] ?_; (with_reducible refine (shape_Rank.calls a0 a1 t158 none _ A4.out).mono ?_); rintro e w' ⟨rfl, ⟨nd, rfl⟩⟩; refine ⟨_, rfl, ?_⟩; (try simp only [errW_none, errW_some])) | ((with_reducible refine gC (f := 15) rfl ?_); (with_reducible refine gD (N := 24) rfl ?_); refine goesY_ (some 24) Try.func15 #[.int .i64 a0, .int .u64 a2] ?_; (with_reducible refine (shape_Rank.calls a0 a2 t161 t162 _ A5.out).mono ?_); rintro e w' ⟨rfl, ⟨nd, rfl⟩⟩; refine ⟨_, rfl, ?_⟩; (try simp only [errW_none, errW_some])))
      go_ret2
      exact ⟨by first | rfl | (simp; done) | (simp [*]; done), by repeat (first | exact Drawn0.refl _ | apply Drawn0.step)⟩
  · rw [if_neg (show ¬ (some q160).isNone = true by simp)] at H
    try simp only [Option.getD_some] at H
    try simp only [errW_none, errW_some]
    simp only [Option.some.injEq, Prod.mk.injEq] at H
    obtain ⟨rfl, rfl⟩ := H
    go_enter Try.func7, Try.ntmps7
    go_wp2_with (first | ((with_reducible refine gC (f := 15) rfl ?_); (with_reducible refine gD (N := 15) rfl ?_); refine goesY_ (some 15) Try.func15 #[.int .i64 a0, .int .u64 a1] ?_; (with_reducible refine (shape_Rank.calls a0 a1 t158 (some q160) _ A4.out).mono ?_); rintro e w' ⟨rfl, ⟨nd, rfl⟩⟩; refine ⟨_, rfl, ?_⟩; (try simp only [errW_none, errW_some])))
    go_ret2
    exact ⟨by first | rfl | (simp; done) | (simp [*]; done), by repeat (first | exact Drawn0.refl _ | apply Drawn0.step)⟩
def order_Min.f (a0 : Int) (a1 : Int) (a2 : Int) : Option (Int × Option Int) := (order_Cmp.f a0 a1 a2).bind fun bt163 => (if bt163.1 > 0 then ((shape_Fold.f a0 a2).bind fun bt165 => (some (bt165.1, bt165.2))) else ((shape_Fold.f a0 a1).bind fun bt167 => (some (bt167.1, bt167.2))))
set_option maxHeartbeats 8000000 in
set_option maxRecDepth 100000 in
theorem order_Min.calls (a0 : Int) (a1 : Int) (a2 : Int) (r1 : Int) (r2 : Option Int) (w : World) (h : order_Min.f a0 a1 a2 = some (r1, r2)) :
    Calls Try.prog 9 #[.int .i64 a0, .int .u64 a1, .int .u64 a2] w fun e w' => e = .returned (.tuple #[.int .u64 r1, errW r2]) ∧ Drawn0 w w' := by
  have H : ((order_Cmp.f a0 a1 a2).bind fun bt163 => (if bt163.1 > 0 then ((shape_Fold.f a0 a2).bind fun bt165 => (some (bt165.1, bt165.2))) else ((shape_Fold.f a0 a1).bind fun bt167 => (some (bt167.1, bt167.2))))) = some (r1, r2) := h
  clear h
  replace H := Option.bind_eq_some_iff.mp H
  obtain ⟨⟨t163, t164⟩, A40, H⟩ := H
  try dsimp -simprocs only at H
  have A4 := Aside0.mk A40
  clear A40
  by_cases c5 : t163 > 0
  · rw [if_pos c5] at H
    have c5b0 : decide (0 < t163) = true := decide_eq_true c5
    clear c5
    replace H := Option.bind_eq_some_iff.mp H
    obtain ⟨⟨t165, t166⟩, A60, H⟩ := H
    try dsimp -simprocs only at H
    have A6 := Aside0.mk A60
    clear A60
    simp only [Option.some.injEq, Prod.mk.injEq] at H
    obtain ⟨rfl, rfl⟩ := H
    go_enter Try.func9, Try.ntmps9
    go_wp2_with (first | ((with_reducible refine gC (f := 8) rfl ?_); (with_reducible refine gD (N := 14) rfl ?_); refine goesY_ (some 14) Try.func8 #[.int .i64 a0, .int .u64 a1, .int .u64 a2] ?_; (with_reducible refine (order_Cmp.calls a0 a1 a2 t163 t164 _ A4.out).mono ?_); rintro e w' ⟨rfl, ⟨nd, rfl⟩⟩; refine ⟨_, rfl, ?_⟩; (try simp only [errW_none, errW_some])) | ((with_reducible refine gC (f := 14) rfl ?_); (with_reducible refine gD (N := 22) rfl ?_); refine goesY_ (some 22) Try.func14 #[.int .i64 a0, .int .u64 a2] ?_; (with_reducible refine (shape_Fold.calls a0 a2 t165 t166 _ A6.out).mono ?_); rintro e w' ⟨rfl, ⟨nd, rfl⟩⟩; refine ⟨_, rfl, ?_⟩; (try simp only [errW_none, errW_some])))
    go_ret2
    exact ⟨by first | rfl | (simp; done) | (simp [*]; done), by repeat (first | exact Drawn0.refl _ | apply Drawn0.step)⟩
  · rw [if_neg c5] at H
    have c5b0 : decide (0 < t163) = false := decide_eq_false c5
    clear c5
    replace H := Option.bind_eq_some_iff.mp H
    obtain ⟨⟨t167, t168⟩, A70, H⟩ := H
    try dsimp -simprocs only at H
    have A7 := Aside0.mk A70
    clear A70
    simp only [Option.some.injEq, Prod.mk.injEq] at H
    obtain ⟨rfl, rfl⟩ := H
    go_enter Try.func9, Try.ntmps9
    go_wp2_with (first | ((with_reducible refine gC (f := 8) rfl ?_); (with_reducible refine gD (N := 14) rfl ?_); refine goesY_ (some 14) Try.func8 #[.int .i64 a0, .int .u64 a1, .int .u64 a2] ?_; (with_reducible refine (order_Cmp.calls a0 a1 a2 t163 t164 _ A4.out).mono ?_); rintro e w' ⟨rfl, ⟨nd, rfl⟩⟩; refine ⟨_, rfl, ?_⟩; (try simp only [errW_none, errW_some])) | ((with_reducible refine gC (f := 14) rfl ?_); (with_reducible refine gD (N := 22) rfl ?_); refine goesY_ (some 22) Try.func14 #[.int .i64 a0, .int .u64 a1] ?_; (with_reducible refine (shape_Fold.calls a0 a1 t167 t168 _ A7.out).mono ?_); rintro e w' ⟨rfl, ⟨nd, rfl⟩⟩; refine ⟨_, rfl, ?_⟩; (try simp only [errW_none, errW_some])))
    go_ret2
    exact ⟨by first | rfl | (simp; done) | (simp [*]; done), by repeat (first | exact Drawn0.refl _ | apply Drawn0.step)⟩
def order_Max.f (a0 : Int) (a1 : Int) (a2 : Int) : Option (Int × Option Int) := (order_Cmp.f a0 a1 a2).bind fun bt169 => (if bt169.1 < 0 then ((shape_Fold.f a0 a2).bind fun bt171 => (some (bt171.1, bt171.2))) else ((shape_Fold.f a0 a1).bind fun bt173 => (some (bt173.1, bt173.2))))
set_option maxHeartbeats 8000000 in
set_option maxRecDepth 100000 in
theorem order_Max.calls (a0 : Int) (a1 : Int) (a2 : Int) (r1 : Int) (r2 : Option Int) (w : World) (h : order_Max.f a0 a1 a2 = some (r1, r2)) :
    Calls Try.prog 10 #[.int .i64 a0, .int .u64 a1, .int .u64 a2] w fun e w' => e = .returned (.tuple #[.int .u64 r1, errW r2]) ∧ Drawn0 w w' := by
  have H : ((order_Cmp.f a0 a1 a2).bind fun bt169 => (if bt169.1 < 0 then ((shape_Fold.f a0 a2).bind fun bt171 => (some (bt171.1, bt171.2))) else ((shape_Fold.f a0 a1).bind fun bt173 => (some (bt173.1, bt173.2))))) = some (r1, r2) := h
  clear h
  replace H := Option.bind_eq_some_iff.mp H
  obtain ⟨⟨t169, t170⟩, A40, H⟩ := H
  try dsimp -simprocs only at H
  have A4 := Aside0.mk A40
  clear A40
  by_cases c5 : t169 < 0
  · rw [if_pos c5] at H
    have c5b0 : decide (t169 < 0) = true := decide_eq_true c5
    clear c5
    replace H := Option.bind_eq_some_iff.mp H
    obtain ⟨⟨t171, t172⟩, A60, H⟩ := H
    try dsimp -simprocs only at H
    have A6 := Aside0.mk A60
    clear A60
    simp only [Option.some.injEq, Prod.mk.injEq] at H
    obtain ⟨rfl, rfl⟩ := H
    go_enter Try.func10, Try.ntmps10
    go_wp2_with (first | ((with_reducible refine gC (f := 8) rfl ?_); (with_reducible refine gD (N := 14) rfl ?_); refine goesY_ (some 14) Try.func8 #[.int .i64 a0, .int .u64 a1, .int .u64 a2] ?_; (with_reducible refine (order_Cmp.calls a0 a1 a2 t169 t170 _ A4.out).mono ?_); rintro e w' ⟨rfl, ⟨nd, rfl⟩⟩; refine ⟨_, rfl, ?_⟩; (try simp only [errW_none, errW_some])) | ((with_reducible refine gC (f := 14) rfl ?_); (with_reducible refine gD (N := 22) rfl ?_); refine goesY_ (some 22) Try.func14 #[.int .i64 a0, .int .u64 a2] ?_; (with_reducible refine (shape_Fold.calls a0 a2 t171 t172 _ A6.out).mono ?_); rintro e w' ⟨rfl, ⟨nd, rfl⟩⟩; refine ⟨_, rfl, ?_⟩; (try simp only [errW_none, errW_some])))
    go_ret2
    exact ⟨by first | rfl | (simp; done) | (simp [*]; done), by repeat (first | exact Drawn0.refl _ | apply Drawn0.step)⟩
  · rw [if_neg c5] at H
    have c5b0 : decide (t169 < 0) = false := decide_eq_false c5
    clear c5
    replace H := Option.bind_eq_some_iff.mp H
    obtain ⟨⟨t173, t174⟩, A70, H⟩ := H
    try dsimp -simprocs only at H
    have A7 := Aside0.mk A70
    clear A70
    simp only [Option.some.injEq, Prod.mk.injEq] at H
    obtain ⟨rfl, rfl⟩ := H
    go_enter Try.func10, Try.ntmps10
    go_wp2_with (first | ((with_reducible refine gC (f := 8) rfl ?_); (with_reducible refine gD (N := 14) rfl ?_); refine goesY_ (some 14) Try.func8 #[.int .i64 a0, .int .u64 a1, .int .u64 a2] ?_; (with_reducible refine (order_Cmp.calls a0 a1 a2 t169 t170 _ A4.out).mono ?_); rintro e w' ⟨rfl, ⟨nd, rfl⟩⟩; refine ⟨_, rfl, ?_⟩; (try simp only [errW_none, errW_some])) | ((with_reducible refine gC (f := 14) rfl ?_); (with_reducible refine gD (N := 22) rfl ?_); refine goesY_ (some 22) Try.func14 #[.int .i64 a0, .int .u64 a1] ?_; (with_reducible refine (shape_Fold.calls a0 a1 t173 t174 _ A7.out).mono ?_); rintro e w' ⟨rfl, ⟨nd, rfl⟩⟩; refine ⟨_, rfl, ?_⟩; (try simp only [errW_none, errW_some])))
    go_ret2
    exact ⟨by first | rfl | (simp; done) | (simp [*]; done), by repeat (first | exact Drawn0.refl _ | apply Drawn0.step)⟩
def order_Clamp.l0 : Nat → Int → Int → Int → Int → List Int → Int → Int → Option (Int × Option Int)
  | 0, _, _, _, _, _, _, _ => none
  | k + 1, x0, x1, x2, x3, x19, x20, x21 => if x21 < x20 then (if 0 ≤ x21 then (if x21 < (x19.length : Int) then ((shape_Kind.f x0 (rd x19 x21)).bind fun bt182 => (if bt182.2.isNone = true then (if bt182.1 = 2 then (some (0, some 9)) else (order_Clamp.l0 k x0 x1 x2 x3 x19 x20 (wrap64 (x21 + 1)))) else (some (0, some (bt182.2.getD 0))))) else (none)) else (none)) else ((order_Cmp.f x0 x2 x3).bind fun bt185 => (if bt185.1 > 0 then (some (0, some 1)) else ((order_Max.f x0 x1 x2).bind fun bt187 => ((order_Min.f x0 bt187.1 x3).bind fun bt189 => (some (bt189.1, bt189.2))))))
def order_Clamp.f (k : Nat) (a0 : Int) (a1 : Int) (a2 : Int) (a3 : Int) : Option (Int × Option Int) := (some (([a1, a2, a3] : List Int) : List Int)).bind fun y178 => (order_Clamp.l0 k a0 a1 a2 a3 y178 (y178.length : Int) 0)
set_option maxHeartbeats 8000000 in
set_option maxRecDepth 100000 in
theorem order_Clamp.calls (k : Nat) (a0 : Int) (a1 : Int) (a2 : Int) (a3 : Int) (r1 : Int) (r2 : Option Int) (w : World) (h : order_Clamp.f k a0 a1 a2 a3 = some (r1, r2)) :
    Calls Try.prog 11 #[.int .i64 a0, .int .u64 a1, .int .u64 a2, .int .u64 a3] w fun e w' => e = .returned (.tuple #[.int .u64 r1, errW r2]) ∧ Below w.heap.size w w' := by
  have hu25 := Try.underlying25
  have hu29 := Try.underlying29
  have HB := Aside0.mk (Below.refl w.heap.size w)
  have H : ((some (([a1, a2, a3] : List Int) : List Int)).bind fun y178 => (order_Clamp.l0 k a0 a1 a2 a3 y178 (y178.length : Int) 0)) = some (r1, r2) := h
  clear h
  obtain ⟨y178, hy178⟩ : ∃ y_ : List Int, y_ = (([a1, a2, a3] : List Int)) := ⟨_, rfl⟩
  replace H : (order_Clamp.l0 k a0 a1 a2 a3 y178 (y178.length : Int) 0) = some (r1, r2) := by first | (rw [hy178]; with_reducible exact H) | (have H2_ := (Option.bind_some _ _).symm.trans H; rw [hy178]; with_reducible exact H2_) | (have H2_ := (Option.bind_some _ _).symm.trans H; with_reducible exact H2_) | with_reducible exact H | (rw [hy178]; exact H) | exact H
  have Ny178 := Aside0.mk hy178
  clear hy178
  have H' := Aside0.mk H
  clear H
  go_enter Try.func11, Try.ntmps11
  go_wp2_with (first | ((with_reducible refine gD (N := 19) rfl ?_); refine Kd.R_lit (Kd.int .u64) _ 22 ?hg (N := 19) ?hd (xs := ([a1, a2, a3] : List Int)) (inner := [.int .u64 a1, .int .u64 a2, .int .u64 a3]) (ok := fun _ => True) (okp := fun _ => True) ?hr ?hp (fun _ hk => hk) trivial (Below.refl _ _) (Nat.le_refl _) (by simp) ?_; (case hd => rfl); (case hg => rfl); (case hr => first | (go_simp; done) | (go_simp; rfl)); (case hp => exact (Reps.one (show Kd.M (Kd.int .u64) _ _ _ a1 [.int .u64 a1] from rfl) (Reps.one (show Kd.M (Kd.int .u64) _ _ _ a2 [.int .u64 a2] from rfl) (Reps.one (show Kd.M (Kd.int .u64) _ _ _ a3 [.int .u64 a3] from rfl) (Reps.none _ _))))); intro v179 w5 ho6 hb hg_ hnew_; clear hg_ hnew_; (first | rw [← Ny178.out] at ho6 | (simp only [Int.reduceToNat] at ho6; rw [← Ny178.out] at ho6)); have n0_ := Aside0.mk (Kd.R_lower ho6 (bZ (bR3 HB.out))); have n1_ := Aside0.mk (bS3 HB.out hb); clear HB; have HO180 := n0_; have HB := n1_; clear n0_ n1_; clear hb ho6; obtain ⟨Ao7, co7, eo7⟩ := Kd.R_slice HO180.out; subst eo7))
  go_loopg [21] k (fun kq v21 w' => ∃ (x21_1 : Int), v21 = .int .i64 x21_1 ∧ Aside0 (order_Clamp.l0 kq a0 a1 a2 a3 y178 (y178.length : Int) x21_1 = some (r1, r2)) ∧ Aside0 (kq ≤ k) ∧ Aside0 (Kd.R (Kd.int .u64) 22 w' w.heap.size (fun _ => True) (.slice Ao7 y178.length co7) y178) ∧ Aside0 (Below w.heap.size w w'))
  case atStart => exact ⟨(0), (by first | rfl | (simp; done) | (simp [*]; done)), H', ⟨Nat.le_refl _⟩, ⟨by (with_reducible repeat (first | apply Kd.R_alloc | apply Kd.R_drewN | apply Kd.R_drew)); exact HO180.out⟩, ⟨bR3 HB.out⟩⟩
  case round =>
    clear H'
    try clear c1
    try clear p2
    obtain ⟨x21_1, rfl, HA, HK1, HO_19, HB⟩ := hrel
    cases gk with
    | zero => exact absurd HA.out (by simp [order_Clamp.l0])
    | succ k1 =>
      have H := HA.out
      clear HA
      simp only [order_Clamp.l0] at H
      by_cases c8 : x21_1 < (y178.length : Int)
      · rw [if_pos c8] at H
        have c8b0 : decide (x21_1 < (y178.length : Int)) = true := decide_eq_true c8
        clear c8
        by_cases c9 : 0 ≤ x21_1
        · rw [if_pos c9] at H
          have c9b0 : decide (0 ≤ x21_1) = true := decide_eq_true c9
          clear c9
          by_cases c10 : x21_1 < (y178.length : Int)
          · rw [if_pos c10] at H
            have c10b0 : decide (x21_1 < (y178.length : Int)) = true := decide_eq_true c10
            clear c10
            replace H := Option.bind_eq_some_iff.mp H
            obtain ⟨⟨t182, t183⟩, A110, H⟩ := H
            try dsimp -simprocs only at H
            have A11 := Aside0.mk A110
            clear A110
            rcases t183 with _ | q184
            · rw [if_pos (show (none : Option Int).isNone = true by rfl)] at H
              try simp only [Option.getD_some] at H
              try simp only [errW_none, errW_some]
              by_cases c12 : t182 = 2
              · rw [if_pos c12] at H
                have c12b0 : (t182 == 2) = true := beq_iff_eq.mpr c12
                have c12b1 : (t182 != 2) = false := bne_eq_false_iff_eq.mpr c12
                clear c12
                simp only [Option.some.injEq, Prod.mk.injEq] at H
                obtain ⟨rfl, rfl⟩ := H
                have p181 : 0 ≤ (x21_1 : Int) := of_decide_eq_true (by first | (with_reducible assumption) | assumption)
                have q181 : x21_1 < (y178.length : Int) := of_decide_eq_true (by first | (with_reducible assumption) | assumption)
                obtain ⟨ad181, e181, hx181_0⟩ := Kd.at_int (Kd.R_reads' HO_19.out).2.2 x21_1 p181 q181
                cases e181
                replace p181 := eq_true p181
                replace q181 := eq_true q181
                go_wp2_with (first | ((with_reducible refine gC (f := 16) rfl ?_); (with_reducible refine gD (N := 28) rfl ?_); refine goesY_ (some 28) Try.func16 #[.int .i64 a0, .int .u64 (rd y178 x21_1)] ?_; (with_reducible refine (shape_Kind.calls a0 (rd y178 x21_1) t182 none _ A11.out).mono ?_); rintro e w' ⟨rfl, ⟨nd, rfl⟩⟩; refine ⟨_, rfl, ?_⟩; (try simp only [errW_none, errW_some])))
                go_ret2
                exact ⟨eR3, bR3 HB.out⟩
              · rw [if_neg c12] at H
                have c12b0 : (t182 == 2) = false := beq_eq_false_iff_ne.mpr c12
                have c12b1 : (t182 != 2) = true := bne_iff_ne.mpr c12
                have H' := Aside0.mk H
                clear H
                have p181 : 0 ≤ (x21_1 : Int) := of_decide_eq_true (by first | (with_reducible assumption) | assumption)
                have q181 : x21_1 < (y178.length : Int) := of_decide_eq_true (by first | (with_reducible assumption) | assumption)
                obtain ⟨ad181, e181, hx181_0⟩ := Kd.at_int (Kd.R_reads' HO_19.out).2.2 x21_1 p181 q181
                cases e181
                replace p181 := eq_true p181
                replace q181 := eq_true q181
                go_wp2_with (first | ((with_reducible refine gC (f := 16) rfl ?_); (with_reducible refine gD (N := 28) rfl ?_); refine goesY_ (some 28) Try.func16 #[.int .i64 a0, .int .u64 (rd y178 x21_1)] ?_; (with_reducible refine (shape_Kind.calls a0 (rd y178 x21_1) t182 none _ A11.out).mono ?_); rintro e w' ⟨rfl, ⟨nd, rfl⟩⟩; refine ⟨_, rfl, ?_⟩; (try simp only [errW_none, errW_some])))
                go_roundg k1
                case measure => have := HK1.out; omega
                case rel => exact ⟨(wrap64 (x21_1 + 1)), (by first | rfl | (simp; done) | (simp [*]; done)), H', ⟨by have := HK1.out; omega⟩, ⟨by (with_reducible repeat (first | apply Kd.R_alloc | apply Kd.R_drewN | apply Kd.R_drew)); exact HO_19.out⟩, ⟨bR3 HB.out⟩⟩
            · rw [if_neg (show ¬ (some q184).isNone = true by simp)] at H
              try simp only [Option.getD_some] at H
              try simp only [errW_none, errW_some]
              simp only [Option.some.injEq, Prod.mk.injEq] at H
              obtain ⟨rfl, rfl⟩ := H
              have p181 : 0 ≤ (x21_1 : Int) := of_decide_eq_true (by first | (with_reducible assumption) | assumption)
              have q181 : x21_1 < (y178.length : Int) := of_decide_eq_true (by first | (with_reducible assumption) | assumption)
              obtain ⟨ad181, e181, hx181_0⟩ := Kd.at_int (Kd.R_reads' HO_19.out).2.2 x21_1 p181 q181
              cases e181
              replace p181 := eq_true p181
              replace q181 := eq_true q181
              go_wp2_with (first | ((with_reducible refine gC (f := 16) rfl ?_); (with_reducible refine gD (N := 28) rfl ?_); refine goesY_ (some 28) Try.func16 #[.int .i64 a0, .int .u64 (rd y178 x21_1)] ?_; (with_reducible refine (shape_Kind.calls a0 (rd y178 x21_1) t182 (some q184) _ A11.out).mono ?_); rintro e w' ⟨rfl, ⟨nd, rfl⟩⟩; refine ⟨_, rfl, ?_⟩; (try simp only [errW_none, errW_some])))
              go_ret2
              exact ⟨eR3, bR3 HB.out⟩
          · rw [if_neg c10] at H
            exact absurd H (by simp)
        · rw [if_neg c9] at H
          exact absurd H (by simp)
      · rw [if_neg c8] at H
        have c8b0 : decide (x21_1 < (y178.length : Int)) = false := decide_eq_false c8
        clear c8
        replace H := Option.bind_eq_some_iff.mp H
        obtain ⟨⟨t185, t186⟩, A130, H⟩ := H
        try dsimp -simprocs only at H
        have A13 := Aside0.mk A130
        clear A130
        by_cases c14 : t185 > 0
        · rw [if_pos c14] at H
          have c14b0 : decide (0 < t185) = true := decide_eq_true c14
          clear c14
          simp only [Option.some.injEq, Prod.mk.injEq] at H
          obtain ⟨rfl, rfl⟩ := H
          go_wp2_with (first | ((with_reducible refine gC (f := 8) rfl ?_); (with_reducible refine gD (N := 42) rfl ?_); refine goesY_ (some 42) Try.func8 #[.int .i64 a0, .int .u64 a2, .int .u64 a3] ?_; (with_reducible refine (order_Cmp.calls a0 a2 a3 t185 t186 _ A13.out).mono ?_); rintro e w' ⟨rfl, ⟨nd, rfl⟩⟩; refine ⟨_, rfl, ?_⟩; (try simp only [errW_none, errW_some])))
          go_ret2
          exact ⟨eR3, bR3 HB.out⟩
        · rw [if_neg c14] at H
          have c14b0 : decide (0 < t185) = false := decide_eq_false c14
          clear c14
          replace H := Option.bind_eq_some_iff.mp H
          obtain ⟨⟨t187, t188⟩, A150, H⟩ := H
          try dsimp -simprocs only at H
          have A15 := Aside0.mk A150
          clear A150
          replace H := Option.bind_eq_some_iff.mp H
          obtain ⟨⟨t189, t190⟩, A160, H⟩ := H
          try dsimp -simprocs only at H
          have A16 := Aside0.mk A160
          clear A160
          simp only [Option.some.injEq, Prod.mk.injEq] at H
          obtain ⟨rfl, rfl⟩ := H
          go_wp2_with (first | ((with_reducible refine gC (f := 8) rfl ?_); (with_reducible refine gD (N := 42) rfl ?_); refine goesY_ (some 42) Try.func8 #[.int .i64 a0, .int .u64 a2, .int .u64 a3] ?_; (with_reducible refine (order_Cmp.calls a0 a2 a3 t185 t186 _ A13.out).mono ?_); rintro e w' ⟨rfl, ⟨nd, rfl⟩⟩; refine ⟨_, rfl, ?_⟩; (try simp only [errW_none, errW_some])) | ((with_reducible refine gC (f := 10) rfl ?_); (with_reducible refine gD (N := 52) rfl ?_); refine goesY_ (some 52) Try.func10 #[.int .i64 a0, .int .u64 a1, .int .u64 a2] ?_; (with_reducible refine (order_Max.calls a0 a1 a2 t187 t188 _ A15.out).mono ?_); rintro e w' ⟨rfl, ⟨nd, rfl⟩⟩; refine ⟨_, rfl, ?_⟩; (try simp only [errW_none, errW_some])) | ((with_reducible refine gC (f := 9) rfl ?_); (with_reducible refine gD (N := 58) rfl ?_); refine goesY_ (some 58) Try.func9 #[.int .i64 a0, .int .u64 t187, .int .u64 a3] ?_; (with_reducible refine (order_Min.calls a0 t187 a3 t189 t190 _ A16.out).mono ?_); rintro e w' ⟨rfl, ⟨nd, rfl⟩⟩; refine ⟨_, rfl, ?_⟩; (try simp only [errW_none, errW_some])))
          go_ret2
          exact ⟨eR3, bR3 HB.out⟩
end Go.Proofs.Ytikbelfghkfnnaa.F
