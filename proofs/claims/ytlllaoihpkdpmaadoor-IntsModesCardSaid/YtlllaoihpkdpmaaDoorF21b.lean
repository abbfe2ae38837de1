/- Functions of the given program as plain Lean functions, and for each a proof that the program's call comes to just these answers; no further conditions. (Written by a program of this repo out of the translation.) -/
import Derived.Test.YtlllaoihpkdpmaaDoorF0b
import Derived.Test.YtlllaoihpkdpmaaDoorF3b
namespace Go.Proofs.YtlllaoihpkdpmaaDoor.F
open Go.RowKit Go.Proofs.YtlllaoihpkdpmaaDoorW.PrintWords Go.Proofs.YtlllaoihpkdpmaaDoorW.PrintLast Go.Proofs.YtlllaoihpkdpmaaDoorW.PrintMore
attribute [local go_sem high] xor_u64 xor_u32 eqErr25 neErr25 eqErrL25 neErrL25
attribute [local go_sem] max2_int min2_int max_two min_two max_three min_three max_four min_four   -- for this text's walks alone
set_option linter.unusedVariables false
set_option linter.unusedSimpArgs false
def order_Cmp.f (a0 : Int) (a1 : Int) (a2 : Int) : Option (Int × Option Int) := (shape_Rank.f a0 a1).bind fun bt584 => (if bt584.2.isNone = true then ((shape_Rank.f a0 a2).bind fun bt587 => (if bt584.1 < bt587.1 then (some ((-1), bt587.2)) else (if bt584.1 > bt587.1 then (some (1, bt587.2)) else (some (0, bt587.2))))) else (some (0, some (bt584.2.getD 0))))
set_option maxHeartbeats 8000000 in
set_option maxRecDepth 100000 in
theorem order_Cmp.calls (a0 : Int) (a1 : Int) (a2 : Int) (r1 : Int) (r2 : Option Int) (w : World) (h : order_Cmp.f a0 a1 a2 = some (r1, r2)) :
    Calls Tryd.prog 12 #[.int .i64 a0, .int .u64 a1, .int .u64 a2] w fun e w' => e = .returned (.tuple #[.int .i64 r1, errW r2]) ∧ Drawn0 w w' := by
  have hu25 := Tryd.underlying25
  have hu40 := Tryd.underlying40
  have H : ((shape_Rank.f a0 a1).bind fun bt584 => (if bt584.2.isNone = true then ((shape_Rank.f a0 a2).bind fun bt587 => (if bt584.1 < bt587.1 then (some ((-1), bt587.2)) else (if bt584.1 > bt587.1 then (some (1, bt587.2)) else (some (0, bt587.2))))) else (some (0, some (bt584.2.getD 0))))) = some (r1, r2) := h
  clear h
  replace H := Option.bind_eq_some_iff.mp H
  obtain ⟨⟨t584, t585⟩, A40, H⟩ := H
  try dsimp -simprocs only at H
  have A4 := Aside0.mk A40
  clear A40
  rcases t585 with _ | q586
  · rw [if_pos (show (none : Option Int).isNone = true by rfl)] at H
    try simp only [Option.getD_some] at H
    try simp only [errW_none, errW_some]
    replace H := Option.bind_eq_some_iff.mp H
    obtain ⟨⟨t587, t588⟩, A50, H⟩ := H
    try dsimp -simprocs only at H
    have A5 := Aside0.mk A50
    clear A50
    by_cases c6 : t584 < t587
    · rw [if_pos c6] at H
      have c6b0 : decide (t584 < t587) = true := decide_eq_true c6
      clear c6
      simp only [Option.some.injEq, Prod.mk.injEq] at H
      obtain ⟨rfl, rfl⟩ := H
      go_enter Tryd.func12, Tryd.ntmps12
      go_wp2_with (first | ((with_reducible refine gC (f := 29) rfl ?_); (with_reducible refine gD (N := 14) rfl ?_); refine goesY_ (some 14) Tryd.func29 #[.int .i64 a0, .int .u64 a1] ?_; (with_reducible refine (shape_Rank.calls a0 a1 t584 none _ A4.out).mono ?_); rintro e w' ⟨rfl, ⟨nd, rfl⟩⟩; refine ⟨_, rfl, ?_⟩; (try simp only [errW_none, errW_some])) | ((with_reducible refine gC (f := 29) rfl ?_); (with_reducible refine gD (N := 23) rfl ?_); refine goesY_ (some 23) Tryd.func29 #[.int .i64 a0, .int .u64 a2] ?_; (with_reducible refine (shape_Rank.calls a0 a2 t587 t588 _ A5.out).mono ?_); rintro e w' ⟨rfl, ⟨nd, rfl⟩⟩; refine ⟨_, rfl, ?_⟩; (try simp only [errW_none, errW_some])))
      go_ret2
      exact ⟨by first | rfl | (simp; done) | (simp [*]; done), by repeat (first | exact Drawn0.refl _ | apply Drawn0.step)⟩
    · rw [if_neg c6] at H
      have c6b0 : decide (t584 < t587) = false := decide_eq_false c6
      clear c6
      by_cases c7 : t584 > t587
      · rw [if_pos c7] at H
        have c7b0 : decide (t587 < t584) = true := decide_eq_true c7
        clear c7
        simp only [Option.some.injEq, Prod.mk.injEq] at H
        obtain ⟨rfl, rfl⟩ := H
        go_enter Tryd.func12, Tryd.ntmps12
        go_wp2_with (first | ((with_reducible refine gC (f := 29) rfl ?_); (with_reducible refine gD (N := 14) rfl ?_); refine goesY_ (some 14) Tryd.func29 #[.int .i64 a0, .int .u64 a1] ?_; (with_reducible refine (shape_Rank.calls a0 a1 t584 none _ A4.out).mono ?_); rintro e w' ⟨rfl, ⟨nd, rfl⟩⟩; refine ⟨_, rfl, ?_⟩; (try simp only [errW_none, errW_some])) | ((with_reducible refine gC (f := 29) rfl ?_); (with_reducible refine gD (N := 23) rfl ?_); refine goesY_ (some 23) Tryd.func29 #[.int .i64 a0, .int .u64 a2] ?_; (with_reducible refine (shape_Rank.calls a0 a2 t587 t588 _ A5.out).mono ?_); rintro e w' ⟨rfl, ⟨nd, rfl⟩⟩; refine ⟨_, rfl, ?_⟩; (try simp only [errW_none, errW_some])))
        go_ret2
        exact ⟨by first | rfl | (simp; done) | (simp [*]; done), by repeat (first | exact Drawn0.refl _ | apply Drawn0.step)⟩
      · rw [if_neg c7] at H
        have c7b0 : decide (t587 < t584) = false := decide_eq_false c7
        clear c7
        simp only [Option.some.injEq, Prod.mk.injEq] at H
        obtain ⟨rfl, rfl⟩ := H
        go_enter Tryd.func12, Tryd.ntmps12
        go_wp2_with (first | ((with_reducible refine gC (f := 29) rfl ?_); (with_reducible refine gD (N := 14) rfl ?_); refine goesY_ (some 14) Tryd.func29 #[.int .i64 a0, .int .u64 a1] ?_; (with_reducible refine (shape_Rank.calls a0 a1 t584 none _ A4.out).mono ?_); rintro e w' ⟨rfl, ⟨nd, rfl⟩⟩; refine ⟨_, rfl, ?_⟩; (try simp only [errW_none, errW_some])) | ((with_reducible refine gC (f := 29) rfl ?_); (with_reducible refine gD (N := 23) rfl ?_); refine goesY_ (some 23) Tryd.func29 #[.int .i64 a0, .int .u64 a2] ?_; (with_reducible refine (shape_Rank.calls a0 a2 t587 t588 _ A5.out).mono ?_); rintro e w' ⟨rfl, ⟨nd, rfl⟩⟩; refine ⟨_, rfl, ?_⟩; (try simp only [errW_none, errW_some])))
        go_ret2
        exact ⟨by first | rfl | (simp; done) | (simp [*]; done), by repeat (first | exact Drawn0.refl _ | apply Drawn0.step)⟩
  · rw [if_neg (show ¬ (some q586).isNone = true by simp)] at H
    try simp only [Option.getD_some] at H
    try simp only [errW_none, errW_some]
    simp only [Option.some.injEq, Prod.mk.injEq] at H
    obtain ⟨rfl, rfl⟩ := H
    go_enter Tryd.func12, Tryd.ntmps12
    go_wp2_with (first | ((with_reducible refine gC (f := 29) rfl ?_); (with_reducible refine gD (N := 14) rfl ?_); refine goesY_ (some 14) Tryd.func29 #[.int .i64 a0, .int .u64 a1] ?_; (with_reducible refine (shape_Rank.calls a0 a1 t584 (some q586) _ A4.out).mono ?_); rintro e w' ⟨rfl, ⟨nd, rfl⟩⟩; refine ⟨_, rfl, ?_⟩; (try simp only [errW_none, errW_some])))
    go_ret2
    exact ⟨by first | rfl | (simp; done) | (simp [*]; done), by repeat (first | exact Drawn0.refl _ | apply Drawn0.step)⟩
def order_Sign.f (a0 : Int) (a1 : Int) : Option (Int × Option Int) := (shape_Kind.f a0 a1).bind fun bt590 => (if bt590.2.isNone = true then (if bt590.1 = 2 then (some (0, some 9)) else ((order_Cmp.f a0 a1 0).bind fun bt593 => (some (bt593.1, bt593.2)))) else (some (0, some (bt590.2.getD 0))))
set_option maxHeartbeats 8000000 in
set_option maxRecDepth 100000 in
theorem order_Sign.calls (a0 : Int) (a1 : Int) (r1 : Int) (r2 : Option Int) (w : World) (h : order_Sign.f a0 a1 = some (r1, r2)) :
    Calls Tryd.prog 14 #[.int .i64 a0, .int .u64 a1] w fun e w' => e = .returned (.tuple #[.int .i64 r1, errW r2]) ∧ Drawn0 w w' := by
  have hu25 := Tryd.underlying25
  have hu40 := Tryd.underlying40
  have H : ((shape_Kind.f a0 a1).bind fun bt590 => (if bt590.2.isNone = true then (if bt590.1 = 2 then (some (0, some 9)) else ((order_Cmp.f a0 a1 0).bind fun bt593 => (some (bt593.1, bt593.2)))) else (some (0, some (bt590.2.getD 0))))) = some (r1, r2) := h
  clear h
  replace H := Option.bind_eq_some_iff.mp H
  obtain ⟨⟨t590, t591⟩, A30, H⟩ := H
  try dsimp -simprocs only at H
  have A3 := Aside0.mk A30
  clear A30
  rcases t591 with _ | q592
  · rw [if_pos (show (none : Option Int).isNone = true by rfl)] at H
    try simp only [Option.getD_some] at H
    try simp only [errW_none, errW_some]
    by_cases c4 : t590 = 2
    · rw [if_pos c4] at H
      have c4b0 : (t590 == 2) = true := beq_iff_eq.mpr c4
      have c4b1 : (t590 != 2) = false := bne_eq_false_iff_eq.mpr c4
      clear c4
      simp only [Option.some.injEq, Prod.mk.injEq] at H
      obtain ⟨rfl, rfl⟩ := H
      go_enter Tryd.func14, Tryd.ntmps14
      go_wp2_with (first | ((with_reducible refine gC (f := 31) rfl ?_); (with_reducible refine gD (N := 11) rfl ?_); refine goesY_ (some 11) Tryd.func31 #[.int .i64 a0, .int .u64 a1] ?_; (with_reducible refine (shape_Kind.calls a0 a1 t590 none _ A3.out).mono ?_); rintro e w' ⟨rfl, ⟨nd, rfl⟩⟩; refine ⟨_, rfl, ?_⟩; (try simp only [errW_none, errW_some])))
      go_ret2
      exact ⟨by first | rfl | (simp; done) | (simp [*]; done), by repeat (first | exact Drawn0.refl _ | apply Drawn0.step)⟩
    · rw [if_neg c4] at H
      have c4b0 : (t590 == 2) = false := beq_eq_false_iff_ne.mpr c4
      have c4b1 : (t590 != 2) = true := bne_iff_ne.mpr c4
      replace H := Option.bind_eq_some_iff.mp H
      obtain ⟨⟨t593, t594⟩, A50, H⟩ := H
      try dsimp -simprocs only at H
      have A5 := Aside0.mk A50
      clear A50
      simp only [Option.some.injEq, Prod.mk.injEq] at H
      obtain ⟨rfl, rfl⟩ := H
      go_enter Tryd.func14, Tryd.ntmps14
      go_wp2_with (first | ((with_reducible refine gC (f := 31) rfl ?_); (with_reducible refine gD (N := 11) rfl ?_); refine goesY_ (some 11) Tryd.func31 #[.int .i64 a0, .int .u64 a1] ?_; (with_reducible refine (shape_Kind.calls a0 a1 t590 none _ A3.out).mono ?_); rintro e w' ⟨rfl, ⟨nd, rfl⟩⟩; refine ⟨_, rfl, ?_⟩; (try simp only [errW_none, errW_some])) | ((with_reducible refine gC (f := 12) rfl ?_); (with_reducible refine gD (N := 24) rfl ?_); refine goesY_ (some 24) Tryd.func12 #[.int .i64 a0, .int .u64 a1, .int .u64 0] ?_; (with_reducible refine (order_Cmp.calls a0 a1 0 t593 t594 _ A5.out).mono ?_); rintro e w' ⟨rfl, ⟨nd, rfl⟩⟩; refine ⟨_, rfl, ?_⟩; (try simp only [errW_none, errW_some])))
      go_ret2
      exact ⟨by first | rfl | (simp; done) | (simp [*]; done), by repeat (first | exact Drawn0.refl _ | apply Drawn0.step)⟩
  · rw [if_neg (show ¬ (some q592).isNone = true by simp)] at H
    try simp only [Option.getD_some] at H
    try simp only [errW_none, errW_some]
    simp only [Option.some.injEq, Prod.mk.injEq] at H
    obtain ⟨rfl, rfl⟩ := H
    go_enter Tryd.func14, Tryd.ntmps14
    go_wp2_with (first | ((with_reducible refine gC (f := 31) rfl ?_); (with_reducible refine gD (N := 11) rfl ?_); refine goesY_ (some 11) Tryd.func31 #[.int .i64 a0, .int .u64 a1] ?_; (with_reducible refine (shape_Kind.calls a0 a1 t590 (some q592) _ A3.out).mono ?_); rintro e w' ⟨rfl, ⟨nd, rfl⟩⟩; refine ⟨_, rfl, ?_⟩; (try simp only [errW_none, errW_some])))
    go_ret2
    exact ⟨by first | rfl | (simp; done) | (simp [*]; done), by repeat (first | exact Drawn0.refl _ | apply Drawn0.step)⟩
end Go.Proofs.YtlllaoihpkdpmaaDoor.F
