/- Functions of the given program as plain Lean functions, and for each a proof that the program's call comes to just these answers; no further conditions. (Written by a program of this repo out of the translation.) -/
import Derived.Test.YtlllaoihpkdpmaaF0a
import Derived.Test.YtlllaoihpkdpmaaF12a
import Derived.Test.YtlllaoihpkdpmaaF13a
import Derived.Test.YtlllaoihpkdpmaaF14a
import Derived.Test.YtlllaoihpkdpmaaF16a
namespace Go.Proofs.Ytlllaoihpkdpmaa.F
open Go.RowKit Go.Proofs.YtlllaoihpkdpmaaW.PrintWords Go.Proofs.YtlllaoihpkdpmaaW.PrintLast Go.Proofs.YtlllaoihpkdpmaaW.PrintMore
attribute [local go_sem high] xor_u64 xor_u32 eqErr25 neErr25 eqErrL25 neErrL25
attribute [local go_sem] max2_int min2_int max_two min_two max_three min_three max_four min_four   -- for this text's walks alone
set_option linter.unusedVariables false
set_option linter.unusedSimpArgs false
def vernierref16_From.f (k : Nat) (a0 : Int) (a1 : Bool) (a2 : Int) : Option (Int × Int) := (vernierref05_Is.f a0).bind fun t419 => (if t419 = true then ((vernierref04_Of.f k a2).bind fun t420 => ((vernierref07_Exactly.f k a1 t420 0 false).bind fun bt423 => ((vernierref07_Round.f k a0 bt423.1 bt423.2.1 bt423.2.2.1 bt423.2.2.2.1 bt423.2.2.2.2.1 bt423.2.2.2.2.2).bind fun t430 => (some (t430, 0))))) else (some (0, 2)))
set_option maxHeartbeats 8000000 in
set_option maxRecDepth 100000 in
theorem vernierref16_From.calls (k : Nat) (a0 : Int) (a1 : Bool) (a2 : Int) (r1 : Int) (r2 : Int) (w : World) (h : vernierref16_From.f k a0 a1 a2 = some (r1, r2)) :
    Calls Try.prog 10 #[.int .i64 a0, .bool a1, .int .u64 a2] w fun e w' => e = .returned (.tuple #[.int .u64 r1, .int .i64 r2]) ∧ Below w.heap.size w w' := by
  have hu51 := Try.underlying51
  have HB := Aside0.mk (Below.refl w.heap.size w)
  have H : ((vernierref05_Is.f a0).bind fun t419 => (if t419 = true then ((vernierref04_Of.f k a2).bind fun t420 => ((vernierref07_Exactly.f k a1 t420 0 false).bind fun bt423 => ((vernierref07_Round.f k a0 bt423.1 bt423.2.1 bt423.2.2.1 bt423.2.2.2.1 bt423.2.2.2.2.1 bt423.2.2.2.2.2).bind fun t430 => (some (t430, 0))))) else (some (0, 2)))) = some (r1, r2) := h
  clear h
  replace H := Option.bind_eq_some_iff.mp H
  obtain ⟨t419, A40, H⟩ := H
  try dsimp -simprocs only at H
  have A4 := Aside0.mk A40
  clear A40
  by_cases c5 : t419 = true
  · subst c5
    rw [if_pos rfl] at H
    replace H := Option.bind_eq_some_iff.mp H
    obtain ⟨t420, A60, H⟩ := H
    try dsimp -simprocs only at H
    have A6 := Aside0.mk A60
    clear A60
    replace H := Option.bind_eq_some_iff.mp H
    obtain ⟨⟨t423, t424, t425, t426, t427, t428⟩, A70, H⟩ := H
    try dsimp -simprocs only at H
    have A7 := Aside0.mk A70
    clear A70
    replace H := Option.bind_eq_some_iff.mp H
    obtain ⟨t430, A80, H⟩ := H
    try dsimp -simprocs only at H
    have A8 := Aside0.mk A80
    clear A80
    simp only [Option.some.injEq, Prod.mk.injEq] at H
    obtain ⟨rfl, rfl⟩ := H
    go_enter Try.func10, Try.ntmps10
    go_wp2_with (first | ((with_reducible refine gC (f := 24) rfl ?_); (with_reducible refine gD (N := 11) rfl ?_); refine goesY_ (some 11) Try.func24 #[.int .i64 a0] ?_; (with_reducible refine (vernierref05_Is.calls a0 true _ A4.out).mono ?_); rintro e w' ⟨rfl, ⟨nd, rfl⟩⟩; refine ⟨_, rfl, ?_⟩) | ((with_reducible refine gC (f := 26) rfl ?_); (with_reducible refine gD (N := 16) rfl ?_); refine goesY_ (some 16) Try.func26 #[.int .u64 a2] ?_; (with_reducible refine (vernierref04_Of.calls k a2 t420 _ A6.out).mono ?_); rintro e w9 ⟨v421, rfl, ho0, hb⟩; refine ⟨_, rfl, ?_⟩; have n0_ := Aside0.mk (Kd.R_lower ho0 (bZ (bR3 HB.out))); have n1_ := Aside0.mk (bS3 HB.out hb); clear HB; have HO422 := n0_; have HB := n1_; clear n0_ n1_; (try clear hb); (try clear hb2); (try clear hk); (try clear hi); (try clear ho0); obtain ⟨Ao10, co10, eo10⟩ := Kd.R_slice HO422.out; subst eo10) | ((with_reducible refine gC (f := 25) rfl ?_); (with_reducible refine gD (N := 17) rfl ?_); refine goesY_ (some 17) Try.func25 #[.bool a1, .slice Ao10 t420.length co10, .int .i64 0, .bool false] ?_; (with_reducible refine (vernierref07_Exactly.calls k a1 (fun k_ => some k_ = (.slice Ao10 t420.length co10 : Value).ownBlock) (.slice Ao10 t420.length co10) t420 0 false t423 t424 t425 t426 t427 t428 w _ ?side1 ?side2 A7.out).mono ?_); (case side1 => repeat (first | (with_reducible first | exact HB.out | apply pA | apply pN | apply p1) | exact HB.out)); (case side2 => exact Kd.R_tight rfl HO422.out); rintro e w11 ⟨rfl, hb, hkp⟩; refine ⟨_, rfl, ?_⟩; have n0_ := Aside0.mk (hb); clear HB; clear HO422; have HB := n0_; clear n0_; (try clear hb); (try clear hkp)) | ((with_reducible refine gD (N := 9) rfl ?_); refine bE3 9 #[.int .i64 0, .bool false, .int .i64 0, .int .u64 0, .int .u64 0, .bool false] 51 ?hr ?_; (case hr => first | (go_simp; done) | (go_simp; rfl)); intro gb429 hg w12 hbox hb; have n0_ := Aside0.mk (bS3 HB.out hb); have n1_ := Aside0.mk (hbox); have n2_ := Aside0.mk ((bZ3 hg HB.out)); have n3_ := Aside0.mk ((bZ3 hg HB.out)); clear HB; have HB := n0_; have BK429 := n1_; have GW429 := n2_; have GE429 := n3_; clear n0_ n1_ n2_ n3_; clear hb hbox hg; obtain ⟨hcz13_0, hcz13_1, hcz13_2, hcz13_3, hcz13_4, hcz13_5, hfz13_0, hfz13_1, hfz13_2, hfz13_3, hfz13_4, hfz13_5⟩ := cl6 BK429.out) | ((with_reducible refine gC (f := 27) rfl ?_); (with_reducible refine gD (N := 20) rfl ?_); refine goesY_ (some 20) Try.func27 #[.int .i64 a0, .agg #[.int .i64 t423, .bool t424, .int .i64 t425, .int .u64 t426, .int .u64 t427, .bool t428]] ?_; (with_reducible refine (vernierref07_Round.calls k a0 t423 t424 t425 t426 t427 t428 t430 _ A8.out).mono ?_); rintro e w14 ⟨rfl, hb⟩; refine ⟨_, rfl, ?_⟩; have n0_ := Aside0.mk (bB (g := gb429) (o := .cells #[.int .i64 t423, .bool t424, .int .i64 t425, .int .u64 t426, .int .u64 t427, .bool t428] 51 (0, 0)) (bQ3 BK429.out) hb); have n1_ := Aside0.mk (bS3 HB.out hb); clear BK429; clear HB; have BK429 := n0_; have HB := n1_; clear n0_ n1_; (try clear hb); (try clear hb2); (try clear hk); (try clear hi)))
    go_ret2
    exact ⟨eR3, bR3 HB.out⟩
  · replace c5 := Bool.eq_false_iff.mpr c5
    subst c5
    rw [if_neg (show ¬ (false = true) by decide)] at H
    simp only [Option.some.injEq, Prod.mk.injEq] at H
    obtain ⟨rfl, rfl⟩ := H
    go_enter Try.func10, Try.ntmps10
    go_wp2_with (first | ((with_reducible refine gC (f := 24) rfl ?_); (with_reducible refine gD (N := 11) rfl ?_); refine goesY_ (some 11) Try.func24 #[.int .i64 a0] ?_; (with_reducible refine (vernierref05_Is.calls a0 false _ A4.out).mono ?_); rintro e w' ⟨rfl, ⟨nd, rfl⟩⟩; refine ⟨_, rfl, ?_⟩))
    go_ret2
    exact ⟨eR3, bR3 HB.out⟩
def vernierref16_Size.f (a0 : Int) : Option (Int) := if a0 < 0 then (some (IntKind.u64.wrap ((IntKind.u64.wrap (wrap64 (-(wrap64 (a0 + 1))))) + 1))) else (some (IntKind.u64.wrap (a0)))
set_option maxHeartbeats 8000000 in
set_option maxRecDepth 100000 in
theorem vernierref16_Size.calls (a0 : Int) (r : Int) (w : World) (h : vernierref16_Size.f a0 = some r) :
    Calls Try.prog 11 #[.int .i64 a0] w fun e w' => e = .returned (.int .u64 r) ∧ Drawn0 w w' := by
  have H : (if a0 < 0 then (some (IntKind.u64.wrap ((IntKind.u64.wrap (wrap64 (-(wrap64 (a0 + 1))))) + 1))) else (some (IntKind.u64.wrap (a0)))) = some r := h
  clear h
  by_cases c2 : a0 < 0
  · rw [if_pos c2] at H
    have c2b0 : decide (a0 < 0) = true := decide_eq_true c2
    clear c2
    obtain rfl := Option.some.inj H
    go_enter Try.func11, Try.ntmps11
    go_wp2
    go_ret
    exact ⟨by first | rfl | (simp; done) | (simp [*]; done), by repeat (first | exact Drawn0.refl _ | apply Drawn0.step)⟩
  · rw [if_neg c2] at H
    have c2b0 : decide (a0 < 0) = false := decide_eq_false c2
    clear c2
    obtain rfl := Option.some.inj H
    go_enter Try.func11, Try.ntmps11
    go_wp2
    go_ret
    exact ⟨by first | rfl | (simp; done) | (simp [*]; done), by repeat (first | exact Drawn0.refl _ | apply Drawn0.step)⟩
def vernierref16_parts.f (k : Nat) (a0_0 : Int) (a0_1 : Bool) (a0_2 : Int) (a0_3 : Int) : Option (List Int × Bool × Int) := (vernierref04_Of.f k a0_3).bind fun t512 => (if a0_2 ≥ 63 then ((vernierref04_Shl.f k t512 (wrap64 (a0_2 - 63))).bind fun t515 => (some (t515, false, (-1)))) else ((vernierref04_Shr.f k t512 (wrap64 (63 - a0_2))).bind fun t518 => ((vernierref04_Shl.f k t518 (wrap64 (63 - a0_2))).bind fun t521 => ((vernierref04_Sub.f k t512 t521).bind fun t524 => ((vernierref04_Shl.f k (([1] : List Int)) (wrap64 (63 - a0_2))).bind fun t530 => ((vernierref04_Add.f k t524 t524).bind fun t533 => ((vernierref04_Cmp.f k t533 t530).bind fun t536 => (some (t518, decide ((t524.length : Int) > 0), t536)))))))))
def vernierref16_To.j0 : Nat → Int → Int → Int → Bool → Option (Bool × List Int × Int)
  | 0, _, _, _, _ => none
  | k + 1, x0, x1, x2, x25 => if x25 = true then (some (false, ([] : List Int), 24)) else ((vernierref06_Decode.f k x0 x1).bind fun bt538 => (if bt538.1 = 2 then (some (false, ([] : List Int), 9)) else (if bt538.1 = 0 then (some (false, ([] : List Int), 0)) else ((vernierref16_parts.f k bt538.1 bt538.2.1 bt538.2.2.1 bt538.2.2.2).bind fun bt543 => (if x2 = 0 then ((vernierref04_Low.f k bt543.1 1).bind fun t548 => (if bt543.2.2 > 0 then ((vernierref04_Add.f k bt543.1 (([1] : List Int))).bind fun t552 => (if bt538.2.1 = true then (some (decide ((t552.length : Int) > 0), t552, 0)) else (some (false, t552, 0)))) else (if bt543.2.2 = 0 then (if t548 = true then ((vernierref04_Add.f k bt543.1 (([1] : List Int))).bind fun t558 => (if bt538.2.1 = true then (some (decide ((t558.length : Int) > 0), t558, 0)) else (some (false, t558, 0)))) else (if bt538.2.1 = true then (some (decide ((bt543.1.length : Int) > 0), bt543.1, 0)) else (some (false, bt543.1, 0)))) else (if bt538.2.1 = true then (some (decide ((bt543.1.length : Int) > 0), bt543.1, 0)) else (some (false, bt543.1, 0)))))) else (if x2 = 1 then (if bt543.2.1 = true then (if bt538.2.1 = true then ((vernierref04_Add.f k bt543.1 (([1] : List Int))).bind fun t564 => (some (decide ((t564.length : Int) > 0), t564, 0))) else (some (false, bt543.1, 0))) else (if bt538.2.1 = true then (some (decide ((bt543.1.length : Int) > 0), bt543.1, 0)) else (some (false, bt543.1, 0)))) else (if x2 = 2 then (if bt543.2.1 = true then (if bt538.2.1 = true then (some (decide ((bt543.1.length : Int) > 0), bt543.1, 0)) else ((vernierref04_Add.f k bt543.1 (([1] : List Int))).bind fun t570 => (some (false, t570, 0)))) else (if bt538.2.1 = true then (some (decide ((bt543.1.length : Int) > 0), bt543.1, 0)) else (some (false, bt543.1, 0)))) else (if bt538.2.1 = true then (some (decide ((bt543.1.length : Int) > 0), bt543.1, 0)) else (some (false, bt543.1, 0))))))))))
def vernierref16_Int.j0 : Nat → Bool → List Int → List Int → Option (Int × Int)
  | 0, _, _, _ => none
  | k + 1, x8, x9, x11 => (vernierref04_Cmp.f k x9 x11).bind fun t584 => (if t584 > 0 then (some (0, 10)) else ((vernierref04_Word.f k x9).bind fun t585 => (if x8 = true then (some (wrap64 ((wrap64 (-(wrap64 (IntKind.u64.wrap (t585 - 1))))) - 1), 0)) else (some (wrap64 (t585), 0)))))
end Go.Proofs.Ytlllaoihpkdpmaa.F
