/- Functions of the given program as plain Lean functions, and for each a proof that the program's call comes to just these answers; no further conditions. (Written by a program of this repo out of the translation.) -/
import Derived.Test.YtlllaoihpkdpmaaF0d
import Derived.Test.YtlllaoihpkdpmaaF5d
import Derived.Test.YtlllaoihpkdpmaaF6d
import Derived.Test.YtlllaoihpkdpmaaF10d
namespace Go.Proofs.Ytlllaoihpkdpmaa.F
open Go.RowKit Go.Proofs.YtlllaoihpkdpmaaW.PrintWords Go.Proofs.YtlllaoihpkdpmaaW.PrintLast Go.Proofs.YtlllaoihpkdpmaaW.PrintMore
attribute [local go_sem high] xor_u64 xor_u32 eqErr25 neErr25 eqErrL25 neErrL25
attribute [local go_sem] max2_int min2_int max_two min_two max_three min_three max_four min_four   -- for this text's walks alone
set_option linter.unusedVariables false
set_option linter.unusedSimpArgs false
def ints_rounded.f (k : Nat) (a0 : Int) (a1 : Bool) (a2 : Int) (a3 : Int) : Option (Int × Option Int) := (round_Make.f k a1 a2 a3 0 false).bind fun bt204 => (if bt204.2.2.2.2.2.2.isNone = true then ((round_Round.f k a0 bt204.1 bt204.2.1 bt204.2.2.1 bt204.2.2.2.1 bt204.2.2.2.2.1 bt204.2.2.2.2.2.1).bind fun bt213 => (some (bt213.1, bt213.2))) else (some (0, some (bt204.2.2.2.2.2.2.getD 0))))
set_option maxHeartbeats 8000000 in
set_option maxRecDepth 100000 in
theorem ints_rounded.calls (k : Nat) (a0 : Int) (a1 : Bool) (a2 : Int) (a3 : Int) (r1 : Int) (r2 : Option Int) (w : World) (h : ints_rounded.f k a0 a1 a2 a3 = some (r1, r2)) :
    Calls Try.prog 23 #[.int .i64 a0, .bool a1, .int .u64 a2, .int .u64 a3] w fun e w' => e = .returned (.tuple #[.int .u64 r1, errW r2]) ∧ Below w.heap.size w w' := by
  have hu51 := Try.underlying51
  have hu25 := Try.underlying25
  have hu43 := Try.underlying43
  have HB := Aside0.mk (Below.refl w.heap.size w)
  have H : ((round_Make.f k a1 a2 a3 0 false).bind fun bt204 => (if bt204.2.2.2.2.2.2.isNone = true then ((round_Round.f k a0 bt204.1 bt204.2.1 bt204.2.2.1 bt204.2.2.2.1 bt204.2.2.2.2.1 bt204.2.2.2.2.2.1).bind fun bt213 => (some (bt213.1, bt213.2))) else (some (0, some (bt204.2.2.2.2.2.2.getD 0))))) = some (r1, r2) := h
  clear h
  replace H := Option.bind_eq_some_iff.mp H
  obtain ⟨⟨t204, t205, t206, t207, t208, t209, t210⟩, A50, H⟩ := H
  try dsimp -simprocs only at H
  have A5 := Aside0.mk A50
  clear A50
  rcases t210 with _ | q212
  · rw [if_pos (show (none : Option Int).isNone = true by rfl)] at H
    try simp only [Option.getD_some] at H
    try simp only [errW_none, errW_some]
    replace H := Option.bind_eq_some_iff.mp H
    obtain ⟨⟨t213, t214⟩, A60, H⟩ := H
    try dsimp -simprocs only at H
    have A6 := Aside0.mk A60
    clear A60
    simp only [Option.some.injEq, Prod.mk.injEq] at H
    obtain ⟨rfl, rfl⟩ := H
    go_enter Try.func23, Try.ntmps23
    go_wp2_with (first | ((with_reducible refine gC (f := 37) rfl ?_); (with_reducible refine gD (N := 16) rfl ?_); refine goesY_ (some 16) Try.func37 #[.bool a1, .int .u64 a2, .int .u64 a3, .int .i64 0, .bool false] ?_; (with_reducible refine (round_Make.calls k a1 a2 a3 0 false t204 t205 t206 t207 t208 t209 none _ A5.out).mono ?_); rintro e w7 ⟨rfl, hb⟩; refine ⟨_, rfl, ?_⟩; have n0_ := Aside0.mk (bS3 HB.out hb); clear HB; have HB := n0_; clear n0_; (try clear hb); (try clear hb2); (try clear hk); (try clear hi); (try simp only [errW_none, errW_some])) | ((with_reducible refine gD (N := 10) rfl ?_); refine bE3 10 #[.int .i64 0, .bool false, .int .i64 0, .int .u64 0, .int .u64 0, .bool false] 51 ?hr ?_; (case hr => first | (go_simp; done) | (go_simp; rfl)); intro gb211 hg w8 hbox hb; have n0_ := Aside0.mk (bS3 HB.out hb); have n1_ := Aside0.mk (hbox); have n2_ := Aside0.mk ((bZ3 hg HB.out)); have n3_ := Aside0.mk ((bZ3 hg HB.out)); clear HB; have HB := n0_; have BK211 := n1_; have GW211 := n2_; have GE211 := n3_; clear n0_ n1_ n2_ n3_; clear hb hbox hg; obtain ⟨hcz9_0, hcz9_1, hcz9_2, hcz9_3, hcz9_4, hcz9_5, hfz9_0, hfz9_1, hfz9_2, hfz9_3, hfz9_4, hfz9_5⟩ := cl6 BK211.out) | ((with_reducible refine gC (f := 38) rfl ?_); (with_reducible refine gD (N := 24) rfl ?_); refine goesY_ (some 24) Try.func38 #[.int .i64 a0, .agg #[.int .i64 t204, .bool t205, .int .i64 t206, .int .u64 t207, .int .u64 t208, .bool t209]] ?_; (with_reducible refine (round_Round.calls k a0 t204 t205 t206 t207 t208 t209 t213 t214 _ A6.out).mono ?_); rintro e w10 ⟨rfl, hb⟩; refine ⟨_, rfl, ?_⟩; have n0_ := Aside0.mk (bB (g := gb211) (o := .cells #[.int .i64 t204, .bool t205, .int .i64 t206, .int .u64 t207, .int .u64 t208, .bool t209] 51 (0, 0)) (bQ3 BK211.out) hb); have n1_ := Aside0.mk (bS3 HB.out hb); clear BK211; clear HB; have BK211 := n0_; have HB := n1_; clear n0_ n1_; (try clear hb); (try clear hb2); (try clear hk); (try clear hi); (try simp only [errW_none, errW_some])))
    go_ret2
    exact ⟨eR3, bR3 HB.out⟩
  · rw [if_neg (show ¬ (some q212).isNone = true by simp)] at H
    try simp only [Option.getD_some] at H
    try simp only [errW_none, errW_some]
    simp only [Option.some.injEq, Prod.mk.injEq] at H
    obtain ⟨rfl, rfl⟩ := H
    go_enter Try.func23, Try.ntmps23
    go_wp2_with (first | ((with_reducible refine gC (f := 37) rfl ?_); (with_reducible refine gD (N := 16) rfl ?_); refine goesY_ (some 16) Try.func37 #[.bool a1, .int .u64 a2, .int .u64 a3, .int .i64 0, .bool false] ?_; (with_reducible refine (round_Make.calls k a1 a2 a3 0 false t204 t205 t206 t207 t208 t209 (some q212) _ A5.out).mono ?_); rintro e w11 ⟨rfl, hb⟩; refine ⟨_, rfl, ?_⟩; have n0_ := Aside0.mk (bS3 HB.out hb); clear HB; have HB := n0_; clear n0_; (try clear hb); (try clear hb2); (try clear hk); (try clear hi); (try simp only [errW_none, errW_some])) | ((with_reducible refine gD (N := 10) rfl ?_); refine bE3 10 #[.int .i64 0, .bool false, .int .i64 0, .int .u64 0, .int .u64 0, .bool false] 51 ?hr ?_; (case hr => first | (go_simp; done) | (go_simp; rfl)); intro gb211 hg w12 hbox hb; have n0_ := Aside0.mk (bS3 HB.out hb); have n1_ := Aside0.mk (hbox); have n2_ := Aside0.mk ((bZ3 hg HB.out)); have n3_ := Aside0.mk ((bZ3 hg HB.out)); clear HB; have HB := n0_; have BK211 := n1_; have GW211 := n2_; have GE211 := n3_; clear n0_ n1_ n2_ n3_; clear hb hbox hg; obtain ⟨hcz13_0, hcz13_1, hcz13_2, hcz13_3, hcz13_4, hcz13_5, hfz13_0, hfz13_1, hfz13_2, hfz13_3, hfz13_4, hfz13_5⟩ := cl6 BK211.out))
    go_ret2
    exact ⟨eR3, bR3 HB.out⟩
def ints_FromInt.f (k : Nat) (a0 : Int) (a1 : Int) : Option (Int × Option Int) := if a1 < 0 then ((ints_rounded.f k a0 true 0 (IntKind.u64.wrap (-(IntKind.u64.wrap (a1))))).bind fun bt215 => (some (bt215.1, bt215.2))) else ((ints_rounded.f k a0 false 0 (IntKind.u64.wrap (a1))).bind fun bt217 => (some (bt217.1, bt217.2)))
set_option maxHeartbeats 8000000 in
set_option maxRecDepth 100000 in
theorem ints_FromInt.calls (k : Nat) (a0 : Int) (a1 : Int) (r1 : Int) (r2 : Option Int) (w : World) (h : ints_FromInt.f k a0 a1 = some (r1, r2)) :
    Calls Try.prog 8 #[.int .i64 a0, .int .i64 a1] w fun e w' => e = .returned (.tuple #[.int .u64 r1, errW r2]) ∧ Below w.heap.size w w' := by
  have HB := Aside0.mk (Below.refl w.heap.size w)
  have H : (if a1 < 0 then ((ints_rounded.f k a0 true 0 (IntKind.u64.wrap (-(IntKind.u64.wrap (a1))))).bind fun bt215 => (some (bt215.1, bt215.2))) else ((ints_rounded.f k a0 false 0 (IntKind.u64.wrap (a1))).bind fun bt217 => (some (bt217.1, bt217.2)))) = some (r1, r2) := h
  clear h
  by_cases c3 : a1 < 0
  · rw [if_pos c3] at H
    have c3b0 : decide (a1 < 0) = true := decide_eq_true c3
    clear c3
    replace H := Option.bind_eq_some_iff.mp H
    obtain ⟨⟨t215, t216⟩, A40, H⟩ := H
    try dsimp -simprocs only at H
    have A4 := Aside0.mk A40
    clear A40
    simp only [Option.some.injEq, Prod.mk.injEq] at H
    obtain ⟨rfl, rfl⟩ := H
    go_enter Try.func8, Try.ntmps8
    go_wp2_with (first | ((with_reducible refine gC (f := 23) rfl ?_); (with_reducible refine gD (N := 12) rfl ?_); refine goesY_ (some 12) Try.func23 #[.int .i64 a0, .bool true, .int .u64 0, .int .u64 (IntKind.u64.wrap (-(IntKind.u64.wrap (a1))))] ?_; (with_reducible refine (ints_rounded.calls k a0 true 0 (IntKind.u64.wrap (-(IntKind.u64.wrap (a1)))) t215 t216 _ A4.out).mono ?_); rintro e w5 ⟨rfl, hb⟩; refine ⟨_, rfl, ?_⟩; have n0_ := Aside0.mk (bS3 HB.out hb); clear HB; have HB := n0_; clear n0_; (try clear hb); (try clear hb2); (try clear hk); (try clear hi); (try simp only [errW_none, errW_some])))
    go_ret2
    exact ⟨eR3, bR3 HB.out⟩
  · rw [if_neg c3] at H
    have c3b0 : decide (a1 < 0) = false := decide_eq_false c3
    clear c3
    replace H := Option.bind_eq_some_iff.mp H
    obtain ⟨⟨t217, t218⟩, A60, H⟩ := H
    try dsimp -simprocs only at H
    have A6 := Aside0.mk A60
    clear A60
    simp only [Option.some.injEq, Prod.mk.injEq] at H
    obtain ⟨rfl, rfl⟩ := H
    go_enter Try.func8, Try.ntmps8
    go_wp2_with (first | ((with_reducible refine gC (f := 23) rfl ?_); (with_reducible refine gD (N := 18) rfl ?_); refine goesY_ (some 18) Try.func23 #[.int .i64 a0, .bool false, .int .u64 0, .int .u64 (IntKind.u64.wrap (a1))] ?_; (with_reducible refine (ints_rounded.calls k a0 false 0 (IntKind.u64.wrap (a1)) t217 t218 _ A6.out).mono ?_); rintro e w7 ⟨rfl, hb⟩; refine ⟨_, rfl, ?_⟩; have n0_ := Aside0.mk (bS3 HB.out hb); clear HB; have HB := n0_; clear n0_; (try clear hb); (try clear hb2); (try clear hk); (try clear hi); (try simp only [errW_none, errW_some])))
    go_ret2
    exact ⟨eR3, bR3 HB.out⟩
def ints_of.j0 : Nat → Int → Int → Int → Int → Bool → Int → Int → Option (Bool × Bool × Int)
  | 0, _, _, _, _, _, _, _ => none
  | k + 1, x1, x5, x6, x263000, x263001, x263002, x263003 => if x1 = 0 then (if x6 > 9223372036854775808 then (if x263001 = true then (some (decide ((IntKind.u64.wrap (x5 + 1)) > 0), false, IntKind.u64.wrap (x5 + 1))) else (some (false, false, IntKind.u64.wrap (x5 + 1)))) else (if x6 = 9223372036854775808 then (if (Go.bits .and .u64 x5 1) = 1 then (if x263001 = true then (some (decide ((IntKind.u64.wrap (x5 + 1)) > 0), false, IntKind.u64.wrap (x5 + 1))) else (some (false, false, IntKind.u64.wrap (x5 + 1)))) else (if x263001 = true then (some (decide (x5 > 0), false, x5)) else (some (false, false, x5)))) else (if x263001 = true then (some (decide (x5 > 0), false, x5)) else (some (false, false, x5))))) else (if x1 = 2 then (if x263001 = true then (some (decide (x5 > 0), false, x5)) else (if x6 > 0 then (some (false, false, IntKind.u64.wrap (x5 + 1))) else (some (false, false, x5)))) else (if x1 = 1 then (if x263001 = true then (if x6 > 0 then (some (decide ((IntKind.u64.wrap (x5 + 1)) > 0), false, IntKind.u64.wrap (x5 + 1))) else (some (decide (x5 > 0), false, x5))) else (some (false, false, x5))) else (if x263001 = true then (some (decide (x5 > 0), false, x5)) else (some (false, false, x5)))))
def ints_of.f (k : Nat) (a0_0 : Int) (a0_1 : Bool) (a0_2 : Int) (a0_3 : Int) (a1 : Int) : Option (Bool × Bool × Int) := if a0_2 > 63 then (some (a0_1, true, 0)) else (if (wrap64 (63 - a0_2)) = 0 then (ints_of.j0 k a1 a0_3 0 a0_0 a0_1 a0_2 a0_3) else (if (wrap64 (63 - a0_2)) < 64 then (if 0 ≤ (wrap64 (63 - a0_2)) then (if 0 ≤ (wrap64 (64 - (wrap64 (63 - a0_2)))) then (ints_of.j0 k a1 (shr .u64 a0_3 (wrap64 (63 - a0_2))) (shl .u64 a0_3 (wrap64 (64 - (wrap64 (63 - a0_2))))) a0_0 a0_1 a0_2 a0_3) else (none)) else (none)) else (if (wrap64 (63 - a0_2)) = 64 then (ints_of.j0 k a1 0 a0_3 a0_0 a0_1 a0_2 a0_3) else (ints_of.j0 k a1 0 1 a0_0 a0_1 a0_2 a0_3))))
set_option maxHeartbeats 8000000 in
set_option maxRecDepth 100000 in
theorem ints_of.calls (k : Nat) (a0_0 : Int) (a0_1 : Bool) (a0_2 : Int) (a0_3 : Int) (a1 : Int) (r1 : Bool) (r2 : Bool) (r3 : Int) (w : World) (h : ints_of.f k a0_0 a0_1 a0_2 a0_3 a1 = some (r1, r2, r3)) :
    Calls Try.prog 45 #[.agg #[.int .i64 a0_0, .bool a0_1, .int .i64 a0_2, .int .u64 a0_3], .int .i64 a1] w fun e w' => e = .returned (.agg #[.bool r1, .bool r2, .int .u64 r3]) ∧ Below w.heap.size w w' := by
  have hu73 := Try.underlying73
  have hu57 := Try.underlying57
  have HB := Aside0.mk (Below.refl w.heap.size w)
  have H : (if a0_2 > 63 then (some (a0_1, true, 0)) else (if (wrap64 (63 - a0_2)) = 0 then (ints_of.j0 k a1 a0_3 0 a0_0 a0_1 a0_2 a0_3) else (if (wrap64 (63 - a0_2)) < 64 then (if 0 ≤ (wrap64 (63 - a0_2)) then (if 0 ≤ (wrap64 (64 - (wrap64 (63 - a0_2)))) then (ints_of.j0 k a1 (shr .u64 a0_3 (wrap64 (63 - a0_2))) (shl .u64 a0_3 (wrap64 (64 - (wrap64 (63 - a0_2))))) a0_0 a0_1 a0_2 a0_3) else (none)) else (none)) else (if (wrap64 (63 - a0_2)) = 64 then (ints_of.j0 k a1 0 a0_3 a0_0 a0_1 a0_2 a0_3) else (ints_of.j0 k a1 0 1 a0_0 a0_1 a0_2 a0_3))))) = some (r1, r2, r3) := h
  clear h
  by_cases c3 : a0_2 > 63
  · rw [if_pos c3] at H
    have c3b0 : decide (63 < a0_2) = true := decide_eq_true c3
    clear c3
    simp only [Option.some.injEq, Prod.mk.injEq] at H
    obtain ⟨rfl, rfl, rfl⟩ := H
    go_enter Try.func45, Try.ntmps45
    go_wp2_with (first | ((with_reducible refine gD (N := 2) rfl ?_); refine bE3 2 #[.int .i64 a0_0, .bool a0_1, .int .i64 a0_2, .int .u64 a0_3] 73 ?hr ?_; (case hr => first | (go_simp; done) | (go_simp; rfl)); intro gb262 hg w4 hbox hb; have n0_ := Aside0.mk (bS3 HB.out hb); have n1_ := Aside0.mk (hbox); have n2_ := Aside0.mk ((bZ3 hg HB.out)); have n3_ := Aside0.mk ((bZ3 hg HB.out)); clear HB; have HB := n0_; have BK262 := n1_; have GW262 := n2_; have GE262 := n3_; clear n0_ n1_ n2_ n3_; clear hb hbox hg) | ((with_reducible refine gD (N := 4) rfl ?_); refine bE3 4 #[.bool false, .bool false, .int .u64 0] 57 ?hr ?_; (case hr => first | (go_simp; done) | (go_simp; rfl)); intro gb263 hg w5 hbox hb; have n0_ := Aside0.mk (bB3 BK262.out hb); have n1_ := Aside0.mk (bS3 HB.out hb); have n2_ := Aside0.mk (hbox); have n3_ := Aside0.mk ((bZ3 hg HB.out)); have n4_ := Aside0.mk ((bZ3 hg HB.out)); have n5_ := Aside0.mk ((bL3 hg BK262.out)); have n6_ := Aside0.mk ((bG3 hg BK262.out)); clear BK262; clear HB; have BK262 := n0_; have HB := n1_; have BK263 := n2_; have GW263 := n3_; have GE263 := n4_; have NB262_263 := n5_; have NB263_262 := n6_; clear n0_ n1_ n2_ n3_ n4_ n5_ n6_; clear hb hbox hg; have hnb6 := NB262_263.out; have hnc6 := NB263_262.out; obtain ⟨hcz7_0, hcz7_1, hcz7_2, hcz7_3, hfz7_0, hfz7_1, hfz7_2, hfz7_3⟩ := cl4 BK262.out; obtain ⟨hcz8_0, hcz8_1, hcz8_2, hfz8_0, hfz8_1, hfz8_2⟩ := cl3 BK263.out))
    repeat (go_quiet (first | ((with_reducible refine gD (N := 2) rfl ?_); refine bE3 2 #[.int .i64 a0_0, .bool a0_1, .int .i64 a0_2, .int .u64 a0_3] 73 ?hr ?_; (case hr => first | (go_simp; done) | (go_simp; rfl)); intro gb262 hg w4 hbox hb; have n0_ := Aside0.mk (bS3 HB.out hb); have n1_ := Aside0.mk (hbox); have n2_ := Aside0.mk ((bZ3 hg HB.out)); have n3_ := Aside0.mk ((bZ3 hg HB.out)); clear HB; have HB := n0_; have BK262 := n1_; have GW262 := n2_; have GE262 := n3_; clear n0_ n1_ n2_ n3_; clear hb hbox hg) | ((with_reducible refine gD (N := 4) rfl ?_); refine bE3 4 #[.bool false, .bool false, .int .u64 0] 57 ?hr ?_; (case hr => first | (go_simp; done) | (go_simp; rfl)); intro gb263 hg w5 hbox hb; have n0_ := Aside0.mk (bB3 BK262.out hb); have n1_ := Aside0.mk (bS3 HB.out hb); have n2_ := Aside0.mk (hbox); have n3_ := Aside0.mk ((bZ3 hg HB.out)); have n4_ := Aside0.mk ((bZ3 hg HB.out)); have n5_ := Aside0.mk ((bL3 hg BK262.out)); have n6_ := Aside0.mk ((bG3 hg BK262.out)); clear BK262; clear HB; have BK262 := n0_; have HB := n1_; have BK263 := n2_; have GW263 := n3_; have GE263 := n4_; have NB262_263 := n5_; have NB263_262 := n6_; clear n0_ n1_ n2_ n3_ n4_ n5_ n6_; clear hb hbox hg; have hnb6 := NB262_263.out; have hnc6 := NB263_262.out; obtain ⟨hcz7_0, hcz7_1, hcz7_2, hcz7_3, hfz7_0, hfz7_1, hfz7_2, hfz7_3⟩ := cl4 BK262.out; obtain ⟨hcz8_0, hcz8_1, hcz8_2, hfz8_0, hfz8_1, hfz8_2⟩ := cl3 BK263.out)); try go_wp2_with (first | ((with_reducible refine gD (N := 2) rfl ?_); refine bE3 2 #[.int .i64 a0_0, .bool a0_1, .int .i64 a0_2, .int .u64 a0_3] 73 ?hr ?_; (case hr => first | (go_simp; done) | (go_simp; rfl)); intro gb262 hg w4 hbox hb; have n0_ := Aside0.mk (bS3 HB.out hb); have n1_ := Aside0.mk (hbox); have n2_ := Aside0.mk ((bZ3 hg HB.out)); have n3_ := Aside0.mk ((bZ3 hg HB.out)); clear HB; have HB := n0_; have BK262 := n1_; have GW262 := n2_; have GE262 := n3_; clear n0_ n1_ n2_ n3_; clear hb hbox hg) | ((with_reducible refine gD (N := 4) rfl ?_); refine bE3 4 #[.bool false, .bool false, .int .u64 0] 57 ?hr ?_; (case hr => first | (go_simp; done) | (go_simp; rfl)); intro gb263 hg w5 hbox hb; have n0_ := Aside0.mk (bB3 BK262.out hb); have n1_ := Aside0.mk (bS3 HB.out hb); have n2_ := Aside0.mk (hbox); have n3_ := Aside0.mk ((bZ3 hg HB.out)); have n4_ := Aside0.mk ((bZ3 hg HB.out)); have n5_ := Aside0.mk ((bL3 hg BK262.out)); have n6_ := Aside0.mk ((bG3 hg BK262.out)); clear BK262; clear HB; have BK262 := n0_; have HB := n1_; have BK263 := n2_; have GW263 := n3_; have GE263 := n4_; have NB262_263 := n5_; have NB263_262 := n6_; clear n0_ n1_ n2_ n3_ n4_ n5_ n6_; clear hb hbox hg; have hnb6 := NB262_263.out; have hnc6 := NB263_262.out; obtain ⟨hcz7_0, hcz7_1, hcz7_2, hcz7_3, hfz7_0, hfz7_1, hfz7_2, hfz7_3⟩ := cl4 BK262.out; obtain ⟨hcz8_0, hcz8_1, hcz8_2, hfz8_0, hfz8_1, hfz8_2⟩ := cl3 BK263.out)))
    refine bodyPost_ret (results_cell_row rfl _ _ gb263 57 #[.bool a0_1, .bool true, .int .u64 0] (0, 0) _ rfl (bQ3 BK263.out) Try.underlying57 rfl (by kernel_rfl)) rfl ?_
    exact ⟨eR3, bR3 HB.out⟩
  · rw [if_neg c3] at H
    have c3b0 : decide (63 < a0_2) = false := decide_eq_false c3
    clear c3
    have HC9 := Aside0.mk H
    clear H
    go_enter Try.func45, Try.ntmps45
    go_upto_block 0 with (first | ((with_reducible refine gD (N := 2) rfl ?_); refine bE3 2 #[.int .i64 a0_0, .bool a0_1, .int .i64 a0_2, .int .u64 a0_3] 73 ?hr ?_; (case hr => first | (go_simp; done) | (go_simp; rfl)); intro gb262 hg w10 hbox hb; have n0_ := Aside0.mk (bS3 HB.out hb); have n1_ := Aside0.mk (hbox); have n2_ := Aside0.mk ((bZ3 hg HB.out)); have n3_ := Aside0.mk ((bZ3 hg HB.out)); clear HB; have HB := n0_; have BK262 := n1_; have GW262 := n2_; have GE262 := n3_; clear n0_ n1_ n2_ n3_; clear hb hbox hg) | ((with_reducible refine gD (N := 4) rfl ?_); refine bE3 4 #[.bool false, .bool false, .int .u64 0] 57 ?hr ?_; (case hr => first | (go_simp; done) | (go_simp; rfl)); intro gb263 hg w11 hbox hb; have n0_ := Aside0.mk (bB3 BK262.out hb); have n1_ := Aside0.mk (bS3 HB.out hb); have n2_ := Aside0.mk (hbox); have n3_ := Aside0.mk ((bZ3 hg HB.out)); have n4_ := Aside0.mk ((bZ3 hg HB.out)); have n5_ := Aside0.mk ((bL3 hg BK262.out)); have n6_ := Aside0.mk ((bG3 hg BK262.out)); clear BK262; clear HB; have BK262 := n0_; have HB := n1_; have BK263 := n2_; have GW263 := n3_; have GE263 := n4_; have NB262_263 := n5_; have NB263_262 := n6_; clear n0_ n1_ n2_ n3_ n4_ n5_ n6_; clear hb hbox hg; have hnb12 := NB262_263.out; have hnc12 := NB263_262.out; obtain ⟨hcz13_0, hcz13_1, hcz13_2, hcz13_3, hfz13_0, hfz13_1, hfz13_2, hfz13_3⟩ := cl4 BK262.out))
    repeat (go_quiet (first | ((with_reducible refine gD (N := 2) rfl ?_); refine bE3 2 #[.int .i64 a0_0, .bool a0_1, .int .i64 a0_2, .int .u64 a0_3] 73 ?hr ?_; (case hr => first | (go_simp; done) | (go_simp; rfl)); intro gb262 hg w10 hbox hb; have n0_ := Aside0.mk (bS3 HB.out hb); have n1_ := Aside0.mk (hbox); have n2_ := Aside0.mk ((bZ3 hg HB.out)); have n3_ := Aside0.mk ((bZ3 hg HB.out)); clear HB; have HB := n0_; have BK262 := n1_; have GW262 := n2_; have GE262 := n3_; clear n0_ n1_ n2_ n3_; clear hb hbox hg) | ((with_reducible refine gD (N := 4) rfl ?_); refine bE3 4 #[.bool false, .bool false, .int .u64 0] 57 ?hr ?_; (case hr => first | (go_simp; done) | (go_simp; rfl)); intro gb263 hg w11 hbox hb; have n0_ := Aside0.mk (bB3 BK262.out hb); have n1_ := Aside0.mk (bS3 HB.out hb); have n2_ := Aside0.mk (hbox); have n3_ := Aside0.mk ((bZ3 hg HB.out)); have n4_ := Aside0.mk ((bZ3 hg HB.out)); have n5_ := Aside0.mk ((bL3 hg BK262.out)); have n6_ := Aside0.mk ((bG3 hg BK262.out)); clear BK262; clear HB; have BK262 := n0_; have HB := n1_; have BK263 := n2_; have GW263 := n3_; have GE263 := n4_; have NB262_263 := n5_; have NB263_262 := n6_; clear n0_ n1_ n2_ n3_ n4_ n5_ n6_; clear hb hbox hg; have hnb12 := NB262_263.out; have hnc12 := NB263_262.out; obtain ⟨hcz13_0, hcz13_1, hcz13_2, hcz13_3, hfz13_0, hfz13_1, hfz13_2, hfz13_3⟩ := cl4 BK262.out)); go_upto_block 0 with (first | ((with_reducible refine gD (N := 2) rfl ?_); refine bE3 2 #[.int .i64 a0_0, .bool a0_1, .int .i64 a0_2, .int .u64 a0_3] 73 ?hr ?_; (case hr => first | (go_simp; done) | (go_simp; rfl)); intro gb262 hg w10 hbox hb; have n0_ := Aside0.mk (bS3 HB.out hb); have n1_ := Aside0.mk (hbox); have n2_ := Aside0.mk ((bZ3 hg HB.out)); have n3_ := Aside0.mk ((bZ3 hg HB.out)); clear HB; have HB := n0_; have BK262 := n1_; have GW262 := n2_; have GE262 := n3_; clear n0_ n1_ n2_ n3_; clear hb hbox hg) | ((with_reducible refine gD (N := 4) rfl ?_); refine bE3 4 #[.bool false, .bool false, .int .u64 0] 57 ?hr ?_; (case hr => first | (go_simp; done) | (go_simp; rfl)); intro gb263 hg w11 hbox hb; have n0_ := Aside0.mk (bB3 BK262.out hb); have n1_ := Aside0.mk (bS3 HB.out hb); have n2_ := Aside0.mk (hbox); have n3_ := Aside0.mk ((bZ3 hg HB.out)); have n4_ := Aside0.mk ((bZ3 hg HB.out)); have n5_ := Aside0.mk ((bL3 hg BK262.out)); have n6_ := Aside0.mk ((bG3 hg BK262.out)); clear BK262; clear HB; have BK262 := n0_; have HB := n1_; have BK263 := n2_; have GW263 := n3_; have GE263 := n4_; have NB262_263 := n5_; have NB263_262 := n6_; clear n0_ n1_ n2_ n3_ n4_ n5_ n6_; clear hb hbox hg; have hnb12 := NB262_263.out; have hnc12 := NB263_262.out; obtain ⟨hcz13_0, hcz13_1, hcz13_2, hcz13_3, hfz13_0, hfz13_1, hfz13_2, hfz13_3⟩ := cl4 BK262.out)))
    (try simp only [Act.put, List.setIfInBounds_toArray, List.set_cons_zero, List.set_cons_succ])
    go_cut [5, 6] (fun v5 v6 wc => ∃ (kq : Nat) (x5_8 : Int) (x6_8 : Int), v5 = .int .u64 x5_8 ∧ v6 = .int .u64 x6_8 ∧ Aside0 (ints_of.j0 kq a1 x5_8 x6_8 a0_0 a0_1 a0_2 a0_3 = some (r1, r2, r3)) ∧ Aside0 (kq ≤ k) ∧ Aside0 (wc.heap[gb262]? = some (.cells #[.int .i64 a0_0, .bool a0_1, .int .i64 a0_2, .int .u64 a0_3] 73 (0, 0))) ∧ Aside0 (wc.heap[gb263]? = some (.cells #[.bool false, .bool false, .int .u64 0] 57 (0, 0))) ∧ Aside0 (Below w.heap.size w wc))
    case first =>
      have H := HC9.out
      clear HC9
      by_cases c14 : (wrap64 (63 - a0_2)) = 0
      · rw [if_pos c14] at H
        have c14b0 : ((wrap64 (63 - a0_2)) == 0) = true := beq_iff_eq.mpr c14
        have c14b1 : ((wrap64 (63 - a0_2)) != 0) = false := bne_eq_false_iff_eq.mpr c14
        clear c14
        (first | rw [c14b0] | (simp only [i64_w, i32_w]; rw [c14b0]) | skip)
        have H' := Aside0.mk H
        clear H
        have hnb15 := NB262_263.out
        have hnc15 := NB263_262.out
        obtain ⟨hcz16_0, hcz16_1, hcz16_2, hcz16_3, hfz16_0, hfz16_1, hfz16_2, hfz16_3⟩ := cl4 BK262.out
        go_wp2
        repeat (go_quiet (fail); try go_wp2)
        go_meet
        case rel => exact ⟨_, (a0_3), (0), (by first | rfl | (simp; done) | (simp [*]; done)), (by first | rfl | (simp; done) | (simp [*]; done)), H', ⟨by first | omega | exact Nat.le_refl _⟩, ⟨bK3 BK262.out⟩, ⟨bK3 BK263.out⟩, ⟨bR3 HB.out⟩⟩
      · rw [if_neg c14] at H
        have c14b0 : ((wrap64 (63 - a0_2)) == 0) = false := beq_eq_false_iff_ne.mpr c14
        have c14b1 : ((wrap64 (63 - a0_2)) != 0) = true := bne_iff_ne.mpr c14
        (first | rw [c14b0] | (simp only [i64_w, i32_w]; rw [c14b0]) | skip)
        by_cases c17 : (wrap64 (63 - a0_2)) < 64
        · rw [if_pos c17] at H
          have c17b0 : decide ((wrap64 (63 - a0_2)) < 64) = true := decide_eq_true c17
          clear c17
          obtain ⟨ji18, hji18⟩ : ∃ j_ : Int, (wrap64 (63 - a0_2)) = j_ := ⟨_, rfl⟩
          replace H : (if 0 ≤ (ji18) then (if 0 ≤ (wrap64 (64 - (ji18))) then (ints_of.j0 k a1 (shr .u64 a0_3 (ji18)) (shl .u64 a0_3 (wrap64 (64 - (ji18)))) a0_0 a0_1 a0_2 a0_3) else (none)) else (none)) = some (r1, r2, r3) := by first | (rw [hji18] at H; exact H) | (simp only [hji18] at H ⊢; exact H)
          (try rw [hji18] at c14b0)
          (try rw [hji18] at c14b1)
          (try rw [hji18] at c17b0)
          have hji18w : (IntKind.i64.wrap (63 - a0_2)) = ji18 := (i64_w _).trans hji18
          by_cases c19 : 0 ≤ (ji18)
          · rw [if_pos c19] at H
            have c19b0 := eq_true c19
            have c19b1 : decide (0 ≤ (ji18)) = true := decide_eq_true c19
            clear c19
            obtain ⟨ji20, hji20⟩ : ∃ j_ : Int, (shr .u64 a0_3 (ji18)) = j_ := ⟨_, rfl⟩
            replace H : (if 0 ≤ (wrap64 (64 - (ji18))) then (ints_of.j0 k a1 ji20 (shl .u64 a0_3 (wrap64 (64 - (ji18)))) a0_0 a0_1 a0_2 a0_3) else (none)) = some (r1, r2, r3) := by first | (rw [hji20] at H; exact H) | (simp only [hji20] at H ⊢; exact H)
            have hji20_ : (a0_3 / 2 ^ min (ji18).toNat 64) = ji20 := hji20
            have hji20z : (ji18) ≤ 64 → (a0_3 / 2 ^ (ji18).toNat) = ji20 := shr_small hji20
            obtain ⟨ji21, hji21⟩ : ∃ j_ : Int, (wrap64 (64 - (ji18))) = j_ := ⟨_, rfl⟩
            replace H : (if 0 ≤ (ji21) then (ints_of.j0 k a1 ji20 (shl .u64 a0_3 (ji21)) a0_0 a0_1 a0_2 a0_3) else (none)) = some (r1, r2, r3) := by first | (rw [hji21] at H; exact H) | (simp only [hji21] at H ⊢; exact H)
            have hji21w : (IntKind.i64.wrap (64 - (ji18))) = ji21 := (i64_w _).trans hji21
            by_cases c22 : 0 ≤ (ji21)
            · rw [if_pos c22] at H
              have c22b0 := eq_true c22
              have c22b1 : decide (0 ≤ (ji21)) = true := decide_eq_true c22
              clear c22
              obtain ⟨ji23, hji23⟩ : ∃ j_ : Int, (shl .u64 a0_3 (ji21)) = j_ := ⟨_, rfl⟩
              replace H : (ints_of.j0 k a1 ji20 ji23 a0_0 a0_1 a0_2 a0_3) = some (r1, r2, r3) := by first | (rw [hji23] at H; exact H) | (simp only [hji23] at H ⊢; exact H)
              have hji23_ : (IntKind.u64.wrap (a0_3 * 2 ^ min (ji21).toNat 64)) = ji23 := hji23
              have hji23z : (ji21) ≤ 64 → (IntKind.u64.wrap (a0_3 * 2 ^ (ji21).toNat)) = ji23 := shl_small hji23
              have H' := Aside0.mk H
              clear H
              have hnb24 := NB262_263.out
              have hnc24 := NB263_262.out
              obtain ⟨hcz25_0, hcz25_1, hcz25_2, hcz25_3, hfz25_0, hfz25_1, hfz25_2, hfz25_3⟩ := cl4 BK262.out
              go_wp2
              repeat (go_quiet (fail); try go_wp2)
              go_meet
              case rel => exact ⟨_, (ji20), (ji23), (by first | rfl | (simp; done) | (simp only [← hji20] <;> (first | rfl | simp)) | (simp [*]; done)), (by first | rfl | (simp; done) | (simp only [← hji23] <;> (first | rfl | simp)) | (simp [*]; done)), H', ⟨by first | omega | exact Nat.le_refl _⟩, ⟨bK3 BK262.out⟩, ⟨bK3 BK263.out⟩, ⟨bR3 HB.out⟩⟩
            · rw [if_neg c22] at H
              exact absurd H (by simp)
          · rw [if_neg c19] at H
            exact absurd H (by simp)
        · rw [if_neg c17] at H
          have c17b0 : decide ((wrap64 (63 - a0_2)) < 64) = false := decide_eq_false c17
          clear c17
          by_cases c26 : (wrap64 (63 - a0_2)) = 64
          · rw [if_pos c26] at H
            have c26b0 : ((wrap64 (63 - a0_2)) == 64) = true := beq_iff_eq.mpr c26
            have c26b1 : ((wrap64 (63 - a0_2)) != 64) = false := bne_eq_false_iff_eq.mpr c26
            clear c26
            have H' := Aside0.mk H
            clear H
            have hnb27 := NB262_263.out
            have hnc27 := NB263_262.out
            obtain ⟨hcz28_0, hcz28_1, hcz28_2, hcz28_3, hfz28_0, hfz28_1, hfz28_2, hfz28_3⟩ := cl4 BK262.out
            go_wp2
            repeat (go_quiet (fail); try go_wp2)
            go_meet
            case rel => exact ⟨_, (0), (a0_3), (by first | rfl | (simp; done) | (simp [*]; done)), (by first | rfl | (simp; done) | (simp [*]; done)), H', ⟨by first | omega | exact Nat.le_refl _⟩, ⟨bK3 BK262.out⟩, ⟨bK3 BK263.out⟩, ⟨bR3 HB.out⟩⟩
          · rw [if_neg c26] at H
            have c26b0 : ((wrap64 (63 - a0_2)) == 64) = false := beq_eq_false_iff_ne.mpr c26
            have c26b1 : ((wrap64 (63 - a0_2)) != 64) = true := bne_iff_ne.mpr c26
            have H' := Aside0.mk H
            clear H
            go_wp2
            repeat (go_quiet (fail); try go_wp2)
            go_meet
            case rel => exact ⟨_, (0), (1), (by first | rfl | (simp; done) | (simp [*]; done)), (by first | rfl | (simp; done) | (simp [*]; done)), H', ⟨by first | omega | exact Nat.le_refl _⟩, ⟨bK3 BK262.out⟩, ⟨bK3 BK263.out⟩, ⟨bR3 HB.out⟩⟩
    case rest =>
      clear HC9
      try clear c1
      try clear c2
      try clear p2
      try clear c3
      try clear c3b0
      try clear c4
      try clear c6
      try clear p6
      try clear c12
      try clear c14
      try clear c14b0
      try clear c14b1
      try clear c15
      try clear c17
      try clear c17b0
      try clear c19
      try clear c19b0
      try clear c19b1
      try clear c22
      try clear c22b0
      try clear c22b1
      try clear c24
      try clear c26
      try clear c26b0
      try clear c26b1
      try clear c27
      try clear hcz13_0 hcz13_1 hcz13_2 hcz13_3
      try clear hcz16_0 hcz16_1 hcz16_2 hcz16_3
      try clear hcz25_0 hcz25_1 hcz25_2 hcz25_3
      try clear hcz28_0 hcz28_1 hcz28_2 hcz28_3
      try clear hcz7_0 hcz7_1 hcz7_2 hcz7_3
      try clear hcz8_0 hcz8_1 hcz8_2
      try clear hfz13_0 hfz13_1 hfz13_2 hfz13_3
      try clear hfz16_0 hfz16_1 hfz16_2 hfz16_3
      try clear hfz25_0 hfz25_1 hfz25_2 hfz25_3
      try clear hfz28_0 hfz28_1 hfz28_2 hfz28_3
      try clear hfz7_0 hfz7_1 hfz7_2 hfz7_3
      try clear hfz8_0 hfz8_1 hfz8_2
      obtain ⟨kq, x5_8, x6_8, rfl, rfl, HA, HJ8, BK262, BK263, HB⟩ := hcut
      cases kq with
      | zero => exact absurd HA.out (by simp [ints_of.j0])
      | succ kj8 =>
        have H := HA.out
        clear HA
        simp only [ints_of.j0] at H
        by_cases c29 : a1 = 0
        · rw [if_pos c29] at H
          have c29b0 : (a1 == 0) = true := beq_iff_eq.mpr c29
          have c29b1 : (a1 != 0) = false := bne_eq_false_iff_eq.mpr c29
          clear c29
          by_cases c30 : x6_8 > 9223372036854775808
          · rw [if_pos c30] at H
            have c30b0 : decide (9223372036854775808 < x6_8) = true := decide_eq_true c30
            clear c30
            by_cases c31 : a0_1 = true
            · subst c31
              rw [if_pos rfl] at H
              simp only [Option.some.injEq, Prod.mk.injEq] at H
              obtain ⟨rfl, rfl, rfl⟩ := H
              have hnb32 := NB262_263.out
              have hnc32 := NB263_262.out
              obtain ⟨hcz33_0, hcz33_1, hcz33_2, hcz33_3, hfz33_0, hfz33_1, hfz33_2, hfz33_3⟩ := cl4 BK262.out
              obtain ⟨hcz34_0, hcz34_1, hcz34_2, hfz34_0, hfz34_1, hfz34_2⟩ := cl3 BK263.out
              go_wp2
              repeat (go_quiet (fail); try go_wp2)
              refine bodyPost_ret (results_cell_row rfl _ _ gb263 57 #[.bool (decide ((IntKind.u64.wrap (x5_8 + 1)) > 0)), .bool false, .int .u64 (IntKind.u64.wrap (x5_8 + 1))] (0, 0) _ rfl (bQ3 BK263.out) Try.underlying57 rfl (by kernel_rfl)) rfl ?_
              exact ⟨eR3, bR3 HB.out⟩
            · replace c31 := Bool.eq_false_iff.mpr c31
              subst c31
              rw [if_neg (show ¬ (false = true) by decide)] at H
              simp only [Option.some.injEq, Prod.mk.injEq] at H
              obtain ⟨rfl, rfl, rfl⟩ := H
              have hnb35 := NB262_263.out
              have hnc35 := NB263_262.out
              obtain ⟨hcz36_0, hcz36_1, hcz36_2, hcz36_3, hfz36_0, hfz36_1, hfz36_2, hfz36_3⟩ := cl4 BK262.out
              obtain ⟨hcz37_0, hcz37_1, hcz37_2, hfz37_0, hfz37_1, hfz37_2⟩ := cl3 BK263.out
              go_wp2
              repeat (go_quiet (fail); try go_wp2)
              refine bodyPost_ret (results_cell_row rfl _ _ gb263 57 #[.bool false, .bool false, .int .u64 (IntKind.u64.wrap (x5_8 + 1))] (0, 0) _ rfl (bQ3 BK263.out) Try.underlying57 rfl (by kernel_rfl)) rfl ?_
              exact ⟨eR3, bR3 HB.out⟩
          · rw [if_neg c30] at H
            have c30b0 : decide (9223372036854775808 < x6_8) = false := decide_eq_false c30
            clear c30
            by_cases c38 : x6_8 = 9223372036854775808
            · rw [if_pos c38] at H
              have c38b0 : (x6_8 == 9223372036854775808) = true := beq_iff_eq.mpr c38
              have c38b1 : (x6_8 != 9223372036854775808) = false := bne_eq_false_iff_eq.mpr c38
              clear c38
              by_cases c39 : (Go.bits .and .u64 x5_8 1) = 1
              · rw [if_pos c39] at H
                have c39b0 : ((Go.bits .and .u64 x5_8 1) == 1) = true := beq_iff_eq.mpr c39
                have c39b1 : ((Go.bits .and .u64 x5_8 1) != 1) = false := bne_eq_false_iff_eq.mpr c39
                clear c39
                by_cases c40 : a0_1 = true
                · subst c40
                  rw [if_pos rfl] at H
                  simp only [Option.some.injEq, Prod.mk.injEq] at H
                  obtain ⟨rfl, rfl, rfl⟩ := H
                  have hnb41 := NB262_263.out
                  have hnc41 := NB263_262.out
                  obtain ⟨hcz42_0, hcz42_1, hcz42_2, hcz42_3, hfz42_0, hfz42_1, hfz42_2, hfz42_3⟩ := cl4 BK262.out
                  obtain ⟨hcz43_0, hcz43_1, hcz43_2, hfz43_0, hfz43_1, hfz43_2⟩ := cl3 BK263.out
                  go_wp2
                  repeat (go_quiet (fail); try go_wp2)
                  refine bodyPost_ret (results_cell_row rfl _ _ gb263 57 #[.bool (decide ((IntKind.u64.wrap (x5_8 + 1)) > 0)), .bool false, .int .u64 (IntKind.u64.wrap (x5_8 + 1))] (0, 0) _ rfl (bQ3 BK263.out) Try.underlying57 rfl (by kernel_rfl)) rfl ?_
                  exact ⟨eR3, bR3 HB.out⟩
                · replace c40 := Bool.eq_false_iff.mpr c40
                  subst c40
                  rw [if_neg (show ¬ (false = true) by decide)] at H
                  simp only [Option.some.injEq, Prod.mk.injEq] at H
                  obtain ⟨rfl, rfl, rfl⟩ := H
                  have hnb44 := NB262_263.out
                  have hnc44 := NB263_262.out
                  obtain ⟨hcz45_0, hcz45_1, hcz45_2, hcz45_3, hfz45_0, hfz45_1, hfz45_2, hfz45_3⟩ := cl4 BK262.out
                  obtain ⟨hcz46_0, hcz46_1, hcz46_2, hfz46_0, hfz46_1, hfz46_2⟩ := cl3 BK263.out
                  go_wp2
                  repeat (go_quiet (fail); try go_wp2)
                  refine bodyPost_ret (results_cell_row rfl _ _ gb263 57 #[.bool false, .bool false, .int .u64 (IntKind.u64.wrap (x5_8 + 1))] (0, 0) _ rfl (bQ3 BK263.out) Try.underlying57 rfl (by kernel_rfl)) rfl ?_
                  exact ⟨eR3, bR3 HB.out⟩
              · rw [if_neg c39] at H
                have c39b0 : ((Go.bits .and .u64 x5_8 1) == 1) = false := beq_eq_false_iff_ne.mpr c39
                have c39b1 : ((Go.bits .and .u64 x5_8 1) != 1) = true := bne_iff_ne.mpr c39
                by_cases c47 : a0_1 = true
                · subst c47
                  rw [if_pos rfl] at H
                  simp only [Option.some.injEq, Prod.mk.injEq] at H
                  obtain ⟨rfl, rfl, rfl⟩ := H
                  have hnb48 := NB262_263.out
                  have hnc48 := NB263_262.out
                  obtain ⟨hcz49_0, hcz49_1, hcz49_2, hcz49_3, hfz49_0, hfz49_1, hfz49_2, hfz49_3⟩ := cl4 BK262.out
                  obtain ⟨hcz50_0, hcz50_1, hcz50_2, hfz50_0, hfz50_1, hfz50_2⟩ := cl3 BK263.out
                  go_wp2
                  repeat (go_quiet (fail); try go_wp2)
                  refine bodyPost_ret (results_cell_row rfl _ _ gb263 57 #[.bool (decide (x5_8 > 0)), .bool false, .int .u64 x5_8] (0, 0) _ rfl (bQ3 BK263.out) Try.underlying57 rfl (by kernel_rfl)) rfl ?_
                  exact ⟨eR3, bR3 HB.out⟩
                · replace c47 := Bool.eq_false_iff.mpr c47
                  subst c47
                  rw [if_neg (show ¬ (false = true) by decide)] at H
                  simp only [Option.some.injEq, Prod.mk.injEq] at H
                  obtain ⟨rfl, rfl, rfl⟩ := H
                  have hnb51 := NB262_263.out
                  have hnc51 := NB263_262.out
                  obtain ⟨hcz52_0, hcz52_1, hcz52_2, hcz52_3, hfz52_0, hfz52_1, hfz52_2, hfz52_3⟩ := cl4 BK262.out
                  obtain ⟨hcz53_0, hcz53_1, hcz53_2, hfz53_0, hfz53_1, hfz53_2⟩ := cl3 BK263.out
                  go_wp2
                  repeat (go_quiet (fail); try go_wp2)
                  refine bodyPost_ret (results_cell_row rfl _ _ gb263 57 #[.bool false, .bool false, .int .u64 x5_8] (0, 0) _ rfl (bQ3 BK263.out) Try.underlying57 rfl (by kernel_rfl)) rfl ?_
                  exact ⟨eR3, bR3 HB.out⟩
            · rw [if_neg c38] at H
              have c38b0 : (x6_8 == 9223372036854775808) = false := beq_eq_false_iff_ne.mpr c38
              have c38b1 : (x6_8 != 9223372036854775808) = true := bne_iff_ne.mpr c38
              by_cases c54 : a0_1 = true
              · subst c54
                rw [if_pos rfl] at H
                simp only [Option.some.injEq, Prod.mk.injEq] at H
                obtain ⟨rfl, rfl, rfl⟩ := H
                have hnb55 := NB262_263.out
                have hnc55 := NB263_262.out
                obtain ⟨hcz56_0, hcz56_1, hcz56_2, hcz56_3, hfz56_0, hfz56_1, hfz56_2, hfz56_3⟩ := cl4 BK262.out
                obtain ⟨hcz57_0, hcz57_1, hcz57_2, hfz57_0, hfz57_1, hfz57_2⟩ := cl3 BK263.out
                go_wp2
                repeat (go_quiet (fail); try go_wp2)
                refine bodyPost_ret (results_cell_row rfl _ _ gb263 57 #[.bool (decide (x5_8 > 0)), .bool false, .int .u64 x5_8] (0, 0) _ rfl (bQ3 BK263.out) Try.underlying57 rfl (by kernel_rfl)) rfl ?_
                exact ⟨eR3, bR3 HB.out⟩
              · replace c54 := Bool.eq_false_iff.mpr c54
                subst c54
                rw [if_neg (show ¬ (false = true) by decide)] at H
                simp only [Option.some.injEq, Prod.mk.injEq] at H
                obtain ⟨rfl, rfl, rfl⟩ := H
                have hnb58 := NB262_263.out
                have hnc58 := NB263_262.out
                obtain ⟨hcz59_0, hcz59_1, hcz59_2, hcz59_3, hfz59_0, hfz59_1, hfz59_2, hfz59_3⟩ := cl4 BK262.out
                obtain ⟨hcz60_0, hcz60_1, hcz60_2, hfz60_0, hfz60_1, hfz60_2⟩ := cl3 BK263.out
                go_wp2
                repeat (go_quiet (fail); try go_wp2)
                refine bodyPost_ret (results_cell_row rfl _ _ gb263 57 #[.bool false, .bool false, .int .u64 x5_8] (0, 0) _ rfl (bQ3 BK263.out) Try.underlying57 rfl (by kernel_rfl)) rfl ?_
                exact ⟨eR3, bR3 HB.out⟩
        · rw [if_neg c29] at H
          have c29b0 : (a1 == 0) = false := beq_eq_false_iff_ne.mpr c29
          have c29b1 : (a1 != 0) = true := bne_iff_ne.mpr c29
          by_cases c61 : a1 = 2
          · rw [if_pos c61] at H
            have c61b0 : (a1 == 2) = true := beq_iff_eq.mpr c61
            have c61b1 : (a1 != 2) = false := bne_eq_false_iff_eq.mpr c61
            clear c61
            by_cases c62 : a0_1 = true
            · subst c62
              rw [if_pos rfl] at H
              simp only [Option.some.injEq, Prod.mk.injEq] at H
              obtain ⟨rfl, rfl, rfl⟩ := H
              have hnb63 := NB262_263.out
              have hnc63 := NB263_262.out
              obtain ⟨hcz64_0, hcz64_1, hcz64_2, hcz64_3, hfz64_0, hfz64_1, hfz64_2, hfz64_3⟩ := cl4 BK262.out
              obtain ⟨hcz65_0, hcz65_1, hcz65_2, hfz65_0, hfz65_1, hfz65_2⟩ := cl3 BK263.out
              go_wp2
              repeat (go_quiet (fail); try go_wp2)
              refine bodyPost_ret (results_cell_row rfl _ _ gb263 57 #[.bool (decide (x5_8 > 0)), .bool false, .int .u64 x5_8] (0, 0) _ rfl (bQ3 BK263.out) Try.underlying57 rfl (by kernel_rfl)) rfl ?_
              exact ⟨eR3, bR3 HB.out⟩
            · replace c62 := Bool.eq_false_iff.mpr c62
              subst c62
              rw [if_neg (show ¬ (false = true) by decide)] at H
              by_cases c66 : x6_8 > 0
              · rw [if_pos c66] at H
                have c66b0 : decide (0 < x6_8) = true := decide_eq_true c66
                clear c66
                simp only [Option.some.injEq, Prod.mk.injEq] at H
                obtain ⟨rfl, rfl, rfl⟩ := H
                have hnb67 := NB262_263.out
                have hnc67 := NB263_262.out
                obtain ⟨hcz68_0, hcz68_1, hcz68_2, hcz68_3, hfz68_0, hfz68_1, hfz68_2, hfz68_3⟩ := cl4 BK262.out
                obtain ⟨hcz69_0, hcz69_1, hcz69_2, hfz69_0, hfz69_1, hfz69_2⟩ := cl3 BK263.out
                go_wp2
                repeat (go_quiet (fail); try go_wp2)
                refine bodyPost_ret (results_cell_row rfl _ _ gb263 57 #[.bool false, .bool false, .int .u64 (IntKind.u64.wrap (x5_8 + 1))] (0, 0) _ rfl (bQ3 BK263.out) Try.underlying57 rfl (by kernel_rfl)) rfl ?_
                exact ⟨eR3, bR3 HB.out⟩
              · rw [if_neg c66] at H
                have c66b0 : decide (0 < x6_8) = false := decide_eq_false c66
                clear c66
                simp only [Option.some.injEq, Prod.mk.injEq] at H
                obtain ⟨rfl, rfl, rfl⟩ := H
                have hnb70 := NB262_263.out
                have hnc70 := NB263_262.out
                obtain ⟨hcz71_0, hcz71_1, hcz71_2, hcz71_3, hfz71_0, hfz71_1, hfz71_2, hfz71_3⟩ := cl4 BK262.out
                obtain ⟨hcz72_0, hcz72_1, hcz72_2, hfz72_0, hfz72_1, hfz72_2⟩ := cl3 BK263.out
                go_wp2
                repeat (go_quiet (fail); try go_wp2)
                refine bodyPost_ret (results_cell_row rfl _ _ gb263 57 #[.bool false, .bool false, .int .u64 x5_8] (0, 0) _ rfl (bQ3 BK263.out) Try.underlying57 rfl (by kernel_rfl)) rfl ?_
                exact ⟨eR3, bR3 HB.out⟩
          · rw [if_neg c61] at H
            have c61b0 : (a1 == 2) = false := beq_eq_false_iff_ne.mpr c61
            have c61b1 : (a1 != 2) = true := bne_iff_ne.mpr c61
            by_cases c73 : a1 = 1
            · rw [if_pos c73] at H
              have c73b0 : (a1 == 1) = true := beq_iff_eq.mpr c73
              have c73b1 : (a1 != 1) = false := bne_eq_false_iff_eq.mpr c73
              clear c73
              by_cases c74 : a0_1 = true
              · subst c74
                rw [if_pos rfl] at H
                by_cases c75 : x6_8 > 0
                · rw [if_pos c75] at H
                  have c75b0 : decide (0 < x6_8) = true := decide_eq_true c75
                  clear c75
                  simp only [Option.some.injEq, Prod.mk.injEq] at H
                  obtain ⟨rfl, rfl, rfl⟩ := H
                  have hnb76 := NB262_263.out
                  have hnc76 := NB263_262.out
                  obtain ⟨hcz77_0, hcz77_1, hcz77_2, hcz77_3, hfz77_0, hfz77_1, hfz77_2, hfz77_3⟩ := cl4 BK262.out
                  obtain ⟨hcz78_0, hcz78_1, hcz78_2, hfz78_0, hfz78_1, hfz78_2⟩ := cl3 BK263.out
                  go_wp2
                  repeat (go_quiet (fail); try go_wp2)
                  refine bodyPost_ret (results_cell_row rfl _ _ gb263 57 #[.bool (decide ((IntKind.u64.wrap (x5_8 + 1)) > 0)), .bool false, .int .u64 (IntKind.u64.wrap (x5_8 + 1))] (0, 0) _ rfl (bQ3 BK263.out) Try.underlying57 rfl (by kernel_rfl)) rfl ?_
                  exact ⟨eR3, bR3 HB.out⟩
                · rw [if_neg c75] at H
                  have c75b0 : decide (0 < x6_8) = false := decide_eq_false c75
                  clear c75
                  simp only [Option.some.injEq, Prod.mk.injEq] at H
                  obtain ⟨rfl, rfl, rfl⟩ := H
                  have hnb79 := NB262_263.out
                  have hnc79 := NB263_262.out
                  obtain ⟨hcz80_0, hcz80_1, hcz80_2, hcz80_3, hfz80_0, hfz80_1, hfz80_2, hfz80_3⟩ := cl4 BK262.out
                  obtain ⟨hcz81_0, hcz81_1, hcz81_2, hfz81_0, hfz81_1, hfz81_2⟩ := cl3 BK263.out
                  go_wp2
                  repeat (go_quiet (fail); try go_wp2)
                  refine bodyPost_ret (results_cell_row rfl _ _ gb263 57 #[.bool (decide (x5_8 > 0)), .bool false, .int .u64 x5_8] (0, 0) _ rfl (bQ3 BK263.out) Try.underlying57 rfl (by kernel_rfl)) rfl ?_
                  exact ⟨eR3, bR3 HB.out⟩
              · replace c74 := Bool.eq_false_iff.mpr c74
                subst c74
                rw [if_neg (show ¬ (false = true) by decide)] at H
                simp only [Option.some.injEq, Prod.mk.injEq] at H
                obtain ⟨rfl, rfl, rfl⟩ := H
                have hnb82 := NB262_263.out
                have hnc82 := NB263_262.out
                obtain ⟨hcz83_0, hcz83_1, hcz83_2, hcz83_3, hfz83_0, hfz83_1, hfz83_2, hfz83_3⟩ := cl4 BK262.out
                obtain ⟨hcz84_0, hcz84_1, hcz84_2, hfz84_0, hfz84_1, hfz84_2⟩ := cl3 BK263.out
                go_wp2
                repeat (go_quiet (fail); try go_wp2)
                refine bodyPost_ret (results_cell_row rfl _ _ gb263 57 #[.bool false, .bool false, .int .u64 x5_8] (0, 0) _ rfl (bQ3 BK263.out) Try.underlying57 rfl (by kernel_rfl)) rfl ?_
                exact ⟨eR3, bR3 HB.out⟩
            · rw [if_neg c73] at H
              have c73b0 : (a1 == 1) = false := beq_eq_false_iff_ne.mpr c73
              have c73b1 : (a1 != 1) = true := bne_iff_ne.mpr c73
              by_cases c85 : a0_1 = true
              · subst c85
                rw [if_pos rfl] at H
                simp only [Option.some.injEq, Prod.mk.injEq] at H
                obtain ⟨rfl, rfl, rfl⟩ := H
                have hnb86 := NB262_263.out
                have hnc86 := NB263_262.out
                obtain ⟨hcz87_0, hcz87_1, hcz87_2, hcz87_3, hfz87_0, hfz87_1, hfz87_2, hfz87_3⟩ := cl4 BK262.out
                obtain ⟨hcz88_0, hcz88_1, hcz88_2, hfz88_0, hfz88_1, hfz88_2⟩ := cl3 BK263.out
                go_wp2
                repeat (go_quiet (fail); try go_wp2)
                refine bodyPost_ret (results_cell_row rfl _ _ gb263 57 #[.bool (decide (x5_8 > 0)), .bool false, .int .u64 x5_8] (0, 0) _ rfl (bQ3 BK263.out) Try.underlying57 rfl (by kernel_rfl)) rfl ?_
                exact ⟨eR3, bR3 HB.out⟩
              · replace c85 := Bool.eq_false_iff.mpr c85
                subst c85
                rw [if_neg (show ¬ (false = true) by decide)] at H
                simp only [Option.some.injEq, Prod.mk.injEq] at H
                obtain ⟨rfl, rfl, rfl⟩ := H
                have hnb89 := NB262_263.out
                have hnc89 := NB263_262.out
                obtain ⟨hcz90_0, hcz90_1, hcz90_2, hcz90_3, hfz90_0, hfz90_1, hfz90_2, hfz90_3⟩ := cl4 BK262.out
                obtain ⟨hcz91_0, hcz91_1, hcz91_2, hfz91_0, hfz91_1, hfz91_2⟩ := cl3 BK263.out
                go_wp2
                repeat (go_quiet (fail); try go_wp2)
                refine bodyPost_ret (results_cell_row rfl _ _ gb263 57 #[.bool false, .bool false, .int .u64 x5_8] (0, 0) _ rfl (bQ3 BK263.out) Try.underlying57 rfl (by kernel_rfl)) rfl ?_
                exact ⟨eR3, bR3 HB.out⟩
def ints_told.j0 : Nat → Int → Bool → Int → Bool → Int → Int → Option (Bool × Bool × Int × Option Int)
  | 0, _, _, _, _, _, _ => none
  | k + 1, x2, x21, x271000, x271001, x271002, x271003 => if x21 = true then (some (false, false, 0, some 24)) else (if x271000 = 2 then (some (false, false, 0, some 9)) else (if x271000 = 0 then (some (false, false, 0, none)) else ((ints_of.f k x271000 x271001 x271002 x271003 x2).bind fun bt272 => (some (bt272.1, bt272.2.1, bt272.2.2, none)))))
def ints_told.f (k : Nat) (a0 : Int) (a1 : Int) (a2 : Int) : Option (Bool × Bool × Int × Option Int) := (codec_Decode.f k a0 a1).bind fun bt265 => (if bt265.2.2.2.2.isNone = true then (if a2 < 0 then (ints_told.j0 k a2 true bt265.1 bt265.2.1 bt265.2.2.1 bt265.2.2.2.1) else (ints_told.j0 k a2 (decide (a2 > 3)) bt265.1 bt265.2.1 bt265.2.2.1 bt265.2.2.2.1)) else (some (false, false, 0, some (bt265.2.2.2.2.getD 0))))
set_option maxHeartbeats 8000000 in
set_option maxRecDepth 100000 in
theorem ints_told.calls (k : Nat) (a0 : Int) (a1 : Int) (a2 : Int) (r1 : Bool) (r2 : Bool) (r3 : Int) (r4 : Option Int) (w : World) (h : ints_told.f k a0 a1 a2 = some (r1, r2, r3, r4)) :
    Calls Try.prog 29 #[.int .i64 a0, .int .u64 a1, .int .i64 a2] w fun e w' => e = .returned (.tuple #[.agg #[.bool r1, .bool r2, .int .u64 r3], errW r4]) ∧ Below w.heap.size w w' := by
  have hu57 := Try.underlying57
  have hu73 := Try.underlying73
  have hu25 := Try.underlying25
  have hu43 := Try.underlying43
  have HB := Aside0.mk (Below.refl w.heap.size w)
  have H : ((codec_Decode.f k a0 a1).bind fun bt265 => (if bt265.2.2.2.2.isNone = true then (if a2 < 0 then (ints_told.j0 k a2 true bt265.1 bt265.2.1 bt265.2.2.1 bt265.2.2.2.1) else (ints_told.j0 k a2 (decide (a2 > 3)) bt265.1 bt265.2.1 bt265.2.2.1 bt265.2.2.2.1)) else (some (false, false, 0, some (bt265.2.2.2.2.getD 0))))) = some (r1, r2, r3, r4) := h
  clear h
  replace H := Option.bind_eq_some_iff.mp H
  obtain ⟨⟨t265, t266, t267, t268, t269⟩, A40, H⟩ := H
  try dsimp -simprocs only at H
  have A4 := Aside0.mk A40
  clear A40
  rcases t269 with _ | q271
  · rw [if_pos (show (none : Option Int).isNone = true by rfl)] at H
    try simp only [Option.getD_some] at H
    try simp only [errW_none, errW_some]
    have HC5 := Aside0.mk H
    clear H
    go_enter Try.func29, Try.ntmps29
    go_upto_region 4 with (first | ((with_reducible refine gD (N := 6) rfl ?_); refine bE3 6 #[.bool false, .bool false, .int .u64 0] 57 ?hr ?_; (case hr => first | (go_simp; done) | (go_simp; rfl)); intro gb264 hg w6 hbox hb; have n0_ := Aside0.mk (bS3 HB.out hb); have n1_ := Aside0.mk (hbox); have n2_ := Aside0.mk ((bZ3 hg HB.out)); have n3_ := Aside0.mk ((bZ3 hg HB.out)); clear HB; have HB := n0_; have BK264 := n1_; have GW264 := n2_; have GE264 := n3_; clear n0_ n1_ n2_ n3_; clear hb hbox hg) | ((with_reducible refine gC (f := 44) rfl ?_); (with_reducible refine gD (N := 13) rfl ?_); refine goesY_ (some 13) Try.func44 #[.int .i64 a0, .int .u64 a1] ?_; (with_reducible refine (codec_Decode.calls k a0 a1 t265 t266 t267 t268 none _ A4.out).mono ?_); rintro e w7 ⟨rfl, hb⟩; refine ⟨_, rfl, ?_⟩; have n0_ := Aside0.mk (bB3 BK264.out hb); have n1_ := Aside0.mk (bS3 HB.out hb); clear BK264; clear HB; have BK264 := n0_; have HB := n1_; clear n0_ n1_; (try clear hb); (try clear hb2); (try clear hk); (try clear hi); (try simp only [errW_none, errW_some])) | ((with_reducible refine gD (N := 8) rfl ?_); refine bE3 8 #[.int .i64 0, .bool false, .int .i64 0, .int .u64 0] 73 ?hr ?_; (case hr => first | (go_simp; done) | (go_simp; rfl)); intro gb270 hg w8 hbox hb; have n0_ := Aside0.mk (bB3 BK264.out hb); have n1_ := Aside0.mk (bS3 HB.out hb); have n2_ := Aside0.mk (hbox); have n3_ := Aside0.mk ((bZ3 hg HB.out)); have n4_ := Aside0.mk ((bZ3 hg HB.out)); have n5_ := Aside0.mk ((bL3 hg BK264.out)); have n6_ := Aside0.mk ((bG3 hg BK264.out)); clear BK264; clear HB; have BK264 := n0_; have HB := n1_; have BK270 := n2_; have GW270 := n3_; have GE270 := n4_; have NB264_270 := n5_; have NB270_264 := n6_; clear n0_ n1_ n2_ n3_ n4_ n5_ n6_; clear hb hbox hg; have hnb9 := NB270_264.out; have hnc9 := NB264_270.out; obtain ⟨hcz10_0, hcz10_1, hcz10_2, hcz10_3, hfz10_0, hfz10_1, hfz10_2, hfz10_3⟩ := cl4 BK270.out))
    (try simp only [Act.put, List.setIfInBounds_toArray, List.set_cons_zero, List.set_cons_succ])
    go_cut [21] (fun v21 wc => ∃ (kq : Nat) (x21_4 : Bool), v21 = .bool x21_4 ∧ Aside0 (ints_told.j0 kq a2 x21_4 t265 t266 t267 t268 = some (r1, r2, r3, r4)) ∧ Aside0 (kq ≤ k) ∧ Aside0 (wc.heap[gb264]? = some (.cells #[.bool false, .bool false, .int .u64 0] 57 (0, 0))) ∧ Aside0 (wc.heap[gb270]? = some (.cells #[.int .i64 t265, .bool t266, .int .i64 t267, .int .u64 t268] 73 (0, 0))) ∧ Aside0 (Below w.heap.size w wc))
    case first =>
      have H := HC5.out
      clear HC5
      by_cases c11 : a2 < 0
      · rw [if_pos c11] at H
        have c11b0 : decide (a2 < 0) = true := decide_eq_true c11
        clear c11
        (first | rw [c11b0] | (simp only [i64_w, i32_w]; rw [c11b0]) | skip)
        have H' := Aside0.mk H
        clear H
        go_wp2
        go_meet
        case rel => exact ⟨_, (true), (by first | rfl | (simp; done) | (simp [*]; done)), H', ⟨by first | omega | exact Nat.le_refl _⟩, ⟨bQ3 BK264.out⟩, ⟨bQ3 BK270.out⟩, ⟨bR3 HB.out⟩⟩
      · rw [if_neg c11] at H
        have c11b0 : decide (a2 < 0) = false := decide_eq_false c11
        clear c11
        (first | rw [c11b0] | (simp only [i64_w, i32_w]; rw [c11b0]) | skip)
        have H' := Aside0.mk H
        clear H
        go_wp2
        go_meet
        case rel => exact ⟨_, (decide (a2 > 3)), (by first | rfl | (simp; done) | (simp [*]; done)), H', ⟨by first | omega | exact Nat.le_refl _⟩, ⟨bQ3 BK264.out⟩, ⟨bQ3 BK270.out⟩, ⟨bR3 HB.out⟩⟩
    case rest =>
      clear HC5
      try clear c1
      try clear c2
      try clear p2
      try clear q2
      try clear c4
      try clear c9
      try clear c11
      try clear c11b0
      try clear hcz10_0 hcz10_1 hcz10_2 hcz10_3 hfz10_0 hfz10_1 hfz10_2 hfz10_3
      try clear q271
      obtain ⟨kq, x21_4, rfl, HA, HJ4, BK264, BK270, HB⟩ := hcut
      cases kq with
      | zero => exact absurd HA.out (by simp [ints_told.j0])
      | succ kj4 =>
        have H := HA.out
        clear HA
        simp only [ints_told.j0] at H
        by_cases c12 : x21_4 = true
        · subst c12
          rw [if_pos rfl] at H
          simp only [Option.some.injEq, Prod.mk.injEq] at H
          obtain ⟨rfl, rfl, rfl, rfl⟩ := H
          have hnb13 := NB264_270.out
          have hnc13 := NB270_264.out
          obtain ⟨hcz14_0, hcz14_1, hcz14_2, hfz14_0, hfz14_1, hfz14_2⟩ := cl3 BK264.out
          go_wp2
          refine bodyPost_ret (results_ct rfl _ _ gb264 57 #[.bool false, .bool false, .int .u64 0] (0, 0) _ rfl (bQ3 BK264.out) Try.underlying57 rfl (by kernel_rfl)) rfl ?_
          exact ⟨eR3, bR3 HB.out⟩
        · replace c12 := Bool.eq_false_iff.mpr c12
          subst c12
          rw [if_neg (show ¬ (false = true) by decide)] at H
          by_cases c15 : t265 = 2
          · rw [if_pos c15] at H
            have c15b0 : (t265 == 2) = true := beq_iff_eq.mpr c15
            have c15b1 : (t265 != 2) = false := bne_eq_false_iff_eq.mpr c15
            clear c15
            simp only [Option.some.injEq, Prod.mk.injEq] at H
            obtain ⟨rfl, rfl, rfl, rfl⟩ := H
            have hnb16 := NB270_264.out
            have hnc16 := NB264_270.out
            obtain ⟨hcz17_0, hcz17_1, hcz17_2, hcz17_3, hfz17_0, hfz17_1, hfz17_2, hfz17_3⟩ := cl4 BK270.out
            obtain ⟨hcz18_0, hcz18_1, hcz18_2, hfz18_0, hfz18_1, hfz18_2⟩ := cl3 BK264.out
            go_wp2
            refine bodyPost_ret (results_ct rfl _ _ gb264 57 #[.bool false, .bool false, .int .u64 0] (0, 0) _ rfl (bQ3 BK264.out) Try.underlying57 rfl (by kernel_rfl)) rfl ?_
            exact ⟨eR3, bR3 HB.out⟩
          · rw [if_neg c15] at H
            have c15b0 : (t265 == 2) = false := beq_eq_false_iff_ne.mpr c15
            have c15b1 : (t265 != 2) = true := bne_iff_ne.mpr c15
            by_cases c19 : t265 = 0
            · rw [if_pos c19] at H
              have c19b0 : (t265 == 0) = true := beq_iff_eq.mpr c19
              have c19b1 : (t265 != 0) = false := bne_eq_false_iff_eq.mpr c19
              clear c19
              simp only [Option.some.injEq, Prod.mk.injEq] at H
              obtain ⟨rfl, rfl, rfl, rfl⟩ := H
              have hnb20 := NB270_264.out
              have hnc20 := NB264_270.out
              obtain ⟨hcz21_0, hcz21_1, hcz21_2, hcz21_3, hfz21_0, hfz21_1, hfz21_2, hfz21_3⟩ := cl4 BK270.out
              obtain ⟨hcz22_0, hcz22_1, hcz22_2, hfz22_0, hfz22_1, hfz22_2⟩ := cl3 BK264.out
              go_wp2
              refine bodyPost_ret (results_ct rfl _ _ gb264 57 #[.bool false, .bool false, .int .u64 0] (0, 0) _ rfl (bQ3 BK264.out) Try.underlying57 rfl (by kernel_rfl)) rfl ?_
              exact ⟨eR3, bR3 HB.out⟩
            · rw [if_neg c19] at H
              have c19b0 : (t265 == 0) = false := beq_eq_false_iff_ne.mpr c19
              have c19b1 : (t265 != 0) = true := bne_iff_ne.mpr c19
              replace H := Option.bind_eq_some_iff.mp H
              obtain ⟨⟨t272, t273, t274⟩, A230, H⟩ := H
              try dsimp -simprocs only at H
              have A23 := Aside0.mk A230
              clear A230
              simp only [Option.some.injEq, Prod.mk.injEq] at H
              obtain ⟨rfl, rfl, rfl, rfl⟩ := H
              have hnb24 := NB270_264.out
              have hnc24 := NB264_270.out
              obtain ⟨hcz25_0, hcz25_1, hcz25_2, hcz25_3, hfz25_0, hfz25_1, hfz25_2, hfz25_3⟩ := cl4 BK270.out
              go_wp2_with (first | ((with_reducible refine gC (f := 45) rfl ?_); (with_reducible refine gD (N := 43) rfl ?_); refine goesY_ (some 43) Try.func45 #[.agg #[.int .i64 t265, .bool t266, .int .i64 t267, .int .u64 t268], .int .i64 a2] ?_; (with_reducible refine (ints_of.calls kj4 t265 t266 t267 t268 a2 t272 t273 t274 _ A23.out).mono ?_); rintro e w26 ⟨rfl, hb⟩; refine ⟨_, rfl, ?_⟩; have n0_ := Aside0.mk (bB3 BK264.out hb); have n1_ := Aside0.mk (bB3 BK270.out hb); have n2_ := Aside0.mk (bS3 HB.out hb); clear BK264; clear BK270; clear HB; have BK264 := n0_; have BK270 := n1_; have HB := n2_; clear n0_ n1_ n2_; (try clear hb); (try clear hb2); (try clear hk); (try clear hi); obtain ⟨hcz27_0, hcz27_1, hcz27_2, hfz27_0, hfz27_1, hfz27_2⟩ := cl3 BK264.out))
              refine bodyPost_ret (results_ct rfl _ _ gb264 57 #[.bool t272, .bool t273, .int .u64 t274] (0, 0) _ rfl (bQ3 BK264.out) Try.underlying57 rfl (by kernel_rfl)) rfl ?_
              exact ⟨eR3, bR3 HB.out⟩
  · rw [if_neg (show ¬ (some q271).isNone = true by simp)] at H
    try simp only [Option.getD_some] at H
    try simp only [errW_none, errW_some]
    simp only [Option.some.injEq, Prod.mk.injEq] at H
    obtain ⟨rfl, rfl, rfl, rfl⟩ := H
    go_enter Try.func29, Try.ntmps29
    go_wp2_with (first | ((with_reducible refine gD (N := 6) rfl ?_); refine bE3 6 #[.bool false, .bool false, .int .u64 0] 57 ?hr ?_; (case hr => first | (go_simp; done) | (go_simp; rfl)); intro gb264 hg w28 hbox hb; have n0_ := Aside0.mk (bS3 HB.out hb); have n1_ := Aside0.mk (hbox); have n2_ := Aside0.mk ((bZ3 hg HB.out)); have n3_ := Aside0.mk ((bZ3 hg HB.out)); clear HB; have HB := n0_; have BK264 := n1_; have GW264 := n2_; have GE264 := n3_; clear n0_ n1_ n2_ n3_; clear hb hbox hg) | ((with_reducible refine gC (f := 44) rfl ?_); (with_reducible refine gD (N := 13) rfl ?_); refine goesY_ (some 13) Try.func44 #[.int .i64 a0, .int .u64 a1] ?_; (with_reducible refine (codec_Decode.calls k a0 a1 t265 t266 t267 t268 (some q271) _ A4.out).mono ?_); rintro e w29 ⟨rfl, hb⟩; refine ⟨_, rfl, ?_⟩; have n0_ := Aside0.mk (bB3 BK264.out hb); have n1_ := Aside0.mk (bS3 HB.out hb); clear BK264; clear HB; have BK264 := n0_; have HB := n1_; clear n0_ n1_; (try clear hb); (try clear hb2); (try clear hk); (try clear hi); (try simp only [errW_none, errW_some])) | ((with_reducible refine gD (N := 8) rfl ?_); refine bE3 8 #[.int .i64 0, .bool false, .int .i64 0, .int .u64 0] 73 ?hr ?_; (case hr => first | (go_simp; done) | (go_simp; rfl)); intro gb270 hg w30 hbox hb; have n0_ := Aside0.mk (bB3 BK264.out hb); have n1_ := Aside0.mk (bS3 HB.out hb); have n2_ := Aside0.mk (hbox); have n3_ := Aside0.mk ((bZ3 hg HB.out)); have n4_ := Aside0.mk ((bZ3 hg HB.out)); have n5_ := Aside0.mk ((bL3 hg BK264.out)); have n6_ := Aside0.mk ((bG3 hg BK264.out)); clear BK264; clear HB; have BK264 := n0_; have HB := n1_; have BK270 := n2_; have GW270 := n3_; have GE270 := n4_; have NB264_270 := n5_; have NB270_264 := n6_; clear n0_ n1_ n2_ n3_ n4_ n5_ n6_; clear hb hbox hg; have hnb31 := NB270_264.out; have hnc31 := NB264_270.out; obtain ⟨hcz32_0, hcz32_1, hcz32_2, hcz32_3, hfz32_0, hfz32_1, hfz32_2, hfz32_3⟩ := cl4 BK270.out; obtain ⟨hcz33_0, hcz33_1, hcz33_2, hfz33_0, hfz33_1, hfz33_2⟩ := cl3 BK264.out))
    refine bodyPost_ret (results_ct rfl _ _ gb264 57 #[.bool false, .bool false, .int .u64 0] (0, 0) _ rfl (bQ3 BK264.out) Try.underlying57 rfl (by kernel_rfl)) rfl ?_
    exact ⟨eR3, bR3 HB.out⟩
def ints_ToInt.j0 : Nat → Bool → Bool → Bool → Int → Option (Int × Option Int)
  | 0, _, _, _, _ => none
  | k + 1, x21, x280000, x280001, x280002 => if x21 = true then (some (0, some 10)) else (if x280000 = true then (some (wrap64 (IntKind.u64.wrap (-x280002)), none)) else (some (wrap64 (x280002), none)))
def ints_ToInt.f (k : Nat) (a0 : Int) (a1 : Int) (a2 : Int) : Option (Int × Option Int) := (ints_told.f k a0 a1 a2).bind fun bt275 => (if bt275.2.2.2.isNone = true then (if bt275.2.1 = true then (ints_ToInt.j0 k true bt275.1 bt275.2.1 bt275.2.2.1) else (if bt275.2.2.1 > 9223372036854775808 then (ints_ToInt.j0 k true bt275.1 bt275.2.1 bt275.2.2.1) else (if bt275.2.2.1 = 9223372036854775808 then (ints_ToInt.j0 k (!bt275.1) bt275.1 bt275.2.1 bt275.2.2.1) else (ints_ToInt.j0 k false bt275.1 bt275.2.1 bt275.2.2.1)))) else (some (0, some (bt275.2.2.2.getD 0))))
set_option maxHeartbeats 8000000 in
set_option maxRecDepth 100000 in
theorem ints_ToInt.calls (k : Nat) (a0 : Int) (a1 : Int) (a2 : Int) (r1 : Int) (r2 : Option Int) (w : World) (h : ints_ToInt.f k a0 a1 a2 = some (r1, r2)) :
    Calls Try.prog 13 #[.int .i64 a0, .int .u64 a1, .int .i64 a2] w fun e w' => e = .returned (.tuple #[.int .i64 r1, errW r2]) ∧ Below w.heap.size w w' := by
  have hu57 := Try.underlying57
  have hu25 := Try.underlying25
  have hu43 := Try.underlying43
  have HB := Aside0.mk (Below.refl w.heap.size w)
  have H : ((ints_told.f k a0 a1 a2).bind fun bt275 => (if bt275.2.2.2.isNone = true then (if bt275.2.1 = true then (ints_ToInt.j0 k true bt275.1 bt275.2.1 bt275.2.2.1) else (if bt275.2.2.1 > 9223372036854775808 then (ints_ToInt.j0 k true bt275.1 bt275.2.1 bt275.2.2.1) else (if bt275.2.2.1 = 9223372036854775808 then (ints_ToInt.j0 k (!bt275.1) bt275.1 bt275.2.1 bt275.2.2.1) else (ints_ToInt.j0 k false bt275.1 bt275.2.1 bt275.2.2.1)))) else (some (0, some (bt275.2.2.2.getD 0))))) = some (r1, r2) := h
  clear h
  replace H := Option.bind_eq_some_iff.mp H
  obtain ⟨⟨t275, t276, t277, t278⟩, A40, H⟩ := H
  try dsimp -simprocs only at H
  have A4 := Aside0.mk A40
  clear A40
  rcases t278 with _ | q280
  · rw [if_pos (show (none : Option Int).isNone = true by rfl)] at H
    try simp only [Option.getD_some] at H
    try simp only [errW_none, errW_some]
    have HC5 := Aside0.mk H
    clear H
    go_enter Try.func13, Try.ntmps13
    go_upto_region 4 with (first | ((with_reducible refine gC (f := 29) rfl ?_); (with_reducible refine gD (N := 14) rfl ?_); refine goesY_ (some 14) Try.func29 #[.int .i64 a0, .int .u64 a1, .int .i64 a2] ?_; (with_reducible refine (ints_told.calls k a0 a1 a2 t275 t276 t277 none _ A4.out).mono ?_); rintro e w6 ⟨rfl, hb⟩; refine ⟨_, rfl, ?_⟩; have n0_ := Aside0.mk (bS3 HB.out hb); clear HB; have HB := n0_; clear n0_; (try clear hb); (try clear hb2); (try clear hk); (try clear hi); (try simp only [errW_none, errW_some])) | ((with_reducible refine gD (N := 8) rfl ?_); refine bE3 8 #[.bool false, .bool false, .int .u64 0] 57 ?hr ?_; (case hr => first | (go_simp; done) | (go_simp; rfl)); intro gb279 hg w7 hbox hb; have n0_ := Aside0.mk (bS3 HB.out hb); have n1_ := Aside0.mk (hbox); have n2_ := Aside0.mk ((bZ3 hg HB.out)); have n3_ := Aside0.mk ((bZ3 hg HB.out)); clear HB; have HB := n0_; have BK279 := n1_; have GW279 := n2_; have GE279 := n3_; clear n0_ n1_ n2_ n3_; clear hb hbox hg; obtain ⟨hcz8_0, hcz8_1, hcz8_2, hfz8_0, hfz8_1, hfz8_2⟩ := cl3 BK279.out))
    (try simp only [Act.put, List.setIfInBounds_toArray, List.set_cons_zero, List.set_cons_succ])
    go_cut [21] (fun v21 wc => ∃ (kq : Nat) (x21_4 : Bool), v21 = .bool x21_4 ∧ Aside0 (ints_ToInt.j0 kq x21_4 t275 t276 t277 = some (r1, r2)) ∧ Aside0 (kq ≤ k) ∧ Aside0 (wc.heap[gb279]? = some (.cells #[.bool t275, .bool t276, .int .u64 t277] 57 (0, 0))) ∧ Aside0 (Below w.heap.size w wc))
    case first =>
      have H := HC5.out
      clear HC5
      by_cases c9 : t276 = true
      · subst c9
        rw [if_pos rfl] at H
        have H' := Aside0.mk H
        clear H
        obtain ⟨hcz10_0, hcz10_1, hcz10_2, hfz10_0, hfz10_1, hfz10_2⟩ := cl3 BK279.out
        go_wp2
        go_meet
        case rel => exact ⟨_, (true), (by first | rfl | (simp; done) | (simp [*]; done)), H', ⟨by first | omega | exact Nat.le_refl _⟩, ⟨bQ3 BK279.out⟩, ⟨bR3 HB.out⟩⟩
      · replace c9 := Bool.eq_false_iff.mpr c9
        subst c9
        rw [if_neg (show ¬ (false = true) by decide)] at H
        by_cases c11 : t277 > 9223372036854775808
        · rw [if_pos c11] at H
          have c11b0 : decide (9223372036854775808 < t277) = true := decide_eq_true c11
          clear c11
          (first | rw [c11b0] | (simp only [i64_w, i32_w]; rw [c11b0]) | skip)
          have H' := Aside0.mk H
          clear H
          obtain ⟨hcz12_0, hcz12_1, hcz12_2, hfz12_0, hfz12_1, hfz12_2⟩ := cl3 BK279.out
          go_wp2
          go_meet
          case rel => exact ⟨_, (true), (by first | rfl | (simp; done) | (simp [*]; done)), H', ⟨by first | omega | exact Nat.le_refl _⟩, ⟨bQ3 BK279.out⟩, ⟨bR3 HB.out⟩⟩
        · rw [if_neg c11] at H
          have c11b0 : decide (9223372036854775808 < t277) = false := decide_eq_false c11
          clear c11
          (first | rw [c11b0] | (simp only [i64_w, i32_w]; rw [c11b0]) | skip)
          by_cases c13 : t277 = 9223372036854775808
          · rw [if_pos c13] at H
            have c13b0 : (t277 == 9223372036854775808) = true := beq_iff_eq.mpr c13
            have c13b1 : (t277 != 9223372036854775808) = false := bne_eq_false_iff_eq.mpr c13
            clear c13
            have H' := Aside0.mk H
            clear H
            obtain ⟨hcz14_0, hcz14_1, hcz14_2, hfz14_0, hfz14_1, hfz14_2⟩ := cl3 BK279.out
            go_wp2
            go_meet
            case rel => exact ⟨_, (!t275), (by first | rfl | (simp; done) | (simp [*]; done)), H', ⟨by first | omega | exact Nat.le_refl _⟩, ⟨bQ3 BK279.out⟩, ⟨bR3 HB.out⟩⟩
          · rw [if_neg c13] at H
            have c13b0 : (t277 == 9223372036854775808) = false := beq_eq_false_iff_ne.mpr c13
            have c13b1 : (t277 != 9223372036854775808) = true := bne_iff_ne.mpr c13
            have H' := Aside0.mk H
            clear H
            obtain ⟨hcz15_0, hcz15_1, hcz15_2, hfz15_0, hfz15_1, hfz15_2⟩ := cl3 BK279.out
            go_wp2
            go_meet
            case rel => exact ⟨_, (false), (by first | rfl | (simp; done) | (simp [*]; done)), H', ⟨by first | omega | exact Nat.le_refl _⟩, ⟨bQ3 BK279.out⟩, ⟨bR3 HB.out⟩⟩
    case rest =>
      clear HC5
      try clear c1
      try clear c2
      try clear p2
      try clear q2
      try clear c9
      try clear c11
      try clear c11b0
      try clear c13
      try clear c13b0
      try clear c13b1
      try clear hcz10_0 hcz10_1 hcz10_2
      try clear hcz12_0 hcz12_1 hcz12_2
      try clear hcz14_0 hcz14_1 hcz14_2
      try clear hcz15_0 hcz15_1 hcz15_2
      try clear hcz8_0 hcz8_1 hcz8_2
      try clear hfz10_0 hfz10_1 hfz10_2
      try clear hfz12_0 hfz12_1 hfz12_2
      try clear hfz14_0 hfz14_1 hfz14_2
      try clear hfz15_0 hfz15_1 hfz15_2
      try clear hfz8_0 hfz8_1 hfz8_2
      try clear q280
      obtain ⟨kq, x21_4, rfl, HA, HJ4, BK279, HB⟩ := hcut
      cases kq with
      | zero => exact absurd HA.out (by simp [ints_ToInt.j0])
      | succ kj4 =>
        have H := HA.out
        clear HA
        simp only [ints_ToInt.j0] at H
        by_cases c16 : x21_4 = true
        · subst c16
          rw [if_pos rfl] at H
          simp only [Option.some.injEq, Prod.mk.injEq] at H
          obtain ⟨rfl, rfl⟩ := H
          go_wp2
          go_ret2
          exact ⟨eR3, bR3 HB.out⟩
        · replace c16 := Bool.eq_false_iff.mpr c16
          subst c16
          rw [if_neg (show ¬ (false = true) by decide)] at H
          by_cases c17 : t275 = true
          · subst c17
            rw [if_pos rfl] at H
            simp only [Option.some.injEq, Prod.mk.injEq] at H
            obtain ⟨rfl, rfl⟩ := H
            obtain ⟨hcz18_0, hcz18_1, hcz18_2, hfz18_0, hfz18_1, hfz18_2⟩ := cl3 BK279.out
            go_wp2
            go_ret2
            exact ⟨eR3, bR3 HB.out⟩
          · replace c17 := Bool.eq_false_iff.mpr c17
            subst c17
            rw [if_neg (show ¬ (false = true) by decide)] at H
            simp only [Option.some.injEq, Prod.mk.injEq] at H
            obtain ⟨rfl, rfl⟩ := H
            obtain ⟨hcz19_0, hcz19_1, hcz19_2, hfz19_0, hfz19_1, hfz19_2⟩ := cl3 BK279.out
            go_wp2
            go_ret2
            exact ⟨eR3, bR3 HB.out⟩
  · rw [if_neg (show ¬ (some q280).isNone = true by simp)] at H
    try simp only [Option.getD_some] at H
    try simp only [errW_none, errW_some]
    simp only [Option.some.injEq, Prod.mk.injEq] at H
    obtain ⟨rfl, rfl⟩ := H
    go_enter Try.func13, Try.ntmps13
    go_wp2_with (first | ((with_reducible refine gC (f := 29) rfl ?_); (with_reducible refine gD (N := 14) rfl ?_); refine goesY_ (some 14) Try.func29 #[.int .i64 a0, .int .u64 a1, .int .i64 a2] ?_; (with_reducible refine (ints_told.calls k a0 a1 a2 t275 t276 t277 (some q280) _ A4.out).mono ?_); rintro e w20 ⟨rfl, hb⟩; refine ⟨_, rfl, ?_⟩; have n0_ := Aside0.mk (bS3 HB.out hb); clear HB; have HB := n0_; clear n0_; (try clear hb); (try clear hb2); (try clear hk); (try clear hi); (try simp only [errW_none, errW_some])) | ((with_reducible refine gD (N := 8) rfl ?_); refine bE3 8 #[.bool false, .bool false, .int .u64 0] 57 ?hr ?_; (case hr => first | (go_simp; done) | (go_simp; rfl)); intro gb279 hg w21 hbox hb; have n0_ := Aside0.mk (bS3 HB.out hb); have n1_ := Aside0.mk (hbox); have n2_ := Aside0.mk ((bZ3 hg HB.out)); have n3_ := Aside0.mk ((bZ3 hg HB.out)); clear HB; have HB := n0_; have BK279 := n1_; have GW279 := n2_; have GE279 := n3_; clear n0_ n1_ n2_ n3_; clear hb hbox hg; obtain ⟨hcz22_0, hcz22_1, hcz22_2, hfz22_0, hfz22_1, hfz22_2⟩ := cl3 BK279.out))
    go_ret2
    exact ⟨eR3, bR3 HB.out⟩
def ints_Whole.f (k : Nat) (a0 : Int) (a1 : Int) (a2 : Int) : Option (Int × Option Int) := (ints_told.f k a0 a1 a2).bind fun bt281 => (if bt281.2.2.2.isNone = true then (if bt281.2.1 = true then (if 0 ≤ (wrap64 (64 - a0)) then (some (shr .u64 (shl .u64 a1 (wrap64 (64 - a0))) (wrap64 (64 - a0)), none)) else (none)) else ((ints_rounded.f k a0 bt281.1 0 bt281.2.2.1).bind fun bt287 => (some (bt287.1, bt287.2)))) else (some (0, some (bt281.2.2.2.getD 0))))
set_option maxHeartbeats 8000000 in
set_option maxRecDepth 100000 in
theorem ints_Whole.calls (k : Nat) (a0 : Int) (a1 : Int) (a2 : Int) (r1 : Int) (r2 : Option Int) (w : World) (h : ints_Whole.f k a0 a1 a2 = some (r1, r2)) :
    Calls Try.prog 19 #[.int .i64 a0, .int .u64 a1, .int .i64 a2] w fun e w' => e = .returned (.tuple #[.int .u64 r1, errW r2]) ∧ Below w.heap.size w w' := by
  have hu57 := Try.underlying57
  have hu25 := Try.underlying25
  have hu43 := Try.underlying43
  have HB := Aside0.mk (Below.refl w.heap.size w)
  have H : ((ints_told.f k a0 a1 a2).bind fun bt281 => (if bt281.2.2.2.isNone = true then (if bt281.2.1 = true then (if 0 ≤ (wrap64 (64 - a0)) then (some (shr .u64 (shl .u64 a1 (wrap64 (64 - a0))) (wrap64 (64 - a0)), none)) else (none)) else ((ints_rounded.f k a0 bt281.1 0 bt281.2.2.1).bind fun bt287 => (some (bt287.1, bt287.2)))) else (some (0, some (bt281.2.2.2.getD 0))))) = some (r1, r2) := h
  clear h
  replace H := Option.bind_eq_some_iff.mp H
  obtain ⟨⟨t281, t282, t283, t284⟩, A40, H⟩ := H
  try dsimp -simprocs only at H
  have A4 := Aside0.mk A40
  clear A40
  rcases t284 with _ | q286
  · rw [if_pos (show (none : Option Int).isNone = true by rfl)] at H
    try simp only [Option.getD_some] at H
    try simp only [errW_none, errW_some]
    by_cases c5 : t282 = true
    · subst c5
      rw [if_pos rfl] at H
      obtain ⟨ji6, hji6⟩ : ∃ j_ : Int, (wrap64 (64 - a0)) = j_ := ⟨_, rfl⟩
      replace H : (if 0 ≤ (ji6) then (some (shr .u64 (shl .u64 a1 (ji6)) (ji6), none)) else (none)) = some (r1, r2) := by first | (rw [hji6] at H; exact H) | (simp only [hji6] at H ⊢; exact H)
      (try rw [hji6] at A4)
      have hji6w : (IntKind.i64.wrap (64 - a0)) = ji6 := (i64_w _).trans hji6
      by_cases c7 : 0 ≤ (ji6)
      · rw [if_pos c7] at H
        have c7b0 := eq_true c7
        have c7b1 : decide (0 ≤ (ji6)) = true := decide_eq_true c7
        clear c7
        obtain ⟨ji8, hji8⟩ : ∃ j_ : Int, (shl .u64 a1 (ji6)) = j_ := ⟨_, rfl⟩
        replace H : (some (shr .u64 (ji8) (ji6), none)) = some (r1, r2) := by first | (rw [hji8] at H; exact H) | (simp only [hji8] at H ⊢; exact H)
        (try rw [hji8] at A4)
        have hji8_ : (IntKind.u64.wrap (a1 * 2 ^ min (ji6).toNat 64)) = ji8 := hji8
        have hji8z : (ji6) ≤ 64 → (IntKind.u64.wrap (a1 * 2 ^ (ji6).toNat)) = ji8 := shl_small hji8
        have c9b0 := eq_true (of_decide_eq_true (by first | (with_reducible assumption) | assumption) : 0 ≤ (ji6))
        obtain ⟨ji10, hji10⟩ : ∃ j_ : Int, (shr .u64 (ji8) (ji6)) = j_ := ⟨_, rfl⟩
        replace H : (some (ji10, none)) = some (r1, r2) := by first | (rw [hji10] at H; exact H) | (simp only [hji10] at H ⊢; exact H)
        (try rw [hji10] at A4)
        have hji10_ : ((ji8) / 2 ^ min (ji6).toNat 64) = ji10 := hji10
        have hji10z : (ji6) ≤ 64 → ((ji8) / 2 ^ (ji6).toNat) = ji10 := shr_small hji10
        simp only [Option.some.injEq, Prod.mk.injEq] at H
        obtain ⟨rfl, rfl⟩ := H
        go_enter Try.func19, Try.ntmps19
        go_wp2_with (first | ((with_reducible refine gC (f := 29) rfl ?_); (with_reducible refine gD (N := 14) rfl ?_); refine goesY_ (some 14) Try.func29 #[.int .i64 a0, .int .u64 a1, .int .i64 a2] ?_; (with_reducible refine (ints_told.calls k a0 a1 a2 t281 true t283 none _ A4.out).mono ?_); rintro e w11 ⟨rfl, hb⟩; refine ⟨_, rfl, ?_⟩; have n0_ := Aside0.mk (bS3 HB.out hb); clear HB; have HB := n0_; clear n0_; (try clear hb); (try clear hb2); (try clear hk); (try clear hi); (try simp only [errW_none, errW_some])) | ((with_reducible refine gD (N := 8) rfl ?_); refine bE3 8 #[.bool false, .bool false, .int .u64 0] 57 ?hr ?_; (case hr => first | (go_simp; done) | (go_simp; rfl)); intro gb285 hg w12 hbox hb; have n0_ := Aside0.mk (bS3 HB.out hb); have n1_ := Aside0.mk (hbox); have n2_ := Aside0.mk ((bZ3 hg HB.out)); have n3_ := Aside0.mk ((bZ3 hg HB.out)); clear HB; have HB := n0_; have BK285 := n1_; have GW285 := n2_; have GE285 := n3_; clear n0_ n1_ n2_ n3_; clear hb hbox hg; obtain ⟨hcz13_0, hcz13_1, hcz13_2, hfz13_0, hfz13_1, hfz13_2⟩ := cl3 BK285.out))
        go_ret2
        exact ⟨by first | rfl | (simp [errW_none, errW_some] <;> rfl) | (simp only [← hji6, ← hji8, ← hji10]; first | rfl | (simp [errW_none, errW_some] <;> rfl)) | (simp [*, errW_none, errW_some] <;> rfl), bR3 HB.out⟩
      · rw [if_neg c7] at H
        exact absurd H (by simp)
    · replace c5 := Bool.eq_false_iff.mpr c5
      subst c5
      rw [if_neg (show ¬ (false = true) by decide)] at H
      replace H := Option.bind_eq_some_iff.mp H
      obtain ⟨⟨t287, t288⟩, A140, H⟩ := H
      try dsimp -simprocs only at H
      have A14 := Aside0.mk A140
      clear A140
      simp only [Option.some.injEq, Prod.mk.injEq] at H
      obtain ⟨rfl, rfl⟩ := H
      go_enter Try.func19, Try.ntmps19
      go_wp2_with (first | ((with_reducible refine gC (f := 29) rfl ?_); (with_reducible refine gD (N := 14) rfl ?_); refine goesY_ (some 14) Try.func29 #[.int .i64 a0, .int .u64 a1, .int .i64 a2] ?_; (with_reducible refine (ints_told.calls k a0 a1 a2 t281 false t283 none _ A4.out).mono ?_); rintro e w15 ⟨rfl, hb⟩; refine ⟨_, rfl, ?_⟩; have n0_ := Aside0.mk (bS3 HB.out hb); clear HB; have HB := n0_; clear n0_; (try clear hb); (try clear hb2); (try clear hk); (try clear hi); (try simp only [errW_none, errW_some])) | ((with_reducible refine gD (N := 8) rfl ?_); refine bE3 8 #[.bool false, .bool false, .int .u64 0] 57 ?hr ?_; (case hr => first | (go_simp; done) | (go_simp; rfl)); intro gb285 hg w16 hbox hb; have n0_ := Aside0.mk (bS3 HB.out hb); have n1_ := Aside0.mk (hbox); have n2_ := Aside0.mk ((bZ3 hg HB.out)); have n3_ := Aside0.mk ((bZ3 hg HB.out)); clear HB; have HB := n0_; have BK285 := n1_; have GW285 := n2_; have GE285 := n3_; clear n0_ n1_ n2_ n3_; clear hb hbox hg; obtain ⟨hcz17_0, hcz17_1, hcz17_2, hfz17_0, hfz17_1, hfz17_2⟩ := cl3 BK285.out) | ((with_reducible refine gC (f := 23) rfl ?_); (with_reducible refine gD (N := 34) rfl ?_); refine goesY_ (some 34) Try.func23 #[.int .i64 a0, .bool t281, .int .u64 0, .int .u64 t283] ?_; (with_reducible refine (ints_rounded.calls k a0 t281 0 t283 t287 t288 _ A14.out).mono ?_); rintro e w18 ⟨rfl, hb⟩; refine ⟨_, rfl, ?_⟩; have n0_ := Aside0.mk (bB (g := gb285) (o := .cells #[.bool t281, .bool false, .int .u64 t283] 57 (0, 0)) (bQ3 BK285.out) hb); have n1_ := Aside0.mk (bS3 HB.out hb); clear BK285; clear HB; have BK285 := n0_; have HB := n1_; clear n0_ n1_; (try clear hb); (try clear hb2); (try clear hk); (try clear hi); (try simp only [errW_none, errW_some])))
      go_ret2
      exact ⟨eR3, bR3 HB.out⟩
  · rw [if_neg (show ¬ (some q286).isNone = true by simp)] at H
    try simp only [Option.getD_some] at H
    try simp only [errW_none, errW_some]
    simp only [Option.some.injEq, Prod.mk.injEq] at H
    obtain ⟨rfl, rfl⟩ := H
    go_enter Try.func19, Try.ntmps19
    go_wp2_with (first | ((with_reducible refine gC (f := 29) rfl ?_); (with_reducible refine gD (N := 14) rfl ?_); refine goesY_ (some 14) Try.func29 #[.int .i64 a0, .int .u64 a1, .int .i64 a2] ?_; (with_reducible refine (ints_told.calls k a0 a1 a2 t281 t282 t283 (some q286) _ A4.out).mono ?_); rintro e w19 ⟨rfl, hb⟩; refine ⟨_, rfl, ?_⟩; have n0_ := Aside0.mk (bS3 HB.out hb); clear HB; have HB := n0_; clear n0_; (try clear hb); (try clear hb2); (try clear hk); (try clear hi); (try simp only [errW_none, errW_some])) | ((with_reducible refine gD (N := 8) rfl ?_); refine bE3 8 #[.bool false, .bool false, .int .u64 0] 57 ?hr ?_; (case hr => first | (go_simp; done) | (go_simp; rfl)); intro gb285 hg w20 hbox hb; have n0_ := Aside0.mk (bS3 HB.out hb); have n1_ := Aside0.mk (hbox); have n2_ := Aside0.mk ((bZ3 hg HB.out)); have n3_ := Aside0.mk ((bZ3 hg HB.out)); clear HB; have HB := n0_; have BK285 := n1_; have GW285 := n2_; have GE285 := n3_; clear n0_ n1_ n2_ n3_; clear hb hbox hg; obtain ⟨hcz21_0, hcz21_1, hcz21_2, hfz21_0, hfz21_1, hfz21_2⟩ := cl3 BK285.out))
    go_ret2
    exact ⟨eR3, bR3 HB.out⟩
def ints_FromUint.f (k : Nat) (a0 : Int) (a1 : Int) : Option (Int × Option Int) := (ints_rounded.f k a0 false 0 a1).bind fun bt301 => (some (bt301.1, bt301.2))
set_option maxHeartbeats 8000000 in
set_option maxRecDepth 100000 in
theorem ints_FromUint.calls (k : Nat) (a0 : Int) (a1 : Int) (r1 : Int) (r2 : Option Int) (w : World) (h : ints_FromUint.f k a0 a1 = some (r1, r2)) :
    Calls Try.prog 9 #[.int .i64 a0, .int .u64 a1] w fun e w' => e = .returned (.tuple #[.int .u64 r1, errW r2]) ∧ Below w.heap.size w w' := by
  have HB := Aside0.mk (Below.refl w.heap.size w)
  have H : ((ints_rounded.f k a0 false 0 a1).bind fun bt301 => (some (bt301.1, bt301.2))) = some (r1, r2) := h
  clear h
  replace H := Option.bind_eq_some_iff.mp H
  obtain ⟨⟨t301, t302⟩, A30, H⟩ := H
  try dsimp -simprocs only at H
  have A3 := Aside0.mk A30
  clear A30
  simp only [Option.some.injEq, Prod.mk.injEq] at H
  obtain ⟨rfl, rfl⟩ := H
  go_enter Try.func9, Try.ntmps9
  go_wp2_with (first | ((with_reducible refine gC (f := 23) rfl ?_); (with_reducible refine gD (N := 8) rfl ?_); refine goesY_ (some 8) Try.func23 #[.int .i64 a0, .bool false, .int .u64 0, .int .u64 a1] ?_; (with_reducible refine (ints_rounded.calls k a0 false 0 a1 t301 t302 _ A3.out).mono ?_); rintro e w4 ⟨rfl, hb⟩; refine ⟨_, rfl, ?_⟩; have n0_ := Aside0.mk (bS3 HB.out hb); clear HB; have HB := n0_; clear n0_; (try clear hb); (try clear hb2); (try clear hk); (try clear hi); (try simp only [errW_none, errW_some])))
  go_ret2
  exact ⟨eR3, bR3 HB.out⟩
def ints_ToUint.f (k : Nat) (a0 : Int) (a1 : Int) (a2 : Int) : Option (Int × Option Int) := (ints_told.f k a0 a1 a2).bind fun bt446 => (if bt446.2.2.2.isNone = true then (if bt446.2.1 = true then (some (0, some 10)) else (if bt446.1 = true then (some (0, some 10)) else (some (bt446.2.2.1, none)))) else (some (0, some (bt446.2.2.2.getD 0))))
set_option maxHeartbeats 8000000 in
set_option maxRecDepth 100000 in
theorem ints_ToUint.calls (k : Nat) (a0 : Int) (a1 : Int) (a2 : Int) (r1 : Int) (r2 : Option Int) (w : World) (h : ints_ToUint.f k a0 a1 a2 = some (r1, r2)) :
    Calls Try.prog 14 #[.int .i64 a0, .int .u64 a1, .int .i64 a2] w fun e w' => e = .returned (.tuple #[.int .u64 r1, errW r2]) ∧ Below w.heap.size w w' := by
  have hu57 := Try.underlying57
  have hu25 := Try.underlying25
  have hu43 := Try.underlying43
  have HB := Aside0.mk (Below.refl w.heap.size w)
  have H : ((ints_told.f k a0 a1 a2).bind fun bt446 => (if bt446.2.2.2.isNone = true then (if bt446.2.1 = true then (some (0, some 10)) else (if bt446.1 = true then (some (0, some 10)) else (some (bt446.2.2.1, none)))) else (some (0, some (bt446.2.2.2.getD 0))))) = some (r1, r2) := h
  clear h
  replace H := Option.bind_eq_some_iff.mp H
  obtain ⟨⟨t446, t447, t448, t449⟩, A40, H⟩ := H
  try dsimp -simprocs only at H
  have A4 := Aside0.mk A40
  clear A40
  rcases t449 with _ | q451
  · rw [if_pos (show (none : Option Int).isNone = true by rfl)] at H
    try simp only [Option.getD_some] at H
    try simp only [errW_none, errW_some]
    by_cases c5 : t447 = true
    · subst c5
      rw [if_pos rfl] at H
      simp only [Option.some.injEq, Prod.mk.injEq] at H
      obtain ⟨rfl, rfl⟩ := H
      go_enter Try.func14, Try.ntmps14
      go_wp2_with (first | ((with_reducible refine gC (f := 29) rfl ?_); (with_reducible refine gD (N := 14) rfl ?_); refine goesY_ (some 14) Try.func29 #[.int .i64 a0, .int .u64 a1, .int .i64 a2] ?_; (with_reducible refine (ints_told.calls k a0 a1 a2 t446 true t448 none _ A4.out).mono ?_); rintro e w6 ⟨rfl, hb⟩; refine ⟨_, rfl, ?_⟩; have n0_ := Aside0.mk (bS3 HB.out hb); clear HB; have HB := n0_; clear n0_; (try clear hb); (try clear hb2); (try clear hk); (try clear hi); (try simp only [errW_none, errW_some])) | ((with_reducible refine gD (N := 8) rfl ?_); refine bE3 8 #[.bool false, .bool false, .int .u64 0] 57 ?hr ?_; (case hr => first | (go_simp; done) | (go_simp; rfl)); intro gb450 hg w7 hbox hb; have n0_ := Aside0.mk (bS3 HB.out hb); have n1_ := Aside0.mk (hbox); have n2_ := Aside0.mk ((bZ3 hg HB.out)); have n3_ := Aside0.mk ((bZ3 hg HB.out)); clear HB; have HB := n0_; have BK450 := n1_; have GW450 := n2_; have GE450 := n3_; clear n0_ n1_ n2_ n3_; clear hb hbox hg; obtain ⟨hcz8_0, hcz8_1, hcz8_2, hfz8_0, hfz8_1, hfz8_2⟩ := cl3 BK450.out))
      go_ret2
      exact ⟨eR3, bR3 HB.out⟩
    · replace c5 := Bool.eq_false_iff.mpr c5
      subst c5
      rw [if_neg (show ¬ (false = true) by decide)] at H
      by_cases c9 : t446 = true
      · subst c9
        rw [if_pos rfl] at H
        simp only [Option.some.injEq, Prod.mk.injEq] at H
        obtain ⟨rfl, rfl⟩ := H
        go_enter Try.func14, Try.ntmps14
        go_wp2_with (first | ((with_reducible refine gC (f := 29) rfl ?_); (with_reducible refine gD (N := 14) rfl ?_); refine goesY_ (some 14) Try.func29 #[.int .i64 a0, .int .u64 a1, .int .i64 a2] ?_; (with_reducible refine (ints_told.calls k a0 a1 a2 true false t448 none _ A4.out).mono ?_); rintro e w10 ⟨rfl, hb⟩; refine ⟨_, rfl, ?_⟩; have n0_ := Aside0.mk (bS3 HB.out hb); clear HB; have HB := n0_; clear n0_; (try clear hb); (try clear hb2); (try clear hk); (try clear hi); (try simp only [errW_none, errW_some])) | ((with_reducible refine gD (N := 8) rfl ?_); refine bE3 8 #[.bool false, .bool false, .int .u64 0] 57 ?hr ?_; (case hr => first | (go_simp; done) | (go_simp; rfl)); intro gb450 hg w11 hbox hb; have n0_ := Aside0.mk (bS3 HB.out hb); have n1_ := Aside0.mk (hbox); have n2_ := Aside0.mk ((bZ3 hg HB.out)); have n3_ := Aside0.mk ((bZ3 hg HB.out)); clear HB; have HB := n0_; have BK450 := n1_; have GW450 := n2_; have GE450 := n3_; clear n0_ n1_ n2_ n3_; clear hb hbox hg; obtain ⟨hcz12_0, hcz12_1, hcz12_2, hfz12_0, hfz12_1, hfz12_2⟩ := cl3 BK450.out))
        go_ret2
        exact ⟨eR3, bR3 HB.out⟩
      · replace c9 := Bool.eq_false_iff.mpr c9
        subst c9
        rw [if_neg (show ¬ (false = true) by decide)] at H
        simp only [Option.some.injEq, Prod.mk.injEq] at H
        obtain ⟨rfl, rfl⟩ := H
        go_enter Try.func14, Try.ntmps14
        go_wp2_with (first | ((with_reducible refine gC (f := 29) rfl ?_); (with_reducible refine gD (N := 14) rfl ?_); refine goesY_ (some 14) Try.func29 #[.int .i64 a0, .int .u64 a1, .int .i64 a2] ?_; (with_reducible refine (ints_told.calls k a0 a1 a2 false false t448 none _ A4.out).mono ?_); rintro e w13 ⟨rfl, hb⟩; refine ⟨_, rfl, ?_⟩; have n0_ := Aside0.mk (bS3 HB.out hb); clear HB; have HB := n0_; clear n0_; (try clear hb); (try clear hb2); (try clear hk); (try clear hi); (try simp only [errW_none, errW_some])) | ((with_reducible refine gD (N := 8) rfl ?_); refine bE3 8 #[.bool false, .bool false, .int .u64 0] 57 ?hr ?_; (case hr => first | (go_simp; done) | (go_simp; rfl)); intro gb450 hg w14 hbox hb; have n0_ := Aside0.mk (bS3 HB.out hb); have n1_ := Aside0.mk (hbox); have n2_ := Aside0.mk ((bZ3 hg HB.out)); have n3_ := Aside0.mk ((bZ3 hg HB.out)); clear HB; have HB := n0_; have BK450 := n1_; have GW450 := n2_; have GE450 := n3_; clear n0_ n1_ n2_ n3_; clear hb hbox hg; obtain ⟨hcz15_0, hcz15_1, hcz15_2, hfz15_0, hfz15_1, hfz15_2⟩ := cl3 BK450.out))
        go_ret2
        exact ⟨eR3, bR3 HB.out⟩
  · rw [if_neg (show ¬ (some q451).isNone = true by simp)] at H
    try simp only [Option.getD_some] at H
    try simp only [errW_none, errW_some]
    simp only [Option.some.injEq, Prod.mk.injEq] at H
    obtain ⟨rfl, rfl⟩ := H
    go_enter Try.func14, Try.ntmps14
    go_wp2_with (first | ((with_reducible refine gC (f := 29) rfl ?_); (with_reducible refine gD (N := 14) rfl ?_); refine goesY_ (some 14) Try.func29 #[.int .i64 a0, .int .u64 a1, .int .i64 a2] ?_; (with_reducible refine (ints_told.calls k a0 a1 a2 t446 t447 t448 (some q451) _ A4.out).mono ?_); rintro e w16 ⟨rfl, hb⟩; refine ⟨_, rfl, ?_⟩; have n0_ := Aside0.mk (bS3 HB.out hb); clear HB; have HB := n0_; clear n0_; (try clear hb); (try clear hb2); (try clear hk); (try clear hi); (try simp only [errW_none, errW_some])) | ((with_reducible refine gD (N := 8) rfl ?_); refine bE3 8 #[.bool false, .bool false, .int .u64 0] 57 ?hr ?_; (case hr => first | (go_simp; done) | (go_simp; rfl)); intro gb450 hg w17 hbox hb; have n0_ := Aside0.mk (bS3 HB.out hb); have n1_ := Aside0.mk (hbox); have n2_ := Aside0.mk ((bZ3 hg HB.out)); have n3_ := Aside0.mk ((bZ3 hg HB.out)); clear HB; have HB := n0_; have BK450 := n1_; have GW450 := n2_; have GE450 := n3_; clear n0_ n1_ n2_ n3_; clear hb hbox hg; obtain ⟨hcz18_0, hcz18_1, hcz18_2, hfz18_0, hfz18_1, hfz18_2⟩ := cl3 BK450.out))
    go_ret2
    exact ⟨eR3, bR3 HB.out⟩
end Go.Proofs.Ytlllaoihpkdpmaa.F
