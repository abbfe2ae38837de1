/- Functions of the given program as plain Lean functions, and for each a proof that the program's call comes to just these answers; no further conditions. (Written by a program of this repo out of the translation.) -/
import Derived.Test.YtogldofffdiflaaF0b
namespace Go.Proofs.Ytogldofffdiflaa.F
open Go.RowKit Go.Proofs.YtogldofffdiflaaW.PrintWords Go.Proofs.YtogldofffdiflaaW.PrintLast Go.Proofs.YtogldofffdiflaaW.PrintMore
attribute [local go_sem high] xor_u64 xor_u32 eqErr25 neErr25 eqErrL25 neErrL25
attribute [local go_sem] max2_int min2_int max_two min_two max_three min_three max_four min_four   -- for this text's walks alone
set_option linter.unusedVariables false
set_option linter.unusedSimpArgs false
def vernierref05_Is.f (a0 : Int) : Option (Bool) := if a0 = 8 then (some true) else (if a0 = 16 then (some true) else (if a0 = 32 then (some true) else (some (a0 == 64))))
set_option maxHeartbeats 8000000 in
set_option maxRecDepth 100000 in
theorem vernierref05_Is.calls (a0 : Int) (r : Bool) (w : World) (h : vernierref05_Is.f a0 = some r) :
  Calls Try.prog 19 #[.int .i64 a0] w fun e w' => e = .returned (.bool r) ∧ Drawn0 w w' := by
 have H : (if a0 = 8 then (some true) else (if a0 = 16 then (some true) else (if a0 = 32 then (some true) else (some (a0 == 64))))) = some r := h
 clear h
 by_cases c2 : a0 = 8
 ·
  rw [if_pos c2] at H
  have c2b0 : (a0 == 8) = true := beq_iff_eq.mpr c2
  have c2b1 : (a0 != 8) = false := bne_eq_false_iff_eq.mpr c2
  clear c2
  obtain rfl := Option.some.inj H
  go_enter Try.func19, Try.ntmps19
  go_wp2
  go_ret
  exact ⟨by first | rfl | (simp; done) | (simp [*]; done), by repeat (first | exact Drawn0.refl _ | apply Drawn0.step)⟩
 ·
  rw [if_neg c2] at H
  have c2b0 : (a0 == 8) = false := beq_eq_false_iff_ne.mpr c2
  have c2b1 : (a0 != 8) = true := bne_iff_ne.mpr c2
  by_cases c3 : a0 = 16
  ·
   rw [if_pos c3] at H
   have c3b0 : (a0 == 16) = true := beq_iff_eq.mpr c3
   have c3b1 : (a0 != 16) = false := bne_eq_false_iff_eq.mpr c3
   clear c3
   obtain rfl := Option.some.inj H
   go_enter Try.func19, Try.ntmps19
   go_wp2
   go_ret
   exact ⟨by first | rfl | (simp; done) | (simp [*]; done), by repeat (first | exact Drawn0.refl _ | apply Drawn0.step)⟩
  ·
   rw [if_neg c3] at H
   have c3b0 : (a0 == 16) = false := beq_eq_false_iff_ne.mpr c3
   have c3b1 : (a0 != 16) = true := bne_iff_ne.mpr c3
   by_cases c4 : a0 = 32
   ·
    rw [if_pos c4] at H
    have c4b0 : (a0 == 32) = true := beq_iff_eq.mpr c4
    have c4b1 : (a0 != 32) = false := bne_eq_false_iff_eq.mpr c4
    clear c4
    obtain rfl := Option.some.inj H
    go_enter Try.func19, Try.ntmps19
    go_wp2
    go_ret
    exact ⟨by first | rfl | (simp; done) | (simp [*]; done), by repeat (first | exact Drawn0.refl _ | apply Drawn0.step)⟩
   ·
    rw [if_neg c4] at H
    have c4b0 : (a0 == 32) = false := beq_eq_false_iff_ne.mpr c4
    have c4b1 : (a0 != 32) = true := bne_iff_ne.mpr c4
    obtain rfl := Option.some.inj H
    go_enter Try.func19, Try.ntmps19
    go_wp2
    go_ret
    exact ⟨by first | rfl | (simp; done) | (simp [*]; done), by repeat (first | exact Drawn0.refl _ | apply Drawn0.step)⟩
def vernierref05_Power.l0 : Nat → Int → Int → Int → Option (Int)
 | 0, _, _, _ => none
 | k + 1, x0, x3, x4 => if x4 < x0 then (vernierref05_Power.l0 k x0 (IntKind.u64.wrap (2 * x3)) (wrap64 (x4 + 1))) else (some x3)
def vernierref05_Power.f (k : Nat) (a0 : Int) : Option (Int) := vernierref05_Power.l0 k a0 1 0
set_option maxHeartbeats 8000000 in
set_option maxRecDepth 100000 in
theorem vernierref05_Power.calls (k : Nat) (a0 : Int) (r : Int) (w : World) (h : vernierref05_Power.f k a0 = some r) :
  Calls Try.prog 20 #[.int .i64 a0] w fun e w' => e = .returned (.int .u64 r) ∧ Drawn0 w w' := by
 have H : (vernierref05_Power.l0 k a0 1 0) = some r := h
 clear h
 have H' := Aside0.mk H
 clear H
 go_enter Try.func20, Try.ntmps20
 go_wp2
 go_loopg [3, 4] k (fun kq v3 v4 w' => ∃ (x3_1 : Int) (x4_1 : Int), v3 = .int .u64 x3_1 ∧ v4 = .int .i64 x4_1 ∧ Aside0 (vernierref05_Power.l0 kq a0 x3_1 x4_1 = some r) ∧ Aside0 (kq ≤ k) ∧ Drawn0 w w')
 case atStart => exact ⟨(1), (0), (by first | rfl | (simp; done) | (simp [*]; done)), (by first | rfl | (simp; done) | (simp [*]; done)), H', ⟨Nat.le_refl _⟩, by repeat (first | exact Drawn0.refl _ | apply Drawn0.step)⟩
 case round =>
  clear H'
  obtain ⟨x3_1, x4_1, rfl, rfl, HA, HK1, ⟨m1, rfl⟩⟩ := hrel
  cases gk with
  | zero => exact absurd HA.out (by simp [vernierref05_Power.l0])
  | succ k1 =>
   have H := HA.out
   clear HA
   simp only [vernierref05_Power.l0] at H
   by_cases c2 : x4_1 < a0
   ·
    rw [if_pos c2] at H
    have c2b0 : decide (x4_1 < a0) = true := decide_eq_true c2
    clear c2
    have H' := Aside0.mk H
    clear H
    go_wp2
    go_roundg k1
    case measure => have := HK1.out; omega
    case rel => exact ⟨(IntKind.u64.wrap (2 * x3_1)), (wrap64 (x4_1 + 1)), (by first | rfl | (simp; done) | (simp [*]; done)), (by first | rfl | (simp; done) | (simp [*]; done)), H', ⟨by have := HK1.out; omega⟩, by repeat (first | exact Drawn0.refl _ | apply Drawn0.step)⟩
   ·
    rw [if_neg c2] at H
    have c2b0 : decide (x4_1 < a0) = false := decide_eq_false c2
    clear c2
    obtain rfl := Option.some.inj H
    go_wp2
    go_ret
    exact ⟨by first | rfl | (simp; done) | (simp [*]; done), by repeat (first | exact Drawn0.refl _ | apply Drawn0.step)⟩
def vernierref05_Of.f (k : Nat) (a0 : Int) : Option (Int × Int × Int × Int × Int × Int) := (vernierref05_Is.f a0).bind fun t151 => (if t151 = true then ((vernierref05_Power.f k (wrap64 (a0 - 1))).bind fun t152 => (some (a0, IntKind.u64.wrap (t152 - 1), 1, t152, wrap64 ((wrap64 (4 * a0)) - 8), 0))) else (some (0, 0, 0, 0, 0, 2)))
set_option maxHeartbeats 8000000 in
set_option maxRecDepth 100000 in
theorem vernierref05_Of.calls (k : Nat) (a0 : Int) (r1 : Int) (r2 : Int) (r3 : Int) (r4 : Int) (r5 : Int) (r6 : Int) (w : World) (h : vernierref05_Of.f k a0 = some (r1, r2, r3, r4, r5, r6)) :
  Calls Try.prog 11 #[.int .i64 a0] w fun e w' => e = .returned (.tuple #[.agg #[.int .i64 r1, .int .u64 r2, .int .u64 r3, .int .u64 r4, .int .i64 r5], .int .i64 r6]) ∧ Below w.heap.size w w' := by
 have hu33 := Try.underlying33
 have HB := Aside0.mk (Below.refl w.heap.size w)
 have H : ((vernierref05_Is.f a0).bind fun t151 => (if t151 = true then ((vernierref05_Power.f k (wrap64 (a0 - 1))).bind fun t152 => (some (a0, IntKind.u64.wrap (t152 - 1), 1, t152, wrap64 ((wrap64 (4 * a0)) - 8), 0))) else (some (0, 0, 0, 0, 0, 2)))) = some (r1, r2, r3, r4, r5, r6) := h
 clear h
 replace H := Option.bind_eq_some_iff.mp H
 obtain ⟨t151, A20, H⟩ := H
 try dsimp -simprocs only at H
 have A2 := Aside0.mk A20
 clear A20
 by_cases c3 : t151 = true
 ·
  subst c3
  rw [if_pos rfl] at H
  replace H := Option.bind_eq_some_iff.mp H
  obtain ⟨t152, A40, H⟩ := H
  try dsimp -simprocs only at H
  have A4 := Aside0.mk A40
  clear A40
  simp only [Option.some.injEq, Prod.mk.injEq] at H
  obtain ⟨rfl, rfl, rfl, rfl, rfl, rfl⟩ := H
  go_enter Try.func11, Try.ntmps11
  go_wp2_with (first | ((with_reducible refine gD (N := 2) rfl ?_); refine bE3 2 #[.int .i64 0, .int .u64 0, .int .u64 0, .int .u64 0, .int .i64 0] 33 ?hr ?_; (case hr => first | (go_simp; done) | (go_simp; rfl)); intro gb150 hg w5 hbox hb; have BK150 := Aside0.mk (hbox); have GW150 := Aside0.mk ((bZ3 hg HB.out)); have GE150 := Aside0.mk ((bZ3 hg HB.out)); replace HB := Aside0.mk (bS3 HB.out hb); clear hb hbox hg) | ((with_reducible refine gX_ 19 7 rfl rfl ?_); refine goesY_ (some 7) Try.func19 #[.int .i64 a0] ?_; (with_reducible refine (vernierref05_Is.calls a0 true _ A2.out).mono ?_); rintro e w' ⟨rfl, ⟨nd, rfl⟩⟩; refine ⟨_, rfl, ?_⟩; (try (rw [drewN_self w5]; generalize hq_ : World.drewN w5 _ = w5; have n0_ : Aside0 (w5.heap[gb150]? = some (.cells #[.int .i64 0, .int .u64 0, .int .u64 0, .int .u64 0, .int .i64 0] 33 (0, 0))) := ⟨by rw [← hq_]; exact (bK3 BK150.out)⟩; have n1_ : Aside0 (Below w.heap.size w w5) := ⟨by rw [← hq_]; exact (bR3 HB.out)⟩; clear BK150 HB hq_; have BK150 := n0_; have HB := n1_; clear n0_ n1_))) | ((with_reducible refine gX_ 20 13 rfl rfl ?_); refine goesY_ (some 13) Try.func20 #[.int .i64 (wrap64 (a0 - 1))] ?_; (with_reducible refine (vernierref05_Power.calls k (wrap64 (a0 - 1)) t152 _ A4.out).mono ?_); rintro e w' ⟨rfl, ⟨nd, rfl⟩⟩; refine ⟨_, rfl, ?_⟩; (try (rw [drewN_self w5]; generalize hq_ : World.drewN w5 _ = w5; have n0_ : Aside0 (w5.heap[gb150]? = some (.cells #[.int .i64 0, .int .u64 0, .int .u64 0, .int .u64 0, .int .i64 0] 33 (0, 0))) := ⟨by rw [← hq_]; exact (bK3 BK150.out)⟩; have n1_ : Aside0 (Below w.heap.size w w5) := ⟨by rw [← hq_]; exact (bR3 HB.out)⟩; clear BK150 HB hq_; have BK150 := n0_; have HB := n1_; clear n0_ n1_)); obtain ⟨hcz6_0, hcz6_1, hcz6_2, hcz6_3, hcz6_4, hfz6_0, hfz6_1, hfz6_2, hfz6_3, hfz6_4⟩ := cl5 BK150.out))
  refine bodyPost_ret (results_ct rfl _ _ gb150 33 #[.int .i64 a0, .int .u64 (IntKind.u64.wrap (t152 - 1)), .int .u64 1, .int .u64 t152, .int .i64 (wrap64 ((wrap64 (4 * a0)) - 8))] (0, 0) _ rfl (bQ3 BK150.out) Try.underlying33 rfl (by kernel_rfl)) rfl ?_
  exact ⟨eR3, bR3 HB.out⟩
 ·
  replace c3 := Bool.eq_false_iff.mpr c3
  subst c3
  rw [if_neg (show ¬ (false = true) by decide)] at H
  simp only [Option.some.injEq, Prod.mk.injEq] at H
  obtain ⟨rfl, rfl, rfl, rfl, rfl, rfl⟩ := H
  go_enter Try.func11, Try.ntmps11
  go_wp2_with (first | ((with_reducible refine gD (N := 2) rfl ?_); refine bE3 2 #[.int .i64 0, .int .u64 0, .int .u64 0, .int .u64 0, .int .i64 0] 33 ?hr ?_; (case hr => first | (go_simp; done) | (go_simp; rfl)); intro gb150 hg w7 hbox hb; have BK150 := Aside0.mk (hbox); have GW150 := Aside0.mk ((bZ3 hg HB.out)); have GE150 := Aside0.mk ((bZ3 hg HB.out)); replace HB := Aside0.mk (bS3 HB.out hb); clear hb hbox hg) | ((with_reducible refine gX_ 19 7 rfl rfl ?_); refine goesY_ (some 7) Try.func19 #[.int .i64 a0] ?_; (with_reducible refine (vernierref05_Is.calls a0 false _ A2.out).mono ?_); rintro e w' ⟨rfl, ⟨nd, rfl⟩⟩; refine ⟨_, rfl, ?_⟩; (try (rw [drewN_self w7]; generalize hq_ : World.drewN w7 _ = w7; have n0_ : Aside0 (w7.heap[gb150]? = some (.cells #[.int .i64 0, .int .u64 0, .int .u64 0, .int .u64 0, .int .i64 0] 33 (0, 0))) := ⟨by rw [← hq_]; exact (bK3 BK150.out)⟩; have n1_ : Aside0 (Below w.heap.size w w7) := ⟨by rw [← hq_]; exact (bR3 HB.out)⟩; clear BK150 HB hq_; have BK150 := n0_; have HB := n1_; clear n0_ n1_)); obtain ⟨hcz8_0, hcz8_1, hcz8_2, hcz8_3, hcz8_4, hfz8_0, hfz8_1, hfz8_2, hfz8_3, hfz8_4⟩ := cl5 BK150.out))
  refine bodyPost_ret (results_ct rfl _ _ gb150 33 #[.int .i64 0, .int .u64 0, .int .u64 0, .int .u64 0, .int .i64 0] (0, 0) _ rfl (bQ3 BK150.out) Try.underlying33 rfl (by kernel_rfl)) rfl ?_
  exact ⟨eR3, bR3 HB.out⟩
end Go.Proofs.Ytogldofffdiflaa.F
