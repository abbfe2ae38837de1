/- Printed functions and their walks; no further conditions. -/
import Derived.Test.YtjlaijaadclghaaF0Q
import Derived.Test.YtjlaijaadclghaaF14Q
namespace Go.Proofs.Ytjlaijaadclghaa.F
open RowKit YtjlaijaadclghaaW PrintWords PrintLast PrintMore
attribute [local go_sem high] xor_u64 xor_u32
attribute [local go_sem] max2_int min2_int max_two min_two max_three min_three max_four min_four
set_option linter.all false
def vernierref05_Is.f (a0 : Int) : Option (Bool) := if a0 = 8 then (some true) else (if a0 = 16 then (some true) else (if a0 = 32 then (some true) else (some (a0 == 64))))
set_option maxHeartbeats 8000000 in
set_option maxRecDepth 100000 in
theorem vernierref05_Is.calls (a0 : Int) (r : Bool) (w : World) (h : vernierref05_Is.f a0 = some r) :
  Calls Try.prog 5 #[.int .i64 a0] w fun e w' => e = .returned (.bool r) ∧ Drawn0 w w' := by
 have H : (if a0 = 8 then (some true) else (if a0 = 16 then (some true) else (if a0 = 32 then (some true) else (some (a0 == 64))))) = some r := h
 clear h
 by_cases c2 : a0 = 8
 ·
  rw [if_pos c2] at H
  have c2b0 : (a0 == 8) = true := beq_iff_eq.mpr c2
  have c2b1 : (a0 != 8) = false := bne_eq_false_iff_eq.mpr c2
  clear c2
  obtain rfl := Option.some.inj H
  go_enter Try.func5, Try.ntmps5
  go_wp2
  go_ret
  exact ⟨by first | rfl | (simp; done) | (simp [*]; done), by repeat (first | exact Drawn0.refl _ | apply Drawn0.step)⟩
 ·
  rw [if_neg c2] at H
  have c2b0 : (a0 == 8) = false := beq_eq_false_iff_ne.mpr c2
  have c2b1 : (a0 != 8) = true := bne_iff_ne.mpr c2
  by_cases c3 : a0 = 16
  ·
   rw [if_pos c3] at H
   have c3b0 : (a0 == 16) = true := beq_iff_eq.mpr c3
   have c3b1 : (a0 != 16) = false := bne_eq_false_iff_eq.mpr c3
   clear c3
   obtain rfl := Option.some.inj H
   go_enter Try.func5, Try.ntmps5
   go_wp2
   go_ret
   exact ⟨by first | rfl | (simp; done) | (simp [*]; done), by repeat (first | exact Drawn0.refl _ | apply Drawn0.step)⟩
  ·
   rw [if_neg c3] at H
   have c3b0 : (a0 == 16) = false := beq_eq_false_iff_ne.mpr c3
   have c3b1 : (a0 != 16) = true := bne_iff_ne.mpr c3
   by_cases c4 : a0 = 32
   ·
    rw [if_pos c4] at H
    have c4b0 : (a0 == 32) = true := beq_iff_eq.mpr c4
    have c4b1 : (a0 != 32) = false := bne_eq_false_iff_eq.mpr c4
    clear c4
    obtain rfl := Option.some.inj H
    go_enter Try.func5, Try.ntmps5
    go_wp2
    go_ret
    exact ⟨by first | rfl | (simp; done) | (simp [*]; done), by repeat (first | exact Drawn0.refl _ | apply Drawn0.step)⟩
   ·
    rw [if_neg c4] at H
    have c4b0 : (a0 == 32) = false := beq_eq_false_iff_ne.mpr c4
    have c4b1 : (a0 != 32) = true := bne_iff_ne.mpr c4
    obtain rfl := Option.some.inj H
    go_enter Try.func5, Try.ntmps5
    go_wp2
    go_ret
    exact ⟨by first | rfl | (simp; done) | (simp [*]; done), by repeat (first | exact Drawn0.refl _ | apply Drawn0.step)⟩
def vernierref05_Power.l0 : Nat → Int → Int → Int → Option (Int)
 | 0, _, _, _ => none
 | k + 1, x0, x3, x4 => if x4 < x0 then (vernierref05_Power.l0 k x0 (IntKind.u64.wrap (2 * x3)) (wrap64 (x4 + 1))) else (some x3)
def vernierref05_Power.f (k : Nat) (a0 : Int) : Option (Int) := vernierref05_Power.l0 k a0 1 0
set_option maxHeartbeats 8000000 in
set_option maxRecDepth 100000 in
theorem vernierref05_Power.calls (k : Nat) (a0 : Int) (r : Int) (w : World) (h : vernierref05_Power.f k a0 = some r) :
  Calls Try.prog 11 #[.int .i64 a0] w fun e w' => e = .returned (.int .u64 r) ∧ Drawn0 w w' := by
 have H : (vernierref05_Power.l0 k a0 1 0) = some r := h
 clear h
 have H' := Aside0.mk H
 clear H
 go_enter Try.func11, Try.ntmps11
 go_wp2
 go_loopg [3, 4] k (fun kq v3 v4 w' => ∃ (x3_1 : Int) (x4_1 : Int), v3 = .int .u64 x3_1 ∧ v4 = .int .i64 x4_1 ∧ Aside0 (vernierref05_Power.l0 kq a0 x3_1 x4_1 = some r) ∧ Aside0 (kq ≤ k) ∧ Drawn0 w w')
 case atStart => exact ⟨(1), (0), (by first | rfl | (simp; done) | (simp [*]; done)), (by first | rfl | (simp; done) | (simp [*]; done)), H', ⟨Nat.le_refl _⟩, by repeat (first | exact Drawn0.refl _ | apply Drawn0.step)⟩
 case round =>
  clear H'
  try clear c1
  obtain ⟨x3_1, x4_1, rfl, rfl, HA, HK1, ⟨m1, rfl⟩⟩ := hrel
  cases gk with
  | zero => exact absurd HA.out (by simp [vernierref05_Power.l0])
  | succ k1 =>
   have H := HA.out
   clear HA
   simp only [vernierref05_Power.l0] at H
   by_cases c2 : x4_1 < a0
   ·
    rw [if_pos c2] at H
    have c2b0 : decide (x4_1 < a0) = true := decide_eq_true c2
    clear c2
    have H' := Aside0.mk H
    clear H
    go_wp2
    go_roundg k1
    case measure => have := HK1.out; omega
    case rel => exact ⟨(IntKind.u64.wrap (2 * x3_1)), (wrap64 (x4_1 + 1)), (by first | rfl | (simp; done) | (simp [*]; done)), (by first | rfl | (simp; done) | (simp [*]; done)), H', ⟨by have := HK1.out; omega⟩, by repeat (first | exact Drawn0.refl _ | apply Drawn0.step)⟩
   ·
    rw [if_neg c2] at H
    have c2b0 : decide (x4_1 < a0) = false := decide_eq_false c2
    clear c2
    obtain rfl := Option.some.inj H
    go_wp2
    go_ret
    exact ⟨by first | rfl | (simp; done) | (simp [*]; done), by repeat (first | exact Drawn0.refl _ | apply Drawn0.step)⟩
def vernierref05_Fold.f (k : Nat) (a0 : Int) (a1 : Int) : Option (Int × Int) := (vernierref05_Is.f a0).bind fun t254 => (if t254 = true then ((vernierref01_Text.f k a1 a0).bind fun t255 => ((vernierref01_Number.f k t255).bind fun t256 => (some (t256, 0)))) else (some (0, 2)))
set_option maxHeartbeats 8000000 in
set_option maxRecDepth 100000 in
theorem vernierref05_Fold.calls (k : Nat) (a0 : Int) (a1 : Int) (r1 : Int) (r2 : Int) (w : World) (h : vernierref05_Fold.f k a0 a1 = some (r1, r2)) :
  Calls Try.prog 55 #[.int .i64 a0, .int .u64 a1] w fun e w' => e = .returned (.tuple #[.int .u64 r1, .int .i64 r2]) ∧ Below w.heap.size w w' := by
 have HB := Aside0.mk (Below.refl w.heap.size w)
 have H : ((vernierref05_Is.f a0).bind fun t254 => (if t254 = true then ((vernierref01_Text.f k a1 a0).bind fun t255 => ((vernierref01_Number.f k t255).bind fun t256 => (some (t256, 0)))) else (some (0, 2)))) = some (r1, r2) := h
 clear h
 replace H := Option.bind_eq_some_iff.mp H
 obtain ⟨t254, A30, H⟩ := H
 try dsimp -simprocs only at H
 have A3 := Aside0.mk A30
 clear A30
 by_cases c4 : t254 = true
 ·
  subst c4
  rw [if_pos rfl] at H
  replace H := Option.bind_eq_some_iff.mp H
  obtain ⟨t255, A50, H⟩ := H
  try dsimp -simprocs only at H
  have A5 := Aside0.mk A50
  clear A50
  replace H := Option.bind_eq_some_iff.mp H
  obtain ⟨t256, A60, H⟩ := H
  try dsimp -simprocs only at H
  have A6 := Aside0.mk A60
  clear A60
  simp only [Option.some.injEq, Prod.mk.injEq] at H
  obtain ⟨rfl, rfl⟩ := H
  go_enter Try.func55, Try.ntmps55
  go_wp2_with (first | ((with_reducible refine gX_ 5 8 rfl rfl ?_); refine goesY_ (some 8) Try.func5 #[.int .i64 a0] ?_; (with_reducible refine (vernierref05_Is.calls a0 true _ A3.out).mono ?_); rintro e w' ⟨rfl, ⟨nd, rfl⟩⟩; refine ⟨_, rfl, ?_⟩) | ((with_reducible refine gX_ 39 13 rfl rfl ?_); refine goesY_ (some 13) Try.func39 #[.int .u64 a1, .int .i64 a0] ?_; (with_reducible refine (vernierref01_Text.calls k a1 a0 t255 _ A5.out).mono ?_); rintro e w7 ⟨rfl, hb⟩; refine ⟨_, rfl, ?_⟩; replace HB := Aside0.mk (bS3 HB.out hb); (try clear hb); (try clear hk)) | ((with_reducible refine gX_ 40 14 rfl rfl ?_); refine goesY_ (some 14) Try.func40 #[.string t255] ?_; (with_reducible refine (vernierref01_Number.calls k t255 t256 _ A6.out).mono ?_); rintro e w' ⟨rfl, ⟨nd, rfl⟩⟩; refine ⟨_, rfl, ?_⟩))
  go_ret2
  exact ⟨eR3, bR3 HB.out⟩
 ·
  replace c4 := Bool.eq_false_iff.mpr c4
  subst c4
  rw [if_neg (show ¬ (false = true) by decide)] at H
  simp only [Option.some.injEq, Prod.mk.injEq] at H
  obtain ⟨rfl, rfl⟩ := H
  go_enter Try.func55, Try.ntmps55
  go_wp2_with (first | ((with_reducible refine gX_ 5 8 rfl rfl ?_); refine goesY_ (some 8) Try.func5 #[.int .i64 a0] ?_; (with_reducible refine (vernierref05_Is.calls a0 false _ A3.out).mono ?_); rintro e w' ⟨rfl, ⟨nd, rfl⟩⟩; refine ⟨_, rfl, ?_⟩))
  go_ret2
  exact ⟨eR3, bR3 HB.out⟩
def vernierref05_Kind.f (k : Nat) (a0 : Int) (a1 : Int) : Option (Int × Int) := (vernierref05_Fold.f k a0 a1).bind fun bt257 => (if bt257.2 = 0 then (if bt257.1 = 0 then (some (0, 0)) else ((vernierref05_Power.f k (wrap64 (a0 - 1))).bind fun t259 => (if bt257.1 = t259 then (some (2, 0)) else (some (1, 0))))) else (some (0, bt257.2)))
set_option maxHeartbeats 8000000 in
set_option maxRecDepth 100000 in
theorem vernierref05_Kind.calls (k : Nat) (a0 : Int) (a1 : Int) (r1 : Int) (r2 : Int) (w : World) (h : vernierref05_Kind.f k a0 a1 = some (r1, r2)) :
  Calls Try.prog 37 #[.int .i64 a0, .int .u64 a1] w fun e w' => e = .returned (.tuple #[.int .i64 r1, .int .i64 r2]) ∧ Below w.heap.size w w' := by
 have HB := Aside0.mk (Below.refl w.heap.size w)
 have H : ((vernierref05_Fold.f k a0 a1).bind fun bt257 => (if bt257.2 = 0 then (if bt257.1 = 0 then (some (0, 0)) else ((vernierref05_Power.f k (wrap64 (a0 - 1))).bind fun t259 => (if bt257.1 = t259 then (some (2, 0)) else (some (1, 0))))) else (some (0, bt257.2)))) = some (r1, r2) := h
 clear h
 replace H := Option.bind_eq_some_iff.mp H
 obtain ⟨⟨t257, t258⟩, A30, H⟩ := H
 try dsimp -simprocs only at H
 have A3 := Aside0.mk A30
 clear A30
 by_cases c4 : t258 = 0
 ·
  rw [if_pos c4] at H
  have c4b0 : (t258 == 0) = true := beq_iff_eq.mpr c4
  have c4b1 : (t258 != 0) = false := bne_eq_false_iff_eq.mpr c4
  clear c4
  by_cases c5 : t257 = 0
  ·
   rw [if_pos c5] at H
   have c5b0 : (t257 == 0) = true := beq_iff_eq.mpr c5
   have c5b1 : (t257 != 0) = false := bne_eq_false_iff_eq.mpr c5
   clear c5
   simp only [Option.some.injEq, Prod.mk.injEq] at H
   obtain ⟨rfl, rfl⟩ := H
   go_enter Try.func37, Try.ntmps37
   go_wp2_with (first | ((with_reducible refine gX_ 55 11 rfl rfl ?_); refine goesY_ (some 11) Try.func55 #[.int .i64 a0, .int .u64 a1] ?_; (with_reducible refine (vernierref05_Fold.calls k a0 a1 t257 t258 _ A3.out).mono ?_); rintro e w6 ⟨rfl, hb⟩; refine ⟨_, rfl, ?_⟩; replace HB := Aside0.mk (bS3 HB.out hb); (try clear hb); (try clear hk)))
   go_ret2
   exact ⟨eR3, bR3 HB.out⟩
  ·
   rw [if_neg c5] at H
   have c5b0 : (t257 == 0) = false := beq_eq_false_iff_ne.mpr c5
   have c5b1 : (t257 != 0) = true := bne_iff_ne.mpr c5
   replace H := Option.bind_eq_some_iff.mp H
   obtain ⟨t259, A70, H⟩ := H
   try dsimp -simprocs only at H
   have A7 := Aside0.mk A70
   clear A70
   by_cases c8 : t257 = t259
   ·
    rw [if_pos c8] at H
    have c8b0 : (t257 == t259) = true := beq_iff_eq.mpr c8
    have c8b1 : (t257 != t259) = false := bne_eq_false_iff_eq.mpr c8
    clear c8
    simp only [Option.some.injEq, Prod.mk.injEq] at H
    obtain ⟨rfl, rfl⟩ := H
    go_enter Try.func37, Try.ntmps37
    go_wp2_with (first | ((with_reducible refine gX_ 55 11 rfl rfl ?_); refine goesY_ (some 11) Try.func55 #[.int .i64 a0, .int .u64 a1] ?_; (with_reducible refine (vernierref05_Fold.calls k a0 a1 t257 t258 _ A3.out).mono ?_); rintro e w9 ⟨rfl, hb⟩; refine ⟨_, rfl, ?_⟩; replace HB := Aside0.mk (bS3 HB.out hb); (try clear hb); (try clear hk)) | ((with_reducible refine gX_ 11 23 rfl rfl ?_); refine goesY_ (some 23) Try.func11 #[.int .i64 (wrap64 (a0 - 1))] ?_; (with_reducible refine (vernierref05_Power.calls k (wrap64 (a0 - 1)) t259 _ A7.out).mono ?_); rintro e w' ⟨rfl, ⟨nd, rfl⟩⟩; refine ⟨_, rfl, ?_⟩))
    go_ret2
    exact ⟨eR3, bR3 HB.out⟩
   ·
    rw [if_neg c8] at H
    have c8b0 : (t257 == t259) = false := beq_eq_false_iff_ne.mpr c8
    have c8b1 : (t257 != t259) = true := bne_iff_ne.mpr c8
    simp only [Option.some.injEq, Prod.mk.injEq] at H
    obtain ⟨rfl, rfl⟩ := H
    go_enter Try.func37, Try.ntmps37
    go_wp2_with (first | ((with_reducible refine gX_ 55 11 rfl rfl ?_); refine goesY_ (some 11) Try.func55 #[.int .i64 a0, .int .u64 a1] ?_; (with_reducible refine (vernierref05_Fold.calls k a0 a1 t257 t258 _ A3.out).mono ?_); rintro e w10 ⟨rfl, hb⟩; refine ⟨_, rfl, ?_⟩; replace HB := Aside0.mk (bS3 HB.out hb); (try clear hb); (try clear hk)) | ((with_reducible refine gX_ 11 23 rfl rfl ?_); refine goesY_ (some 23) Try.func11 #[.int .i64 (wrap64 (a0 - 1))] ?_; (with_reducible refine (vernierref05_Power.calls k (wrap64 (a0 - 1)) t259 _ A7.out).mono ?_); rintro e w' ⟨rfl, ⟨nd, rfl⟩⟩; refine ⟨_, rfl, ?_⟩))
    go_ret2
    exact ⟨eR3, bR3 HB.out⟩
 ·
  rw [if_neg c4] at H
  have c4b0 : (t258 == 0) = false := beq_eq_false_iff_ne.mpr c4
  have c4b1 : (t258 != 0) = true := bne_iff_ne.mpr c4
  simp only [Option.some.injEq, Prod.mk.injEq] at H
  obtain ⟨rfl, rfl⟩ := H
  go_enter Try.func37, Try.ntmps37
  go_wp2_with (first | ((with_reducible refine gX_ 55 11 rfl rfl ?_); refine goesY_ (some 11) Try.func55 #[.int .i64 a0, .int .u64 a1] ?_; (with_reducible refine (vernierref05_Fold.calls k a0 a1 t257 t258 _ A3.out).mono ?_); rintro e w11 ⟨rfl, hb⟩; refine ⟨_, rfl, ?_⟩; replace HB := Aside0.mk (bS3 HB.out hb); (try clear hb); (try clear hk)))
  go_ret2
  exact ⟨eR3, bR3 HB.out⟩
end Go.Proofs.Ytjlaijaadclghaa.F
