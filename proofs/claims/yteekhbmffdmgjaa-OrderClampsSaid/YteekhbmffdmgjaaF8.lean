/- Functions of the given program as plain Lean functions, and for each a proof that the program's call comes to just these answers; no further conditions. (Written by a program of this repo out of the translation.) -/
import Derived.Test.YteekhbmffdmgjaaF0
import Derived.Test.YteekhbmffdmgjaaF9
namespace Go.Proofs.Yteekhbmffdmgjaa.F
open Go.RowKit Go.Proofs.YteekhbmffdmgjaaW.PrintWords Go.Proofs.YteekhbmffdmgjaaW.PrintLast Go.Proofs.YteekhbmffdmgjaaW.PrintMore
attribute [local go_sem high] xor_u64 xor_u32 eqErr25 neErr25 eqErrL25 neErrL25
attribute [local go_sem] max2_int min2_int max_two min_two max_three min_three max_four min_four   -- for this text's walks alone
set_option linter.unusedVariables false
set_option linter.unusedSimpArgs false

/-! ### vernierref05_Is: function 21 -/
def vernierref05_Is.f (a0 : Int) : Option (Bool) := if a0 = 8 then (some true) else (if a0 = 16 then (some true) else (if a0 = 32 then (some true) else (some (a0 == 64))))
set_option maxHeartbeats 8000000 in
set_option maxRecDepth 100000 in
theorem vernierref05_Is.calls (a0 : Int) (r : Bool) (w : World) (h : vernierref05_Is.f a0 = some r) :
    Calls Try.prog 21 #[.int .i64 a0] w fun e w' => e = .returned (.bool r) ∧ Drawn0 w w' := by
  have H : (if a0 = 8 then (some true) else (if a0 = 16 then (some true) else (if a0 = 32 then (some true) else (some (a0 == 64))))) = some r := h
  clear h
  by_cases c2 : a0 = 8
  · rw [if_pos c2] at H
    have c2b0 : (a0 == 8) = true := beq_iff_eq.mpr c2
    have c2b1 : (a0 != 8) = false := bne_eq_false_iff_eq.mpr c2
    clear c2
    obtain rfl := Option.some.inj H
    go_enter Try.func21, Try.ntmps21
    go_wp2
    go_ret
    exact ⟨by first | rfl | (simp; done) | (simp [*]; done), by repeat (first | exact Drawn0.refl _ | apply Drawn0.step)⟩
  · rw [if_neg c2] at H
    have c2b0 : (a0 == 8) = false := beq_eq_false_iff_ne.mpr c2
    have c2b1 : (a0 != 8) = true := bne_iff_ne.mpr c2
    by_cases c3 : a0 = 16
    · rw [if_pos c3] at H
      have c3b0 : (a0 == 16) = true := beq_iff_eq.mpr c3
      have c3b1 : (a0 != 16) = false := bne_eq_false_iff_eq.mpr c3
      clear c3
      obtain rfl := Option.some.inj H
      go_enter Try.func21, Try.ntmps21
      go_wp2
      go_ret
      exact ⟨by first | rfl | (simp; done) | (simp [*]; done), by repeat (first | exact Drawn0.refl _ | apply Drawn0.step)⟩
    · rw [if_neg c3] at H
      have c3b0 : (a0 == 16) = false := beq_eq_false_iff_ne.mpr c3
      have c3b1 : (a0 != 16) = true := bne_iff_ne.mpr c3
      by_cases c4 : a0 = 32
      · rw [if_pos c4] at H
        have c4b0 : (a0 == 32) = true := beq_iff_eq.mpr c4
        have c4b1 : (a0 != 32) = false := bne_eq_false_iff_eq.mpr c4
        clear c4
        obtain rfl := Option.some.inj H
        go_enter Try.func21, Try.ntmps21
        go_wp2
        go_ret
        exact ⟨by first | rfl | (simp; done) | (simp [*]; done), by repeat (first | exact Drawn0.refl _ | apply Drawn0.step)⟩
      · rw [if_neg c4] at H
        have c4b0 : (a0 == 32) = false := beq_eq_false_iff_ne.mpr c4
        have c4b1 : (a0 != 32) = true := bne_iff_ne.mpr c4
        obtain rfl := Option.some.inj H
        go_enter Try.func21, Try.ntmps21
        go_wp2
        go_ret
        exact ⟨by first | rfl | (simp; done) | (simp [*]; done), by repeat (first | exact Drawn0.refl _ | apply Drawn0.step)⟩

/-! ### vernierref05_Rank: function 57 -/
def vernierref05_Rank.f (k : Nat) (a0 : Int) (a1 : Int) : Option (Int × Int) := (vernierref05_Is.f a0).bind fun t146 => (if t146 = true then ((vernierref01_Extend.f k a1 a0).bind fun bt147 => (some (bt147.1, 0))) else (some (0, 2)))
theorem vernierref05_Rank.mono : ∀ a0 a1 k, LeO (vernierref05_Rank.f k a0 a1) (vernierref05_Rank.f (k + 1) a0 a1) := by
  intro a0 a1 k
  unfold vernierref05_Rank.f
  repeat' first
      | (with_reducible exact vernierref01_Extend.mono _ _ _)
      | (with_reducible exact LeO.refl _)
      | (with_reducible exact LeO.none _)
      | (with_reducible refine LeO.ite ?_ ?_)
      | (with_reducible refine LeO.bind ?_ (fun _ => ?_))
      | exact vernierref01_Extend.mono _ _ _
      | exact LeO.none _
      | refine LeO.ite ?_ ?_
      | refine LeO.bind ?_ (fun _ => ?_)
set_option maxHeartbeats 8000000 in
set_option maxRecDepth 100000 in
theorem vernierref05_Rank.calls (k : Nat) (a0 : Int) (a1 : Int) (r1 : Int) (r2 : Int) (w : World) (h : vernierref05_Rank.f k a0 a1 = some (r1, r2)) :
    Calls Try.prog 57 #[.int .i64 a0, .int .u64 a1] w fun e w' => e = .returned (.tuple #[.int .i64 r1, .int .i64 r2]) ∧ Below w.heap.size w w' := by
  have HB := Aside0.mk (Below.refl w.heap.size w)
  have H : ((vernierref05_Is.f a0).bind fun t146 => (if t146 = true then ((vernierref01_Extend.f k a1 a0).bind fun bt147 => (some (bt147.1, 0))) else (some (0, 2)))) = some (r1, r2) := h
  clear h
  replace H := Option.bind_eq_some_iff.mp H
  obtain ⟨t146, A30, H⟩ := H
  replace H : (if t146 = true then ((vernierref01_Extend.f k a1 a0).bind fun bt147 => (some (bt147.1, 0))) else (some (0, 2))) = some (r1, r2) := H
  have A3 := Aside0.mk A30
  clear A30
  by_cases c4 : t146 = true
  · subst c4
    have H1 : ((vernierref01_Extend.f k a1 a0).bind fun bt147 => (some (bt147.1, 0))) = some (r1, r2) := by rw [if_pos rfl] at H; exact H
    clear H
    have H := H1
    clear H1
    replace H := Option.bind_eq_some_iff.mp H
    obtain ⟨⟨t147, t148⟩, A50, H⟩ := H
    replace H : (some (t147, 0)) = some (r1, r2) := H
    have A5 := Aside0.mk A50
    clear A50
    simp only [Option.some.injEq, Prod.mk.injEq] at H
    obtain ⟨rfl, rfl⟩ := H
    go_enter Try.func57, Try.ntmps57
    go_wp2_with (first | ((with_reducible refine gC (f := 21) rfl ?_); refine goesY_ (some 10) Try.func21 #[.int .i64 a0] ?_; (with_reducible refine (vernierref05_Is.calls a0 true _ A3.out).mono ?_); rintro e w' ⟨rfl, ⟨nd, rfl⟩⟩; refine ⟨_, rfl, ?_⟩) | ((with_reducible refine gC (f := 90) rfl ?_); refine goesY_ (some 16) Try.func90 #[.int .u64 a1, .int .i64 a0] ?_; (with_reducible refine (vernierref01_Extend.calls k a1 a0 t147 t148 _ A5.out).mono ?_); rintro e w6 ⟨rfl, hb⟩; refine ⟨_, rfl, ?_⟩; have n0_ := Aside0.mk (bS3 HB.out hb); clear HB; have HB := n0_; clear n0_; (try clear hb); (try clear hb2); (try clear hk); (try clear hi)))
    go_ret2
    exact ⟨by first | rfl | (simp [errW_none, errW_some] <;> rfl) | (simp [*, errW_none, errW_some] <;> rfl), by repeat (first | (with_reducible first | exact HB.out | apply pA | apply pN | apply p1) | exact HB.out)⟩
  · replace c4 := Bool.eq_false_iff.mpr c4
    subst c4
    have H1 : (some (0, 2)) = some (r1, r2) := by rw [if_neg (show ¬ (false = true) by decide)] at H; exact H
    clear H
    have H := H1
    clear H1
    simp only [Option.some.injEq, Prod.mk.injEq] at H
    obtain ⟨rfl, rfl⟩ := H
    go_enter Try.func57, Try.ntmps57
    go_wp2_with (first | ((with_reducible refine gC (f := 21) rfl ?_); refine goesY_ (some 10) Try.func21 #[.int .i64 a0] ?_; (with_reducible refine (vernierref05_Is.calls a0 false _ A3.out).mono ?_); rintro e w' ⟨rfl, ⟨nd, rfl⟩⟩; refine ⟨_, rfl, ?_⟩))
    go_ret2
    exact ⟨by first | rfl | (simp [errW_none, errW_some] <;> rfl) | (simp [*, errW_none, errW_some] <;> rfl), by repeat (first | (with_reducible first | exact HB.out | apply pA | apply pN | apply p1) | exact HB.out)⟩

/-! ### vernierref05_Power: function 96 -/
def vernierref05_Power.l0 : Nat → Int → Int → Int → Option (Int)
  | 0, _, _, _ => none
  | k + 1, x0, x3, x4 => if x4 < x0 then (vernierref05_Power.l0 k x0 (IntKind.u64.wrap (2 * x3)) (wrap64 (x4 + 1))) else (some x3)
def vernierref05_Power.f (k : Nat) (a0 : Int) : Option (Int) := vernierref05_Power.l0 k a0 1 0
theorem vernierref05_Power.mono_l : ∀ k, (∀ y0 y1 y2, LeO (vernierref05_Power.l0 k y0 y1 y2) (vernierref05_Power.l0 (k + 1) y0 y1 y2))
  | 0 => fun _ _ _ r h => by simp [vernierref05_Power.l0] at h
  | k + 1 => by
    have ih0 := vernierref05_Power.mono_l k
    · intro y0 y1 y2
      unfold vernierref05_Power.l0
      repeat' first
      | (with_reducible exact ih0 _ _ _)
      | (with_reducible exact LeO.refl _)
      | (with_reducible exact LeO.none _)
      | (with_reducible refine LeO.ite ?_ ?_)
      | (with_reducible refine LeO.bind ?_ (fun _ => ?_))
      | exact ih0 _ _ _
      | exact LeO.none _
      | refine LeO.ite ?_ ?_
      | refine LeO.bind ?_ (fun _ => ?_)
theorem vernierref05_Power.mono : ∀ a0 k, LeO (vernierref05_Power.f k a0) (vernierref05_Power.f (k + 1) a0) := by
  intro a0 k
  have ih0 := vernierref05_Power.mono_l k
  unfold vernierref05_Power.f
  repeat' first
      | (with_reducible exact ih0 _ _ _)
      | (with_reducible exact LeO.refl _)
      | (with_reducible exact LeO.none _)
      | (with_reducible refine LeO.ite ?_ ?_)
      | (with_reducible refine LeO.bind ?_ (fun _ => ?_))
      | exact ih0 _ _ _
      | exact LeO.none _
      | refine LeO.ite ?_ ?_
      | refine LeO.bind ?_ (fun _ => ?_)
set_option maxHeartbeats 8000000 in
set_option maxRecDepth 100000 in
theorem vernierref05_Power.calls (k : Nat) (a0 : Int) (r : Int) (w : World) (h : vernierref05_Power.f k a0 = some r) :
    Calls Try.prog 96 #[.int .i64 a0] w fun e w' => e = .returned (.int .u64 r) ∧ Drawn0 w w' := by
  have H : (vernierref05_Power.l0 k a0 1 0) = some r := h
  clear h
  have H' := Aside0.mk H
  clear H
  go_enter Try.func96, Try.ntmps96
  go_wp2
  go_loopg [3, 4] k (fun kq v3 v4 w' => ∃ (x3_1 : Int) (x4_1 : Int), v3 = .int .u64 x3_1 ∧ v4 = .int .i64 x4_1 ∧ Aside0 (vernierref05_Power.l0 kq a0 x3_1 x4_1 = some r) ∧ Aside0 (kq ≤ k) ∧ Drawn0 w w')
  case atStart => exact ⟨(1), (0), (by first | rfl | (simp; done) | (simp [*]; done)), (by first | rfl | (simp; done) | (simp [*]; done)), H', ⟨Nat.le_refl _⟩, by repeat (first | exact Drawn0.refl _ | apply Drawn0.step)⟩
  case round =>
    clear H'
    obtain ⟨x3_1, x4_1, rfl, rfl, HA, HK1, ⟨m1, rfl⟩⟩ := hrel
    cases gk with
    | zero => exact absurd HA.out (by simp [vernierref05_Power.l0])
    | succ k1 =>
      have H := HA.out
      clear HA
      simp only [vernierref05_Power.l0] at H
      by_cases c2 : x4_1 < a0
      · rw [if_pos c2] at H
        have c2b0 : decide (x4_1 < a0) = true := decide_eq_true c2
        clear c2
        have H' := Aside0.mk H
        clear H
        go_wp2
        go_roundg k1
        case measure => have := HK1.out; omega
        case rel => exact ⟨(IntKind.u64.wrap (2 * x3_1)), (wrap64 (x4_1 + 1)), (by first | rfl | (simp; done) | (simp [*]; done)), (by first | rfl | (simp; done) | (simp [*]; done)), H', ⟨by have := HK1.out; omega⟩, by repeat (first | exact Drawn0.refl _ | apply Drawn0.step)⟩
      · rw [if_neg c2] at H
        have c2b0 : decide (x4_1 < a0) = false := decide_eq_false c2
        clear c2
        obtain rfl := Option.some.inj H
        go_wp2
        go_ret
        exact ⟨by first | rfl | (simp; done) | (simp [*]; done), by repeat (first | exact Drawn0.refl _ | apply Drawn0.step)⟩

/-! ### vernierref05_Fold: function 97 -/
def vernierref05_Fold.f (k : Nat) (a0 : Int) (a1 : Int) : Option (Int × Int) := (vernierref05_Is.f a0).bind fun t162 => (if t162 = true then ((vernierref01_Text.f k a1 a0).bind fun t163 => ((vernierref01_Number.f k t163).bind fun t164 => (some (t164, 0)))) else (some (0, 2)))
theorem vernierref05_Fold.mono : ∀ a0 a1 k, LeO (vernierref05_Fold.f k a0 a1) (vernierref05_Fold.f (k + 1) a0 a1) := by
  intro a0 a1 k
  unfold vernierref05_Fold.f
  repeat' first
      | (with_reducible exact vernierref01_Number.mono _ _)
      | (with_reducible exact vernierref01_Text.mono _ _ _)
      | (with_reducible exact LeO.refl _)
      | (with_reducible exact LeO.none _)
      | (with_reducible refine LeO.ite ?_ ?_)
      | (with_reducible refine LeO.bind ?_ (fun _ => ?_))
      | exact vernierref01_Number.mono _ _
      | exact vernierref01_Text.mono _ _ _
      | exact LeO.none _
      | refine LeO.ite ?_ ?_
      | refine LeO.bind ?_ (fun _ => ?_)
set_option maxHeartbeats 8000000 in
set_option maxRecDepth 100000 in
theorem vernierref05_Fold.calls (k : Nat) (a0 : Int) (a1 : Int) (r1 : Int) (r2 : Int) (w : World) (h : vernierref05_Fold.f k a0 a1 = some (r1, r2)) :
    Calls Try.prog 97 #[.int .i64 a0, .int .u64 a1] w fun e w' => e = .returned (.tuple #[.int .u64 r1, .int .i64 r2]) ∧ Below w.heap.size w w' := by
  have HB := Aside0.mk (Below.refl w.heap.size w)
  have H : ((vernierref05_Is.f a0).bind fun t162 => (if t162 = true then ((vernierref01_Text.f k a1 a0).bind fun t163 => ((vernierref01_Number.f k t163).bind fun t164 => (some (t164, 0)))) else (some (0, 2)))) = some (r1, r2) := h
  clear h
  replace H := Option.bind_eq_some_iff.mp H
  obtain ⟨t162, A30, H⟩ := H
  replace H : (if t162 = true then ((vernierref01_Text.f k a1 a0).bind fun t163 => ((vernierref01_Number.f k t163).bind fun t164 => (some (t164, 0)))) else (some (0, 2))) = some (r1, r2) := H
  have A3 := Aside0.mk A30
  clear A30
  by_cases c4 : t162 = true
  · subst c4
    have H1 : ((vernierref01_Text.f k a1 a0).bind fun t163 => ((vernierref01_Number.f k t163).bind fun t164 => (some (t164, 0)))) = some (r1, r2) := by rw [if_pos rfl] at H; exact H
    clear H
    have H := H1
    clear H1
    replace H := Option.bind_eq_some_iff.mp H
    obtain ⟨t163, A50, H⟩ := H
    replace H : ((vernierref01_Number.f k t163).bind fun t164 => (some (t164, 0))) = some (r1, r2) := H
    have A5 := Aside0.mk A50
    clear A50
    replace H := Option.bind_eq_some_iff.mp H
    obtain ⟨t164, A60, H⟩ := H
    replace H : (some (t164, 0)) = some (r1, r2) := H
    have A6 := Aside0.mk A60
    clear A60
    simp only [Option.some.injEq, Prod.mk.injEq] at H
    obtain ⟨rfl, rfl⟩ := H
    go_enter Try.func97, Try.ntmps97
    go_wp2_with (first | ((with_reducible refine gC (f := 21) rfl ?_); refine goesY_ (some 8) Try.func21 #[.int .i64 a0] ?_; (with_reducible refine (vernierref05_Is.calls a0 true _ A3.out).mono ?_); rintro e w' ⟨rfl, ⟨nd, rfl⟩⟩; refine ⟨_, rfl, ?_⟩) | ((with_reducible refine gC (f := 93) rfl ?_); refine goesY_ (some 13) Try.func93 #[.int .u64 a1, .int .i64 a0] ?_; (with_reducible refine (vernierref01_Text.calls k a1 a0 t163 _ A5.out).mono ?_); rintro e w7 ⟨rfl, hb⟩; refine ⟨_, rfl, ?_⟩; have n0_ := Aside0.mk (bS3 HB.out hb); clear HB; have HB := n0_; clear n0_; (try clear hb); (try clear hb2); (try clear hk); (try clear hi)) | ((with_reducible refine gC (f := 94) rfl ?_); refine goesY_ (some 14) Try.func94 #[.string t163] ?_; (with_reducible refine (vernierref01_Number.calls k t163 t164 _ A6.out).mono ?_); rintro e w' ⟨rfl, ⟨nd, rfl⟩⟩; refine ⟨_, rfl, ?_⟩))
    go_ret2
    exact ⟨by first | rfl | (simp [errW_none, errW_some] <;> rfl) | (simp [*, errW_none, errW_some] <;> rfl), by repeat (first | (with_reducible first | exact HB.out | apply pA | apply pN | apply p1) | exact HB.out)⟩
  · replace c4 := Bool.eq_false_iff.mpr c4
    subst c4
    have H1 : (some (0, 2)) = some (r1, r2) := by rw [if_neg (show ¬ (false = true) by decide)] at H; exact H
    clear H
    have H := H1
    clear H1
    simp only [Option.some.injEq, Prod.mk.injEq] at H
    obtain ⟨rfl, rfl⟩ := H
    go_enter Try.func97, Try.ntmps97
    go_wp2_with (first | ((with_reducible refine gC (f := 21) rfl ?_); refine goesY_ (some 8) Try.func21 #[.int .i64 a0] ?_; (with_reducible refine (vernierref05_Is.calls a0 false _ A3.out).mono ?_); rintro e w' ⟨rfl, ⟨nd, rfl⟩⟩; refine ⟨_, rfl, ?_⟩))
    go_ret2
    exact ⟨by first | rfl | (simp [errW_none, errW_some] <;> rfl) | (simp [*, errW_none, errW_some] <;> rfl), by repeat (first | (with_reducible first | exact HB.out | apply pA | apply pN | apply p1) | exact HB.out)⟩

/-! ### vernierref05_Kind: function 91 -/
def vernierref05_Kind.f (k : Nat) (a0 : Int) (a1 : Int) : Option (Int × Int) := (vernierref05_Fold.f k a0 a1).bind fun bt165 => (if bt165.2 = 0 then (if bt165.1 = 0 then (some (0, 0)) else ((vernierref05_Power.f k (wrap64 (a0 - 1))).bind fun t167 => (if bt165.1 = t167 then (some (2, 0)) else (some (1, 0))))) else (some (0, bt165.2)))
theorem vernierref05_Kind.mono : ∀ a0 a1 k, LeO (vernierref05_Kind.f k a0 a1) (vernierref05_Kind.f (k + 1) a0 a1) := by
  intro a0 a1 k
  unfold vernierref05_Kind.f
  repeat' first
      | (with_reducible exact vernierref05_Fold.mono _ _ _)
      | (with_reducible exact vernierref05_Power.mono _ _)
      | (with_reducible exact LeO.refl _)
      | (with_reducible exact LeO.none _)
      | (with_reducible refine LeO.ite ?_ ?_)
      | (with_reducible refine LeO.bind ?_ (fun _ => ?_))
      | exact vernierref05_Fold.mono _ _ _
      | exact vernierref05_Power.mono _ _
      | exact LeO.none _
      | refine LeO.ite ?_ ?_
      | refine LeO.bind ?_ (fun _ => ?_)
set_option maxHeartbeats 8000000 in
set_option maxRecDepth 100000 in
theorem vernierref05_Kind.calls (k : Nat) (a0 : Int) (a1 : Int) (r1 : Int) (r2 : Int) (w : World) (h : vernierref05_Kind.f k a0 a1 = some (r1, r2)) :
    Calls Try.prog 91 #[.int .i64 a0, .int .u64 a1] w fun e w' => e = .returned (.tuple #[.int .i64 r1, .int .i64 r2]) ∧ Below w.heap.size w w' := by
  have HB := Aside0.mk (Below.refl w.heap.size w)
  have H : ((vernierref05_Fold.f k a0 a1).bind fun bt165 => (if bt165.2 = 0 then (if bt165.1 = 0 then (some (0, 0)) else ((vernierref05_Power.f k (wrap64 (a0 - 1))).bind fun t167 => (if bt165.1 = t167 then (some (2, 0)) else (some (1, 0))))) else (some (0, bt165.2)))) = some (r1, r2) := h
  clear h
  replace H := Option.bind_eq_some_iff.mp H
  obtain ⟨⟨t165, t166⟩, A30, H⟩ := H
  replace H : (if t166 = 0 then (if t165 = 0 then (some (0, 0)) else ((vernierref05_Power.f k (wrap64 (a0 - 1))).bind fun t167 => (if t165 = t167 then (some (2, 0)) else (some (1, 0))))) else (some (0, t166))) = some (r1, r2) := H
  have A3 := Aside0.mk A30
  clear A30
  by_cases c4 : t166 = 0
  · rw [if_pos c4] at H
    have c4b0 : (t166 == 0) = true := beq_iff_eq.mpr c4
    have c4b1 : (t166 != 0) = false := bne_eq_false_iff_eq.mpr c4
    clear c4
    by_cases c5 : t165 = 0
    · rw [if_pos c5] at H
      have c5b0 : (t165 == 0) = true := beq_iff_eq.mpr c5
      have c5b1 : (t165 != 0) = false := bne_eq_false_iff_eq.mpr c5
      clear c5
      simp only [Option.some.injEq, Prod.mk.injEq] at H
      obtain ⟨rfl, rfl⟩ := H
      go_enter Try.func91, Try.ntmps91
      go_wp2_with (first | ((with_reducible refine gC (f := 97) rfl ?_); refine goesY_ (some 11) Try.func97 #[.int .i64 a0, .int .u64 a1] ?_; (with_reducible refine (vernierref05_Fold.calls k a0 a1 t165 t166 _ A3.out).mono ?_); rintro e w6 ⟨rfl, hb⟩; refine ⟨_, rfl, ?_⟩; have n0_ := Aside0.mk (bS3 HB.out hb); clear HB; have HB := n0_; clear n0_; (try clear hb); (try clear hb2); (try clear hk); (try clear hi)))
      go_ret2
      exact ⟨by first | rfl | (simp [errW_none, errW_some] <;> rfl) | (simp [*, errW_none, errW_some] <;> rfl), by repeat (first | (with_reducible first | exact HB.out | apply pA | apply pN | apply p1) | exact HB.out)⟩
    · rw [if_neg c5] at H
      have c5b0 : (t165 == 0) = false := beq_eq_false_iff_ne.mpr c5
      have c5b1 : (t165 != 0) = true := bne_iff_ne.mpr c5
      replace H := Option.bind_eq_some_iff.mp H
      obtain ⟨t167, A70, H⟩ := H
      replace H : (if t165 = t167 then (some (2, 0)) else (some (1, 0))) = some (r1, r2) := H
      have A7 := Aside0.mk A70
      clear A70
      by_cases c8 : t165 = t167
      · rw [if_pos c8] at H
        have c8b0 : (t165 == t167) = true := beq_iff_eq.mpr c8
        have c8b1 : (t165 != t167) = false := bne_eq_false_iff_eq.mpr c8
        clear c8
        simp only [Option.some.injEq, Prod.mk.injEq] at H
        obtain ⟨rfl, rfl⟩ := H
        go_enter Try.func91, Try.ntmps91
        go_wp2_with (first | ((with_reducible refine gC (f := 97) rfl ?_); refine goesY_ (some 11) Try.func97 #[.int .i64 a0, .int .u64 a1] ?_; (with_reducible refine (vernierref05_Fold.calls k a0 a1 t165 t166 _ A3.out).mono ?_); rintro e w9 ⟨rfl, hb⟩; refine ⟨_, rfl, ?_⟩; have n0_ := Aside0.mk (bS3 HB.out hb); clear HB; have HB := n0_; clear n0_; (try clear hb); (try clear hb2); (try clear hk); (try clear hi)) | ((with_reducible refine gC (f := 96) rfl ?_); refine goesY_ (some 23) Try.func96 #[.int .i64 (wrap64 (a0 - 1))] ?_; (with_reducible refine (vernierref05_Power.calls k (wrap64 (a0 - 1)) t167 _ A7.out).mono ?_); rintro e w' ⟨rfl, ⟨nd, rfl⟩⟩; refine ⟨_, rfl, ?_⟩))
        go_ret2
        exact ⟨by first | rfl | (simp [errW_none, errW_some] <;> rfl) | (simp [*, errW_none, errW_some] <;> rfl), by repeat (first | (with_reducible first | exact HB.out | apply pA | apply pN | apply p1) | exact HB.out)⟩
      · rw [if_neg c8] at H
        have c8b0 : (t165 == t167) = false := beq_eq_false_iff_ne.mpr c8
        have c8b1 : (t165 != t167) = true := bne_iff_ne.mpr c8
        simp only [Option.some.injEq, Prod.mk.injEq] at H
        obtain ⟨rfl, rfl⟩ := H
        go_enter Try.func91, Try.ntmps91
        go_wp2_with (first | ((with_reducible refine gC (f := 97) rfl ?_); refine goesY_ (some 11) Try.func97 #[.int .i64 a0, .int .u64 a1] ?_; (with_reducible refine (vernierref05_Fold.calls k a0 a1 t165 t166 _ A3.out).mono ?_); rintro e w10 ⟨rfl, hb⟩; refine ⟨_, rfl, ?_⟩; have n0_ := Aside0.mk (bS3 HB.out hb); clear HB; have HB := n0_; clear n0_; (try clear hb); (try clear hb2); (try clear hk); (try clear hi)) | ((with_reducible refine gC (f := 96) rfl ?_); refine goesY_ (some 23) Try.func96 #[.int .i64 (wrap64 (a0 - 1))] ?_; (with_reducible refine (vernierref05_Power.calls k (wrap64 (a0 - 1)) t167 _ A7.out).mono ?_); rintro e w' ⟨rfl, ⟨nd, rfl⟩⟩; refine ⟨_, rfl, ?_⟩))
        go_ret2
        exact ⟨by first | rfl | (simp [errW_none, errW_some] <;> rfl) | (simp [*, errW_none, errW_some] <;> rfl), by repeat (first | (with_reducible first | exact HB.out | apply pA | apply pN | apply p1) | exact HB.out)⟩
  · rw [if_neg c4] at H
    have c4b0 : (t166 == 0) = false := beq_eq_false_iff_ne.mpr c4
    have c4b1 : (t166 != 0) = true := bne_iff_ne.mpr c4
    simp only [Option.some.injEq, Prod.mk.injEq] at H
    obtain ⟨rfl, rfl⟩ := H
    go_enter Try.func91, Try.ntmps91
    go_wp2_with (first | ((with_reducible refine gC (f := 97) rfl ?_); refine goesY_ (some 11) Try.func97 #[.int .i64 a0, .int .u64 a1] ?_; (with_reducible refine (vernierref05_Fold.calls k a0 a1 t165 t166 _ A3.out).mono ?_); rintro e w11 ⟨rfl, hb⟩; refine ⟨_, rfl, ?_⟩; have n0_ := Aside0.mk (bS3 HB.out hb); clear HB; have HB := n0_; clear n0_; (try clear hb); (try clear hb2); (try clear hk); (try clear hi)))
    go_ret2
    exact ⟨by first | rfl | (simp [errW_none, errW_some] <;> rfl) | (simp [*, errW_none, errW_some] <;> rfl), by repeat (first | (with_reducible first | exact HB.out | apply pA | apply pN | apply p1) | exact HB.out)⟩

/-! ### vernierref05_Of: function 64 -/
def vernierref05_Of.f (k : Nat) (a0 : Int) : Option (Int × Int × Int × Int × Int × Int) := (vernierref05_Is.f a0).bind fun t272 => (if t272 = true then ((vernierref05_Power.f k (wrap64 (a0 - 1))).bind fun t273 => (some (a0, IntKind.u64.wrap (t273 - 1), 1, t273, wrap64 ((wrap64 (4 * a0)) - 8), 0))) else (some (0, 0, 0, 0, 0, 2)))
theorem vernierref05_Of.mono : ∀ a0 k, LeO (vernierref05_Of.f k a0) (vernierref05_Of.f (k + 1) a0) := by
  intro a0 k
  unfold vernierref05_Of.f
  repeat' first
      | (with_reducible exact vernierref05_Power.mono _ _)
      | (with_reducible exact LeO.refl _)
      | (with_reducible exact LeO.none _)
      | (with_reducible refine LeO.ite ?_ ?_)
      | (with_reducible refine LeO.bind ?_ (fun _ => ?_))
      | exact vernierref05_Power.mono _ _
      | exact LeO.none _
      | refine LeO.ite ?_ ?_
      | refine LeO.bind ?_ (fun _ => ?_)
set_option maxHeartbeats 8000000 in
set_option maxRecDepth 100000 in
theorem vernierref05_Of.calls (k : Nat) (a0 : Int) (r1 : Int) (r2 : Int) (r3 : Int) (r4 : Int) (r5 : Int) (r6 : Int) (w : World) (h : vernierref05_Of.f k a0 = some (r1, r2, r3, r4, r5, r6)) :
    Calls Try.prog 64 #[.int .i64 a0] w fun e w' => e = .returned (.tuple #[.agg #[.int .i64 r1, .int .u64 r2, .int .u64 r3, .int .u64 r4, .int .i64 r5], .int .i64 r6]) ∧ Below w.heap.size w w' := by
  have hu88 := Try.underlying88
  have HB := Aside0.mk (Below.refl w.heap.size w)
  have H : ((vernierref05_Is.f a0).bind fun t272 => (if t272 = true then ((vernierref05_Power.f k (wrap64 (a0 - 1))).bind fun t273 => (some (a0, IntKind.u64.wrap (t273 - 1), 1, t273, wrap64 ((wrap64 (4 * a0)) - 8), 0))) else (some (0, 0, 0, 0, 0, 2)))) = some (r1, r2, r3, r4, r5, r6) := h
  clear h
  replace H := Option.bind_eq_some_iff.mp H
  obtain ⟨t272, A20, H⟩ := H
  replace H : (if t272 = true then ((vernierref05_Power.f k (wrap64 (a0 - 1))).bind fun t273 => (some (a0, IntKind.u64.wrap (t273 - 1), 1, t273, wrap64 ((wrap64 (4 * a0)) - 8), 0))) else (some (0, 0, 0, 0, 0, 2))) = some (r1, r2, r3, r4, r5, r6) := H
  have A2 := Aside0.mk A20
  clear A20
  by_cases c3 : t272 = true
  · subst c3
    have H1 : ((vernierref05_Power.f k (wrap64 (a0 - 1))).bind fun t273 => (some (a0, IntKind.u64.wrap (t273 - 1), 1, t273, wrap64 ((wrap64 (4 * a0)) - 8), 0))) = some (r1, r2, r3, r4, r5, r6) := by rw [if_pos rfl] at H; exact H
    clear H
    have H := H1
    clear H1
    replace H := Option.bind_eq_some_iff.mp H
    obtain ⟨t273, A40, H⟩ := H
    replace H : (some (a0, IntKind.u64.wrap (t273 - 1), 1, t273, wrap64 ((wrap64 (4 * a0)) - 8), 0)) = some (r1, r2, r3, r4, r5, r6) := H
    have A4 := Aside0.mk A40
    clear A40
    simp only [Option.some.injEq, Prod.mk.injEq] at H
    obtain ⟨rfl, rfl, rfl, rfl, rfl, rfl⟩ := H
    go_enter Try.func64, Try.ntmps64
    go_wp2_with (first | ((with_reducible refine gD (N := 2) rfl ?_); refine bE3 2 #[.int .i64 0, .int .u64 0, .int .u64 0, .int .u64 0, .int .i64 0] 88 ?hr ?_; (case hr => first | (go_simp; done) | (go_simp; rfl)); intro gb271 hg w5 hbox hb; have n0_ := Aside0.mk (bS3 HB.out hb); have n1_ := Aside0.mk (hbox); have n2_ := Aside0.mk ((bZ3 hg HB.out)); have n3_ := Aside0.mk ((bZ3 hg HB.out)); clear HB; have HB := n0_; have BK271 := n1_; have GW271 := n2_; have GE271 := n3_; clear n0_ n1_ n2_ n3_; clear hb hbox hg) | ((with_reducible refine gC (f := 21) rfl ?_); refine goesY_ (some 7) Try.func21 #[.int .i64 a0] ?_; (with_reducible refine (vernierref05_Is.calls a0 true _ A2.out).mono ?_); rintro e w' ⟨rfl, ⟨nd, rfl⟩⟩; refine ⟨_, rfl, ?_⟩; (try (rw [drewN_self w5]; generalize hq_ : World.drewN w5 _ = w5; have n0_ : Aside0 (w5.heap[gb271]? = some (.cells #[.int .i64 0, .int .u64 0, .int .u64 0, .int .u64 0, .int .i64 0] 88 (0, 0))) := ⟨by rw [← hq_]; exact (by (with_reducible repeat (first | refine bN ?_ _ | refine bD ?_ | refine bA ?_ _)); exact BK271.out)⟩; have n1_ : Aside0 (Below w.heap.size w w5) := ⟨by rw [← hq_]; exact (by repeat (first | (with_reducible first | exact HB.out | apply pA | apply pN | apply p1 | refine pS ?_ GE271.out) | exact HB.out))⟩; clear BK271 HB hq_; have BK271 := n0_; have HB := n1_; clear n0_ n1_))) | ((with_reducible refine gC (f := 96) rfl ?_); refine goesY_ (some 13) Try.func96 #[.int .i64 (wrap64 (a0 - 1))] ?_; (with_reducible refine (vernierref05_Power.calls k (wrap64 (a0 - 1)) t273 _ A4.out).mono ?_); rintro e w' ⟨rfl, ⟨nd, rfl⟩⟩; refine ⟨_, rfl, ?_⟩; (try (rw [drewN_self w5]; generalize hq_ : World.drewN w5 _ = w5; have n0_ : Aside0 (w5.heap[gb271]? = some (.cells #[.int .i64 0, .int .u64 0, .int .u64 0, .int .u64 0, .int .i64 0] 88 (0, 0))) := ⟨by rw [← hq_]; exact (by (with_reducible repeat (first | refine bN ?_ _ | refine bD ?_ | refine bA ?_ _)); exact BK271.out)⟩; have n1_ : Aside0 (Below w.heap.size w w5) := ⟨by rw [← hq_]; exact (by repeat (first | (with_reducible first | exact HB.out | apply pA | apply pN | apply p1 | refine pS ?_ GE271.out) | exact HB.out))⟩; clear BK271 HB hq_; have BK271 := n0_; have HB := n1_; clear n0_ n1_)); have hcz6_0 : w5.cell? ⟨gb271, 0, none⟩ = some (.int .i64 0) := (blk_cell BK271.out 0).trans rfl; have hcz6_1 : w5.cell? ⟨gb271, 1, none⟩ = some (.int .u64 0) := (blk_cell BK271.out 1).trans rfl; have hcz6_2 : w5.cell? ⟨gb271, 2, none⟩ = some (.int .u64 0) := (blk_cell BK271.out 2).trans rfl; have hcz6_3 : w5.cell? ⟨gb271, 3, none⟩ = some (.int .u64 0) := (blk_cell BK271.out 3).trans rfl; have hcz6_4 : w5.cell? ⟨gb271, 4, none⟩ = some (.int .i64 0) := (blk_cell BK271.out 4).trans rfl; have hfz6_0 := blk_frozen BK271.out 0; have hfz6_1 := blk_frozen BK271.out 1; have hfz6_2 := blk_frozen BK271.out 2; have hfz6_3 := blk_frozen BK271.out 3; have hfz6_4 := blk_frozen BK271.out 4))
    refine bodyPost_ret (results_ct rfl _ _ gb271 88 #[.int .i64 a0, .int .u64 (IntKind.u64.wrap (t273 - 1)), .int .u64 1, .int .u64 t273, .int .i64 (wrap64 ((wrap64 (4 * a0)) - 8))] (0, 0) _ rfl (by (with_reducible repeat (first | refine bN ?_ _ | refine bD ?_ | refine bA ?_ _)); refine blk_put (cs := #[.int .i64 a0, .int .u64 (IntKind.u64.wrap (t273 - 1)), .int .u64 1, .int .u64 t273, .int .i64 0]) ?_ 4 _ rfl; (with_reducible repeat (first | refine bN ?_ _ | refine bD ?_ | refine bA ?_ _)); refine blk_put (cs := #[.int .i64 a0, .int .u64 (IntKind.u64.wrap (t273 - 1)), .int .u64 1, .int .u64 0, .int .i64 0]) ?_ 3 _ rfl; (with_reducible repeat (first | refine bN ?_ _ | refine bD ?_ | refine bA ?_ _)); refine blk_put (cs := #[.int .i64 a0, .int .u64 (IntKind.u64.wrap (t273 - 1)), .int .u64 0, .int .u64 0, .int .i64 0]) ?_ 2 _ rfl; (with_reducible repeat (first | refine bN ?_ _ | refine bD ?_ | refine bA ?_ _)); refine blk_put (cs := #[.int .i64 a0, .int .u64 0, .int .u64 0, .int .u64 0, .int .i64 0]) ?_ 1 _ rfl; (with_reducible repeat (first | refine bN ?_ _ | refine bD ?_ | refine bA ?_ _)); refine blk_put (cs := #[.int .i64 0, .int .u64 0, .int .u64 0, .int .u64 0, .int .i64 0]) ?_ 0 _ rfl; (with_reducible repeat (first | refine bN ?_ _ | refine bD ?_ | refine bA ?_ _)); exact BK271.out) Try.underlying88 rfl (by kernel_rfl)) rfl ?_
    exact ⟨by first | rfl | (simp [errW_none, errW_some] <;> rfl) | (simp [*, errW_none, errW_some] <;> rfl), by repeat (first | (with_reducible first | exact HB.out | apply pA | apply pN | apply p1 | refine pS ?_ GE271.out) | exact HB.out)⟩
  · replace c3 := Bool.eq_false_iff.mpr c3
    subst c3
    have H1 : (some (0, 0, 0, 0, 0, 2)) = some (r1, r2, r3, r4, r5, r6) := by rw [if_neg (show ¬ (false = true) by decide)] at H; exact H
    clear H
    have H := H1
    clear H1
    simp only [Option.some.injEq, Prod.mk.injEq] at H
    obtain ⟨rfl, rfl, rfl, rfl, rfl, rfl⟩ := H
    go_enter Try.func64, Try.ntmps64
    go_wp2_with (first | ((with_reducible refine gD (N := 2) rfl ?_); refine bE3 2 #[.int .i64 0, .int .u64 0, .int .u64 0, .int .u64 0, .int .i64 0] 88 ?hr ?_; (case hr => first | (go_simp; done) | (go_simp; rfl)); intro gb271 hg w7 hbox hb; have n0_ := Aside0.mk (bS3 HB.out hb); have n1_ := Aside0.mk (hbox); have n2_ := Aside0.mk ((bZ3 hg HB.out)); have n3_ := Aside0.mk ((bZ3 hg HB.out)); clear HB; have HB := n0_; have BK271 := n1_; have GW271 := n2_; have GE271 := n3_; clear n0_ n1_ n2_ n3_; clear hb hbox hg) | ((with_reducible refine gC (f := 21) rfl ?_); refine goesY_ (some 7) Try.func21 #[.int .i64 a0] ?_; (with_reducible refine (vernierref05_Is.calls a0 false _ A2.out).mono ?_); rintro e w' ⟨rfl, ⟨nd, rfl⟩⟩; refine ⟨_, rfl, ?_⟩; (try (rw [drewN_self w7]; generalize hq_ : World.drewN w7 _ = w7; have n0_ : Aside0 (w7.heap[gb271]? = some (.cells #[.int .i64 0, .int .u64 0, .int .u64 0, .int .u64 0, .int .i64 0] 88 (0, 0))) := ⟨by rw [← hq_]; exact (by (with_reducible repeat (first | refine bN ?_ _ | refine bD ?_ | refine bA ?_ _)); exact BK271.out)⟩; have n1_ : Aside0 (Below w.heap.size w w7) := ⟨by rw [← hq_]; exact (by repeat (first | (with_reducible first | exact HB.out | apply pA | apply pN | apply p1 | refine pS ?_ GE271.out) | exact HB.out))⟩; clear BK271 HB hq_; have BK271 := n0_; have HB := n1_; clear n0_ n1_)); have hcz8_0 : w7.cell? ⟨gb271, 0, none⟩ = some (.int .i64 0) := (blk_cell BK271.out 0).trans rfl; have hcz8_1 : w7.cell? ⟨gb271, 1, none⟩ = some (.int .u64 0) := (blk_cell BK271.out 1).trans rfl; have hcz8_2 : w7.cell? ⟨gb271, 2, none⟩ = some (.int .u64 0) := (blk_cell BK271.out 2).trans rfl; have hcz8_3 : w7.cell? ⟨gb271, 3, none⟩ = some (.int .u64 0) := (blk_cell BK271.out 3).trans rfl; have hcz8_4 : w7.cell? ⟨gb271, 4, none⟩ = some (.int .i64 0) := (blk_cell BK271.out 4).trans rfl; have hfz8_0 := blk_frozen BK271.out 0; have hfz8_1 := blk_frozen BK271.out 1; have hfz8_2 := blk_frozen BK271.out 2; have hfz8_3 := blk_frozen BK271.out 3; have hfz8_4 := blk_frozen BK271.out 4))
    refine bodyPost_ret (results_ct rfl _ _ gb271 88 #[.int .i64 0, .int .u64 0, .int .u64 0, .int .u64 0, .int .i64 0] (0, 0) _ rfl (by (with_reducible repeat (first | refine bN ?_ _ | refine bD ?_ | refine bA ?_ _)); refine blk_put (cs := #[.int .i64 0, .int .u64 0, .int .u64 0, .int .u64 0, .int .i64 0]) ?_ 4 _ rfl; (with_reducible repeat (first | refine bN ?_ _ | refine bD ?_ | refine bA ?_ _)); refine blk_put (cs := #[.int .i64 0, .int .u64 0, .int .u64 0, .int .u64 0, .int .i64 0]) ?_ 3 _ rfl; (with_reducible repeat (first | refine bN ?_ _ | refine bD ?_ | refine bA ?_ _)); refine blk_put (cs := #[.int .i64 0, .int .u64 0, .int .u64 0, .int .u64 0, .int .i64 0]) ?_ 2 _ rfl; (with_reducible repeat (first | refine bN ?_ _ | refine bD ?_ | refine bA ?_ _)); refine blk_put (cs := #[.int .i64 0, .int .u64 0, .int .u64 0, .int .u64 0, .int .i64 0]) ?_ 1 _ rfl; (with_reducible repeat (first | refine bN ?_ _ | refine bD ?_ | refine bA ?_ _)); refine blk_put (cs := #[.int .i64 0, .int .u64 0, .int .u64 0, .int .u64 0, .int .i64 0]) ?_ 0 _ rfl; (with_reducible repeat (first | refine bN ?_ _ | refine bD ?_ | refine bA ?_ _)); exact BK271.out) Try.underlying88 rfl (by kernel_rfl)) rfl ?_
    exact ⟨by first | rfl | (simp [errW_none, errW_some] <;> rfl) | (simp [*, errW_none, errW_some] <;> rfl), by repeat (first | (with_reducible first | exact HB.out | apply pA | apply pN | apply p1 | refine pS ?_ GE271.out) | exact HB.out)⟩

end Go.Proofs.Yteekhbmffdmgjaa.F
