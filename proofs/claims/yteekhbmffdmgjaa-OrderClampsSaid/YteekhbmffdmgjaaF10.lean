/- Functions of the given program as plain Lean functions, and for each a proof that the program's call comes to just these answers; no further conditions. (Written by a program of this repo out of the translation.) -/
import Derived.Test.YteekhbmffdmgjaaF0
import Derived.Test.YteekhbmffdmgjaaF8
import Derived.Test.YteekhbmffdmgjaaF13
namespace Go.Proofs.Yteekhbmffdmgjaa.F
open Go.RowKit Go.Proofs.YteekhbmffdmgjaaW.PrintWords Go.Proofs.YteekhbmffdmgjaaW.PrintLast Go.Proofs.YteekhbmffdmgjaaW.PrintMore
attribute [local go_sem high] xor_u64 xor_u32 eqErr25 neErr25 eqErrL25 neErrL25
attribute [local go_sem] max2_int min2_int max_two min_two max_three min_three max_four min_four   -- for this text's walks alone
set_option linter.unusedVariables false
set_option linter.unusedSimpArgs false

/-! ### vernierref08_Cmps: function 19 -/
def vernierref08_Cmps.f (k : Nat) (a0 : Int) (a1 : Int) (a2 : Int) : Option (Int × Int) := (vernierref05_Rank.f k a0 a1).bind fun bt149 => ((vernierref05_Rank.f k a0 a2).bind fun bt151 => (if bt149.2 = 0 then (if bt149.1 < bt151.1 then (some ((-1), 0)) else (if bt149.1 > bt151.1 then (some (1, 0)) else (some (0, 0)))) else (some (0, bt149.2))))
theorem vernierref08_Cmps.mono : ∀ a0 a1 a2 k, LeO (vernierref08_Cmps.f k a0 a1 a2) (vernierref08_Cmps.f (k + 1) a0 a1 a2) := by
  intro a0 a1 a2 k
  unfold vernierref08_Cmps.f
  repeat' first
      | (with_reducible exact vernierref05_Rank.mono _ _ _)
      | (with_reducible exact LeO.refl _)
      | (with_reducible exact LeO.none _)
      | (with_reducible refine LeO.ite ?_ ?_)
      | (with_reducible refine LeO.bind ?_ (fun _ => ?_))
      | exact vernierref05_Rank.mono _ _ _
      | exact LeO.none _
      | refine LeO.ite ?_ ?_
      | refine LeO.bind ?_ (fun _ => ?_)
set_option maxHeartbeats 8000000 in
set_option maxRecDepth 100000 in
theorem vernierref08_Cmps.calls (k : Nat) (a0 : Int) (a1 : Int) (a2 : Int) (r1 : Int) (r2 : Int) (w : World) (h : vernierref08_Cmps.f k a0 a1 a2 = some (r1, r2)) :
    Calls Try.prog 19 #[.int .i64 a0, .int .u64 a1, .int .u64 a2] w fun e w' => e = .returned (.tuple #[.int .i64 r1, .int .i64 r2]) ∧ Below w.heap.size w w' := by
  have HB := Aside0.mk (Below.refl w.heap.size w)
  have H : ((vernierref05_Rank.f k a0 a1).bind fun bt149 => ((vernierref05_Rank.f k a0 a2).bind fun bt151 => (if bt149.2 = 0 then (if bt149.1 < bt151.1 then (some ((-1), 0)) else (if bt149.1 > bt151.1 then (some (1, 0)) else (some (0, 0)))) else (some (0, bt149.2))))) = some (r1, r2) := h
  clear h
  replace H := Option.bind_eq_some_iff.mp H
  obtain ⟨⟨t149, t150⟩, A40, H⟩ := H
  replace H : ((vernierref05_Rank.f k a0 a2).bind fun bt151 => (if t150 = 0 then (if t149 < bt151.1 then (some ((-1), 0)) else (if t149 > bt151.1 then (some (1, 0)) else (some (0, 0)))) else (some (0, t150)))) = some (r1, r2) := H
  have A4 := Aside0.mk A40
  clear A40
  replace H := Option.bind_eq_some_iff.mp H
  obtain ⟨⟨t151, t152⟩, A50, H⟩ := H
  replace H : (if t150 = 0 then (if t149 < t151 then (some ((-1), 0)) else (if t149 > t151 then (some (1, 0)) else (some (0, 0)))) else (some (0, t150))) = some (r1, r2) := H
  have A5 := Aside0.mk A50
  clear A50
  by_cases c6 : t150 = 0
  · rw [if_pos c6] at H
    have c6b0 : (t150 == 0) = true := beq_iff_eq.mpr c6
    have c6b1 : (t150 != 0) = false := bne_eq_false_iff_eq.mpr c6
    clear c6
    by_cases c7 : t149 < t151
    · rw [if_pos c7] at H
      have c7b0 : decide (t149 < t151) = true := decide_eq_true c7
      clear c7
      simp only [Option.some.injEq, Prod.mk.injEq] at H
      obtain ⟨rfl, rfl⟩ := H
      go_enter Try.func19, Try.ntmps19
      go_wp2_with (first | ((with_reducible refine gC (f := 57) rfl ?_); refine goesY_ (some 15) Try.func57 #[.int .i64 a0, .int .u64 a1] ?_; (with_reducible refine (vernierref05_Rank.calls k a0 a1 t149 t150 _ A4.out).mono ?_); rintro e w8 ⟨rfl, hb⟩; refine ⟨_, rfl, ?_⟩; have n0_ := Aside0.mk (bS3 HB.out hb); clear HB; have HB := n0_; clear n0_; (try clear hb); (try clear hb2); (try clear hk); (try clear hi)) | ((with_reducible refine gC (f := 57) rfl ?_); refine goesY_ (some 21) Try.func57 #[.int .i64 a0, .int .u64 a2] ?_; (with_reducible refine (vernierref05_Rank.calls k a0 a2 t151 t152 _ A5.out).mono ?_); rintro e w9 ⟨rfl, hb⟩; refine ⟨_, rfl, ?_⟩; have n0_ := Aside0.mk (bS3 HB.out hb); clear HB; have HB := n0_; clear n0_; (try clear hb); (try clear hb2); (try clear hk); (try clear hi)))
      go_ret2
      exact ⟨by first | rfl | (simp [errW_none, errW_some] <;> rfl) | (simp [*, errW_none, errW_some] <;> rfl), by repeat (first | (with_reducible first | exact HB.out | apply pA | apply pN | apply p1) | exact HB.out)⟩
    · rw [if_neg c7] at H
      have c7b0 : decide (t149 < t151) = false := decide_eq_false c7
      clear c7
      by_cases c10 : t149 > t151
      · rw [if_pos c10] at H
        have c10b0 : decide (t151 < t149) = true := decide_eq_true c10
        clear c10
        simp only [Option.some.injEq, Prod.mk.injEq] at H
        obtain ⟨rfl, rfl⟩ := H
        go_enter Try.func19, Try.ntmps19
        go_wp2_with (first | ((with_reducible refine gC (f := 57) rfl ?_); refine goesY_ (some 15) Try.func57 #[.int .i64 a0, .int .u64 a1] ?_; (with_reducible refine (vernierref05_Rank.calls k a0 a1 t149 t150 _ A4.out).mono ?_); rintro e w11 ⟨rfl, hb⟩; refine ⟨_, rfl, ?_⟩; have n0_ := Aside0.mk (bS3 HB.out hb); clear HB; have HB := n0_; clear n0_; (try clear hb); (try clear hb2); (try clear hk); (try clear hi)) | ((with_reducible refine gC (f := 57) rfl ?_); refine goesY_ (some 21) Try.func57 #[.int .i64 a0, .int .u64 a2] ?_; (with_reducible refine (vernierref05_Rank.calls k a0 a2 t151 t152 _ A5.out).mono ?_); rintro e w12 ⟨rfl, hb⟩; refine ⟨_, rfl, ?_⟩; have n0_ := Aside0.mk (bS3 HB.out hb); clear HB; have HB := n0_; clear n0_; (try clear hb); (try clear hb2); (try clear hk); (try clear hi)))
        go_ret2
        exact ⟨by first | rfl | (simp [errW_none, errW_some] <;> rfl) | (simp [*, errW_none, errW_some] <;> rfl), by repeat (first | (with_reducible first | exact HB.out | apply pA | apply pN | apply p1) | exact HB.out)⟩
      · rw [if_neg c10] at H
        have c10b0 : decide (t151 < t149) = false := decide_eq_false c10
        clear c10
        simp only [Option.some.injEq, Prod.mk.injEq] at H
        obtain ⟨rfl, rfl⟩ := H
        go_enter Try.func19, Try.ntmps19
        go_wp2_with (first | ((with_reducible refine gC (f := 57) rfl ?_); refine goesY_ (some 15) Try.func57 #[.int .i64 a0, .int .u64 a1] ?_; (with_reducible refine (vernierref05_Rank.calls k a0 a1 t149 t150 _ A4.out).mono ?_); rintro e w13 ⟨rfl, hb⟩; refine ⟨_, rfl, ?_⟩; have n0_ := Aside0.mk (bS3 HB.out hb); clear HB; have HB := n0_; clear n0_; (try clear hb); (try clear hb2); (try clear hk); (try clear hi)) | ((with_reducible refine gC (f := 57) rfl ?_); refine goesY_ (some 21) Try.func57 #[.int .i64 a0, .int .u64 a2] ?_; (with_reducible refine (vernierref05_Rank.calls k a0 a2 t151 t152 _ A5.out).mono ?_); rintro e w14 ⟨rfl, hb⟩; refine ⟨_, rfl, ?_⟩; have n0_ := Aside0.mk (bS3 HB.out hb); clear HB; have HB := n0_; clear n0_; (try clear hb); (try clear hb2); (try clear hk); (try clear hi)))
        go_ret2
        exact ⟨by first | rfl | (simp [errW_none, errW_some] <;> rfl) | (simp [*, errW_none, errW_some] <;> rfl), by repeat (first | (with_reducible first | exact HB.out | apply pA | apply pN | apply p1) | exact HB.out)⟩
  · rw [if_neg c6] at H
    have c6b0 : (t150 == 0) = false := beq_eq_false_iff_ne.mpr c6
    have c6b1 : (t150 != 0) = true := bne_iff_ne.mpr c6
    simp only [Option.some.injEq, Prod.mk.injEq] at H
    obtain ⟨rfl, rfl⟩ := H
    go_enter Try.func19, Try.ntmps19
    go_wp2_with (first | ((with_reducible refine gC (f := 57) rfl ?_); refine goesY_ (some 15) Try.func57 #[.int .i64 a0, .int .u64 a1] ?_; (with_reducible refine (vernierref05_Rank.calls k a0 a1 t149 t150 _ A4.out).mono ?_); rintro e w15 ⟨rfl, hb⟩; refine ⟨_, rfl, ?_⟩; have n0_ := Aside0.mk (bS3 HB.out hb); clear HB; have HB := n0_; clear n0_; (try clear hb); (try clear hb2); (try clear hk); (try clear hi)) | ((with_reducible refine gC (f := 57) rfl ?_); refine goesY_ (some 21) Try.func57 #[.int .i64 a0, .int .u64 a2] ?_; (with_reducible refine (vernierref05_Rank.calls k a0 a2 t151 t152 _ A5.out).mono ?_); rintro e w16 ⟨rfl, hb⟩; refine ⟨_, rfl, ?_⟩; have n0_ := Aside0.mk (bS3 HB.out hb); clear HB; have HB := n0_; clear n0_; (try clear hb); (try clear hb2); (try clear hk); (try clear hi)))
    go_ret2
    exact ⟨by first | rfl | (simp [errW_none, errW_some] <;> rfl) | (simp [*, errW_none, errW_some] <;> rfl), by repeat (first | (with_reducible first | exact HB.out | apply pA | apply pN | apply p1) | exact HB.out)⟩

/-! ### vernierref08_step: function 65 -/
def vernierref08_step.f (k : Nat) (a0 : Int) (a1 : Int) (a2 : Int) (a3 : Int) : Option (Int × Int) := (vernierref05_Fold.f k a0 a1).bind fun bt276 => (if bt276.2 = 0 then ((vernierref05_Power.f k (wrap64 (a0 - 1))).bind fun t278 => (if bt276.1 = t278 then (some (bt276.1, 0)) else (if bt276.1 = a3 then (some (bt276.1, 0)) else ((vernierref06_Fold.f k a0 (IntKind.u64.wrap (bt276.1 + a2))).bind fun t279 => (some (t279, 0)))))) else (some (0, bt276.2)))
theorem vernierref08_step.mono : ∀ a0 a1 a2 a3 k, LeO (vernierref08_step.f k a0 a1 a2 a3) (vernierref08_step.f (k + 1) a0 a1 a2 a3) := by
  intro a0 a1 a2 a3 k
  unfold vernierref08_step.f
  repeat' first
      | (with_reducible exact vernierref05_Fold.mono _ _ _)
      | (with_reducible exact vernierref05_Power.mono _ _)
      | (with_reducible exact vernierref06_Fold.mono _ _ _)
      | (with_reducible exact LeO.refl _)
      | (with_reducible exact LeO.none _)
      | (with_reducible refine LeO.ite ?_ ?_)
      | (with_reducible refine LeO.bind ?_ (fun _ => ?_))
      | exact vernierref05_Fold.mono _ _ _
      | exact vernierref05_Power.mono _ _
      | exact vernierref06_Fold.mono _ _ _
      | exact LeO.none _
      | refine LeO.ite ?_ ?_
      | refine LeO.bind ?_ (fun _ => ?_)
set_option maxHeartbeats 8000000 in
set_option maxRecDepth 100000 in
theorem vernierref08_step.calls (k : Nat) (a0 : Int) (a1 : Int) (a2 : Int) (a3 : Int) (r1 : Int) (r2 : Int) (w : World) (h : vernierref08_step.f k a0 a1 a2 a3 = some (r1, r2)) :
    Calls Try.prog 65 #[.int .i64 a0, .int .u64 a1, .int .u64 a2, .int .u64 a3] w fun e w' => e = .returned (.tuple #[.int .u64 r1, .int .i64 r2]) ∧ Below w.heap.size w w' := by
  have HB := Aside0.mk (Below.refl w.heap.size w)
  have H : ((vernierref05_Fold.f k a0 a1).bind fun bt276 => (if bt276.2 = 0 then ((vernierref05_Power.f k (wrap64 (a0 - 1))).bind fun t278 => (if bt276.1 = t278 then (some (bt276.1, 0)) else (if bt276.1 = a3 then (some (bt276.1, 0)) else ((vernierref06_Fold.f k a0 (IntKind.u64.wrap (bt276.1 + a2))).bind fun t279 => (some (t279, 0)))))) else (some (0, bt276.2)))) = some (r1, r2) := h
  clear h
  replace H := Option.bind_eq_some_iff.mp H
  obtain ⟨⟨t276, t277⟩, A50, H⟩ := H
  replace H : (if t277 = 0 then ((vernierref05_Power.f k (wrap64 (a0 - 1))).bind fun t278 => (if t276 = t278 then (some (t276, 0)) else (if t276 = a3 then (some (t276, 0)) else ((vernierref06_Fold.f k a0 (IntKind.u64.wrap (t276 + a2))).bind fun t279 => (some (t279, 0)))))) else (some (0, t277))) = some (r1, r2) := H
  have A5 := Aside0.mk A50
  clear A50
  by_cases c6 : t277 = 0
  · rw [if_pos c6] at H
    have c6b0 : (t277 == 0) = true := beq_iff_eq.mpr c6
    have c6b1 : (t277 != 0) = false := bne_eq_false_iff_eq.mpr c6
    clear c6
    replace H := Option.bind_eq_some_iff.mp H
    obtain ⟨t278, A70, H⟩ := H
    replace H : (if t276 = t278 then (some (t276, 0)) else (if t276 = a3 then (some (t276, 0)) else ((vernierref06_Fold.f k a0 (IntKind.u64.wrap (t276 + a2))).bind fun t279 => (some (t279, 0))))) = some (r1, r2) := H
    have A7 := Aside0.mk A70
    clear A70
    by_cases c8 : t276 = t278
    · rw [if_pos c8] at H
      have c8b0 : (t276 == t278) = true := beq_iff_eq.mpr c8
      have c8b1 : (t276 != t278) = false := bne_eq_false_iff_eq.mpr c8
      clear c8
      simp only [Option.some.injEq, Prod.mk.injEq] at H
      obtain ⟨rfl, rfl⟩ := H
      go_enter Try.func65, Try.ntmps65
      go_wp2_with (first | ((with_reducible refine gC (f := 97) rfl ?_); refine goesY_ (some 15) Try.func97 #[.int .i64 a0, .int .u64 a1] ?_; (with_reducible refine (vernierref05_Fold.calls k a0 a1 t276 t277 _ A5.out).mono ?_); rintro e w9 ⟨rfl, hb⟩; refine ⟨_, rfl, ?_⟩; have n0_ := Aside0.mk (bS3 HB.out hb); clear HB; have HB := n0_; clear n0_; (try clear hb); (try clear hb2); (try clear hk); (try clear hi)) | ((with_reducible refine gC (f := 96) rfl ?_); refine goesY_ (some 24) Try.func96 #[.int .i64 (wrap64 (a0 - 1))] ?_; (with_reducible refine (vernierref05_Power.calls k (wrap64 (a0 - 1)) t278 _ A7.out).mono ?_); rintro e w' ⟨rfl, ⟨nd, rfl⟩⟩; refine ⟨_, rfl, ?_⟩))
      go_ret2
      exact ⟨by first | rfl | (simp [errW_none, errW_some] <;> rfl) | (simp [*, errW_none, errW_some] <;> rfl), by repeat (first | (with_reducible first | exact HB.out | apply pA | apply pN | apply p1) | exact HB.out)⟩
    · rw [if_neg c8] at H
      have c8b0 : (t276 == t278) = false := beq_eq_false_iff_ne.mpr c8
      have c8b1 : (t276 != t278) = true := bne_iff_ne.mpr c8
      by_cases c10 : t276 = a3
      · rw [if_pos c10] at H
        have c10b0 : (t276 == a3) = true := beq_iff_eq.mpr c10
        have c10b1 : (t276 != a3) = false := bne_eq_false_iff_eq.mpr c10
        clear c10
        simp only [Option.some.injEq, Prod.mk.injEq] at H
        obtain ⟨rfl, rfl⟩ := H
        go_enter Try.func65, Try.ntmps65
        go_wp2_with (first | ((with_reducible refine gC (f := 97) rfl ?_); refine goesY_ (some 15) Try.func97 #[.int .i64 a0, .int .u64 a1] ?_; (with_reducible refine (vernierref05_Fold.calls k a0 a1 t276 t277 _ A5.out).mono ?_); rintro e w11 ⟨rfl, hb⟩; refine ⟨_, rfl, ?_⟩; have n0_ := Aside0.mk (bS3 HB.out hb); clear HB; have HB := n0_; clear n0_; (try clear hb); (try clear hb2); (try clear hk); (try clear hi)) | ((with_reducible refine gC (f := 96) rfl ?_); refine goesY_ (some 24) Try.func96 #[.int .i64 (wrap64 (a0 - 1))] ?_; (with_reducible refine (vernierref05_Power.calls k (wrap64 (a0 - 1)) t278 _ A7.out).mono ?_); rintro e w' ⟨rfl, ⟨nd, rfl⟩⟩; refine ⟨_, rfl, ?_⟩))
        go_ret2
        exact ⟨by first | rfl | (simp [errW_none, errW_some] <;> rfl) | (simp [*, errW_none, errW_some] <;> rfl), by repeat (first | (with_reducible first | exact HB.out | apply pA | apply pN | apply p1) | exact HB.out)⟩
      · rw [if_neg c10] at H
        have c10b0 : (t276 == a3) = false := beq_eq_false_iff_ne.mpr c10
        have c10b1 : (t276 != a3) = true := bne_iff_ne.mpr c10
        replace H := Option.bind_eq_some_iff.mp H
        obtain ⟨t279, A120, H⟩ := H
        replace H : (some (t279, 0)) = some (r1, r2) := H
        have A12 := Aside0.mk A120
        clear A120
        simp only [Option.some.injEq, Prod.mk.injEq] at H
        obtain ⟨rfl, rfl⟩ := H
        go_enter Try.func65, Try.ntmps65
        go_wp2_with (first | ((with_reducible refine gC (f := 97) rfl ?_); refine goesY_ (some 15) Try.func97 #[.int .i64 a0, .int .u64 a1] ?_; (with_reducible refine (vernierref05_Fold.calls k a0 a1 t276 t277 _ A5.out).mono ?_); rintro e w13 ⟨rfl, hb⟩; refine ⟨_, rfl, ?_⟩; have n0_ := Aside0.mk (bS3 HB.out hb); clear HB; have HB := n0_; clear n0_; (try clear hb); (try clear hb2); (try clear hk); (try clear hi)) | ((with_reducible refine gC (f := 96) rfl ?_); refine goesY_ (some 24) Try.func96 #[.int .i64 (wrap64 (a0 - 1))] ?_; (with_reducible refine (vernierref05_Power.calls k (wrap64 (a0 - 1)) t278 _ A7.out).mono ?_); rintro e w' ⟨rfl, ⟨nd, rfl⟩⟩; refine ⟨_, rfl, ?_⟩) | ((with_reducible refine gC (f := 66) rfl ?_); refine goesY_ (some 36) Try.func66 #[.int .i64 a0, .int .u64 (IntKind.u64.wrap (t276 + a2))] ?_; (with_reducible refine (vernierref06_Fold.calls k a0 (IntKind.u64.wrap (t276 + a2)) t279 _ A12.out).mono ?_); rintro e w14 ⟨rfl, hb⟩; refine ⟨_, rfl, ?_⟩; have n0_ := Aside0.mk (bS3 HB.out hb); clear HB; have HB := n0_; clear n0_; (try clear hb); (try clear hb2); (try clear hk); (try clear hi)))
        go_ret2
        exact ⟨by first | rfl | (simp [errW_none, errW_some] <;> rfl) | (simp [*, errW_none, errW_some] <;> rfl), by repeat (first | (with_reducible first | exact HB.out | apply pA | apply pN | apply p1) | exact HB.out)⟩
  · rw [if_neg c6] at H
    have c6b0 : (t277 == 0) = false := beq_eq_false_iff_ne.mpr c6
    have c6b1 : (t277 != 0) = true := bne_iff_ne.mpr c6
    simp only [Option.some.injEq, Prod.mk.injEq] at H
    obtain ⟨rfl, rfl⟩ := H
    go_enter Try.func65, Try.ntmps65
    go_wp2_with (first | ((with_reducible refine gC (f := 97) rfl ?_); refine goesY_ (some 15) Try.func97 #[.int .i64 a0, .int .u64 a1] ?_; (with_reducible refine (vernierref05_Fold.calls k a0 a1 t276 t277 _ A5.out).mono ?_); rintro e w15 ⟨rfl, hb⟩; refine ⟨_, rfl, ?_⟩; have n0_ := Aside0.mk (bS3 HB.out hb); clear HB; have HB := n0_; clear n0_; (try clear hb); (try clear hb2); (try clear hk); (try clear hi)))
    go_ret2
    exact ⟨by first | rfl | (simp [errW_none, errW_some] <;> rfl) | (simp [*, errW_none, errW_some] <;> rfl), by repeat (first | (with_reducible first | exact HB.out | apply pA | apply pN | apply p1) | exact HB.out)⟩

/-! ### vernierref08_Next: function 28 -/
def vernierref08_Next.f (k : Nat) (a0 : Int) (a1 : Int) : Option (Int × Int) := (vernierref05_Of.f k a0).bind fun bt280 => (if bt280.2.2.2.2.2 = 0 then ((vernierref08_step.f k a0 a1 1 bt280.2.1).bind fun bt287 => (some (bt287.1, bt287.2))) else (some (0, bt280.2.2.2.2.2)))
theorem vernierref08_Next.mono : ∀ a0 a1 k, LeO (vernierref08_Next.f k a0 a1) (vernierref08_Next.f (k + 1) a0 a1) := by
  intro a0 a1 k
  unfold vernierref08_Next.f
  repeat' first
      | (with_reducible exact vernierref05_Of.mono _ _)
      | (with_reducible exact vernierref08_step.mono _ _ _ _ _)
      | (with_reducible exact LeO.refl _)
      | (with_reducible exact LeO.none _)
      | (with_reducible refine LeO.ite ?_ ?_)
      | (with_reducible refine LeO.bind ?_ (fun _ => ?_))
      | exact vernierref05_Of.mono _ _
      | exact vernierref08_step.mono _ _ _ _ _
      | exact LeO.none _
      | refine LeO.ite ?_ ?_
      | refine LeO.bind ?_ (fun _ => ?_)
set_option maxHeartbeats 8000000 in
set_option maxRecDepth 100000 in
theorem vernierref08_Next.calls (k : Nat) (a0 : Int) (a1 : Int) (r1 : Int) (r2 : Int) (w : World) (h : vernierref08_Next.f k a0 a1 = some (r1, r2)) :
    Calls Try.prog 28 #[.int .i64 a0, .int .u64 a1] w fun e w' => e = .returned (.tuple #[.int .u64 r1, .int .i64 r2]) ∧ Below w.heap.size w w' := by
  have hu88 := Try.underlying88
  have HB := Aside0.mk (Below.refl w.heap.size w)
  have H : ((vernierref05_Of.f k a0).bind fun bt280 => (if bt280.2.2.2.2.2 = 0 then ((vernierref08_step.f k a0 a1 1 bt280.2.1).bind fun bt287 => (some (bt287.1, bt287.2))) else (some (0, bt280.2.2.2.2.2)))) = some (r1, r2) := h
  clear h
  replace H := Option.bind_eq_some_iff.mp H
  obtain ⟨⟨t280, t281, t282, t283, t284, t285⟩, A30, H⟩ := H
  replace H : (if t285 = 0 then ((vernierref08_step.f k a0 a1 1 t281).bind fun bt287 => (some (bt287.1, bt287.2))) else (some (0, t285))) = some (r1, r2) := H
  have A3 := Aside0.mk A30
  clear A30
  by_cases c4 : t285 = 0
  · rw [if_pos c4] at H
    have c4b0 : (t285 == 0) = true := beq_iff_eq.mpr c4
    have c4b1 : (t285 != 0) = false := bne_eq_false_iff_eq.mpr c4
    clear c4
    replace H := Option.bind_eq_some_iff.mp H
    obtain ⟨⟨t287, t288⟩, A50, H⟩ := H
    replace H : (some (t287, t288)) = some (r1, r2) := H
    have A5 := Aside0.mk A50
    clear A50
    simp only [Option.some.injEq, Prod.mk.injEq] at H
    obtain ⟨rfl, rfl⟩ := H
    go_enter Try.func28, Try.ntmps28
    go_wp2_with (first | ((with_reducible refine gC (f := 64) rfl ?_); refine goesY_ (some 10) Try.func64 #[.int .i64 a0] ?_; (with_reducible refine (vernierref05_Of.calls k a0 t280 t281 t282 t283 t284 t285 _ A3.out).mono ?_); rintro e w6 ⟨rfl, hb⟩; refine ⟨_, rfl, ?_⟩; have n0_ := Aside0.mk (bS3 HB.out hb); clear HB; have HB := n0_; clear n0_; (try clear hb); (try clear hb2); (try clear hk); (try clear hi)) | ((with_reducible refine gD (N := 6) rfl ?_); refine bE3 6 #[.int .i64 0, .int .u64 0, .int .u64 0, .int .u64 0, .int .i64 0] 88 ?hr ?_; (case hr => first | (go_simp; done) | (go_simp; rfl)); intro gb286 hg w7 hbox hb; have n0_ := Aside0.mk (bS3 HB.out hb); have n1_ := Aside0.mk (hbox); have n2_ := Aside0.mk ((bZ3 hg HB.out)); have n3_ := Aside0.mk ((bZ3 hg HB.out)); clear HB; have HB := n0_; have BK286 := n1_; have GW286 := n2_; have GE286 := n3_; clear n0_ n1_ n2_ n3_; clear hb hbox hg; have hcz8_0 : w7.cell? ⟨gb286, 0, none⟩ = some (.int .i64 0) := (blk_cell BK286.out 0).trans rfl; have hcz8_1 : w7.cell? ⟨gb286, 1, none⟩ = some (.int .u64 0) := (blk_cell BK286.out 1).trans rfl; have hcz8_2 : w7.cell? ⟨gb286, 2, none⟩ = some (.int .u64 0) := (blk_cell BK286.out 2).trans rfl; have hcz8_3 : w7.cell? ⟨gb286, 3, none⟩ = some (.int .u64 0) := (blk_cell BK286.out 3).trans rfl; have hcz8_4 : w7.cell? ⟨gb286, 4, none⟩ = some (.int .i64 0) := (blk_cell BK286.out 4).trans rfl; have hfz8_0 := blk_frozen BK286.out 0; have hfz8_1 := blk_frozen BK286.out 1; have hfz8_2 := blk_frozen BK286.out 2; have hfz8_3 := blk_frozen BK286.out 3; have hfz8_4 := blk_frozen BK286.out 4) | ((with_reducible refine gC (f := 65) rfl ?_); refine goesY_ (some 20) Try.func65 #[.int .i64 a0, .int .u64 a1, .int .u64 1, .int .u64 t281] ?_; (with_reducible refine (vernierref08_step.calls k a0 a1 1 t281 t287 t288 _ A5.out).mono ?_); rintro e w9 ⟨rfl, hb⟩; refine ⟨_, rfl, ?_⟩; have n0_ := Aside0.mk (bB (g := gb286) (o := .cells #[.int .i64 t280, .int .u64 t281, .int .u64 t282, .int .u64 t283, .int .i64 t284] 88 (0, 0)) (by (with_reducible repeat (first | refine bN ?_ _ | refine bD ?_ | refine bA ?_ _)); refine blk_put (cs := #[.int .i64 t280, .int .u64 t281, .int .u64 t282, .int .u64 t283, .int .i64 0]) ?_ 4 _ rfl; (with_reducible repeat (first | refine bN ?_ _ | refine bD ?_ | refine bA ?_ _)); refine blk_put (cs := #[.int .i64 t280, .int .u64 t281, .int .u64 t282, .int .u64 0, .int .i64 0]) ?_ 3 _ rfl; (with_reducible repeat (first | refine bN ?_ _ | refine bD ?_ | refine bA ?_ _)); refine blk_put (cs := #[.int .i64 t280, .int .u64 t281, .int .u64 0, .int .u64 0, .int .i64 0]) ?_ 2 _ rfl; (with_reducible repeat (first | refine bN ?_ _ | refine bD ?_ | refine bA ?_ _)); refine blk_put (cs := #[.int .i64 t280, .int .u64 0, .int .u64 0, .int .u64 0, .int .i64 0]) ?_ 1 _ rfl; (with_reducible repeat (first | refine bN ?_ _ | refine bD ?_ | refine bA ?_ _)); refine blk_put (cs := #[.int .i64 0, .int .u64 0, .int .u64 0, .int .u64 0, .int .i64 0]) ?_ 0 _ rfl; (with_reducible repeat (first | refine bN ?_ _ | refine bD ?_ | refine bA ?_ _)); exact BK286.out) hb); have n1_ := Aside0.mk (bS3 HB.out hb); clear BK286; clear HB; have BK286 := n0_; have HB := n1_; clear n0_ n1_; (try clear hb); (try clear hb2); (try clear hk); (try clear hi)))
    go_ret2
    exact ⟨by first | rfl | (simp [errW_none, errW_some] <;> rfl) | (simp [*, errW_none, errW_some] <;> rfl), by repeat (first | (with_reducible first | exact HB.out | apply pA | apply pN | apply p1 | refine pS ?_ GE286.out) | exact HB.out)⟩
  · rw [if_neg c4] at H
    have c4b0 : (t285 == 0) = false := beq_eq_false_iff_ne.mpr c4
    have c4b1 : (t285 != 0) = true := bne_iff_ne.mpr c4
    simp only [Option.some.injEq, Prod.mk.injEq] at H
    obtain ⟨rfl, rfl⟩ := H
    go_enter Try.func28, Try.ntmps28
    go_wp2_with (first | ((with_reducible refine gC (f := 64) rfl ?_); refine goesY_ (some 10) Try.func64 #[.int .i64 a0] ?_; (with_reducible refine (vernierref05_Of.calls k a0 t280 t281 t282 t283 t284 t285 _ A3.out).mono ?_); rintro e w10 ⟨rfl, hb⟩; refine ⟨_, rfl, ?_⟩; have n0_ := Aside0.mk (bS3 HB.out hb); clear HB; have HB := n0_; clear n0_; (try clear hb); (try clear hb2); (try clear hk); (try clear hi)) | ((with_reducible refine gD (N := 6) rfl ?_); refine bE3 6 #[.int .i64 0, .int .u64 0, .int .u64 0, .int .u64 0, .int .i64 0] 88 ?hr ?_; (case hr => first | (go_simp; done) | (go_simp; rfl)); intro gb286 hg w11 hbox hb; have n0_ := Aside0.mk (bS3 HB.out hb); have n1_ := Aside0.mk (hbox); have n2_ := Aside0.mk ((bZ3 hg HB.out)); have n3_ := Aside0.mk ((bZ3 hg HB.out)); clear HB; have HB := n0_; have BK286 := n1_; have GW286 := n2_; have GE286 := n3_; clear n0_ n1_ n2_ n3_; clear hb hbox hg; have hcz12_0 : w11.cell? ⟨gb286, 0, none⟩ = some (.int .i64 0) := (blk_cell BK286.out 0).trans rfl; have hcz12_1 : w11.cell? ⟨gb286, 1, none⟩ = some (.int .u64 0) := (blk_cell BK286.out 1).trans rfl; have hcz12_2 : w11.cell? ⟨gb286, 2, none⟩ = some (.int .u64 0) := (blk_cell BK286.out 2).trans rfl; have hcz12_3 : w11.cell? ⟨gb286, 3, none⟩ = some (.int .u64 0) := (blk_cell BK286.out 3).trans rfl; have hcz12_4 : w11.cell? ⟨gb286, 4, none⟩ = some (.int .i64 0) := (blk_cell BK286.out 4).trans rfl; have hfz12_0 := blk_frozen BK286.out 0; have hfz12_1 := blk_frozen BK286.out 1; have hfz12_2 := blk_frozen BK286.out 2; have hfz12_3 := blk_frozen BK286.out 3; have hfz12_4 := blk_frozen BK286.out 4))
    go_ret2
    exact ⟨by first | rfl | (simp [errW_none, errW_some] <;> rfl) | (simp [*, errW_none, errW_some] <;> rfl), by repeat (first | (with_reducible first | exact HB.out | apply pA | apply pN | apply p1 | refine pS ?_ GE286.out) | exact HB.out)⟩

/-! ### vernierref08_Prev: function 29 -/
def vernierref08_Prev.f (k : Nat) (a0 : Int) (a1 : Int) : Option (Int × Int) := (vernierref05_Of.f k a0).bind fun bt289 => (if bt289.2.2.2.2.2 = 0 then ((vernierref08_step.f k a0 a1 18446744073709551615 (IntKind.u64.wrap (bt289.2.2.2.1 + 1))).bind fun bt296 => (some (bt296.1, bt296.2))) else (some (0, bt289.2.2.2.2.2)))
theorem vernierref08_Prev.mono : ∀ a0 a1 k, LeO (vernierref08_Prev.f k a0 a1) (vernierref08_Prev.f (k + 1) a0 a1) := by
  intro a0 a1 k
  unfold vernierref08_Prev.f
  repeat' first
      | (with_reducible exact vernierref05_Of.mono _ _)
      | (with_reducible exact vernierref08_step.mono _ _ _ _ _)
      | (with_reducible exact LeO.refl _)
      | (with_reducible exact LeO.none _)
      | (with_reducible refine LeO.ite ?_ ?_)
      | (with_reducible refine LeO.bind ?_ (fun _ => ?_))
      | exact vernierref05_Of.mono _ _
      | exact vernierref08_step.mono _ _ _ _ _
      | exact LeO.none _
      | refine LeO.ite ?_ ?_
      | refine LeO.bind ?_ (fun _ => ?_)
set_option maxHeartbeats 8000000 in
set_option maxRecDepth 100000 in
theorem vernierref08_Prev.calls (k : Nat) (a0 : Int) (a1 : Int) (r1 : Int) (r2 : Int) (w : World) (h : vernierref08_Prev.f k a0 a1 = some (r1, r2)) :
    Calls Try.prog 29 #[.int .i64 a0, .int .u64 a1] w fun e w' => e = .returned (.tuple #[.int .u64 r1, .int .i64 r2]) ∧ Below w.heap.size w w' := by
  have hu88 := Try.underlying88
  have HB := Aside0.mk (Below.refl w.heap.size w)
  have H : ((vernierref05_Of.f k a0).bind fun bt289 => (if bt289.2.2.2.2.2 = 0 then ((vernierref08_step.f k a0 a1 18446744073709551615 (IntKind.u64.wrap (bt289.2.2.2.1 + 1))).bind fun bt296 => (some (bt296.1, bt296.2))) else (some (0, bt289.2.2.2.2.2)))) = some (r1, r2) := h
  clear h
  replace H := Option.bind_eq_some_iff.mp H
  obtain ⟨⟨t289, t290, t291, t292, t293, t294⟩, A30, H⟩ := H
  replace H : (if t294 = 0 then ((vernierref08_step.f k a0 a1 18446744073709551615 (IntKind.u64.wrap (t292 + 1))).bind fun bt296 => (some (bt296.1, bt296.2))) else (some (0, t294))) = some (r1, r2) := H
  have A3 := Aside0.mk A30
  clear A30
  by_cases c4 : t294 = 0
  · rw [if_pos c4] at H
    have c4b0 : (t294 == 0) = true := beq_iff_eq.mpr c4
    have c4b1 : (t294 != 0) = false := bne_eq_false_iff_eq.mpr c4
    clear c4
    replace H := Option.bind_eq_some_iff.mp H
    obtain ⟨⟨t296, t297⟩, A50, H⟩ := H
    replace H : (some (t296, t297)) = some (r1, r2) := H
    have A5 := Aside0.mk A50
    clear A50
    simp only [Option.some.injEq, Prod.mk.injEq] at H
    obtain ⟨rfl, rfl⟩ := H
    go_enter Try.func29, Try.ntmps29
    go_wp2_with (first | ((with_reducible refine gC (f := 64) rfl ?_); refine goesY_ (some 10) Try.func64 #[.int .i64 a0] ?_; (with_reducible refine (vernierref05_Of.calls k a0 t289 t290 t291 t292 t293 t294 _ A3.out).mono ?_); rintro e w6 ⟨rfl, hb⟩; refine ⟨_, rfl, ?_⟩; have n0_ := Aside0.mk (bS3 HB.out hb); clear HB; have HB := n0_; clear n0_; (try clear hb); (try clear hb2); (try clear hk); (try clear hi)) | ((with_reducible refine gD (N := 6) rfl ?_); refine bE3 6 #[.int .i64 0, .int .u64 0, .int .u64 0, .int .u64 0, .int .i64 0] 88 ?hr ?_; (case hr => first | (go_simp; done) | (go_simp; rfl)); intro gb295 hg w7 hbox hb; have n0_ := Aside0.mk (bS3 HB.out hb); have n1_ := Aside0.mk (hbox); have n2_ := Aside0.mk ((bZ3 hg HB.out)); have n3_ := Aside0.mk ((bZ3 hg HB.out)); clear HB; have HB := n0_; have BK295 := n1_; have GW295 := n2_; have GE295 := n3_; clear n0_ n1_ n2_ n3_; clear hb hbox hg; have hcz8_0 : w7.cell? ⟨gb295, 0, none⟩ = some (.int .i64 0) := (blk_cell BK295.out 0).trans rfl; have hcz8_1 : w7.cell? ⟨gb295, 1, none⟩ = some (.int .u64 0) := (blk_cell BK295.out 1).trans rfl; have hcz8_2 : w7.cell? ⟨gb295, 2, none⟩ = some (.int .u64 0) := (blk_cell BK295.out 2).trans rfl; have hcz8_3 : w7.cell? ⟨gb295, 3, none⟩ = some (.int .u64 0) := (blk_cell BK295.out 3).trans rfl; have hcz8_4 : w7.cell? ⟨gb295, 4, none⟩ = some (.int .i64 0) := (blk_cell BK295.out 4).trans rfl; have hfz8_0 := blk_frozen BK295.out 0; have hfz8_1 := blk_frozen BK295.out 1; have hfz8_2 := blk_frozen BK295.out 2; have hfz8_3 := blk_frozen BK295.out 3; have hfz8_4 := blk_frozen BK295.out 4) | ((with_reducible refine gC (f := 65) rfl ?_); refine goesY_ (some 21) Try.func65 #[.int .i64 a0, .int .u64 a1, .int .u64 18446744073709551615, .int .u64 (IntKind.u64.wrap (t292 + 1))] ?_; (with_reducible refine (vernierref08_step.calls k a0 a1 18446744073709551615 (IntKind.u64.wrap (t292 + 1)) t296 t297 _ A5.out).mono ?_); rintro e w9 ⟨rfl, hb⟩; refine ⟨_, rfl, ?_⟩; have n0_ := Aside0.mk (bB (g := gb295) (o := .cells #[.int .i64 t289, .int .u64 t290, .int .u64 t291, .int .u64 t292, .int .i64 t293] 88 (0, 0)) (by (with_reducible repeat (first | refine bN ?_ _ | refine bD ?_ | refine bA ?_ _)); refine blk_put (cs := #[.int .i64 t289, .int .u64 t290, .int .u64 t291, .int .u64 t292, .int .i64 0]) ?_ 4 _ rfl; (with_reducible repeat (first | refine bN ?_ _ | refine bD ?_ | refine bA ?_ _)); refine blk_put (cs := #[.int .i64 t289, .int .u64 t290, .int .u64 t291, .int .u64 0, .int .i64 0]) ?_ 3 _ rfl; (with_reducible repeat (first | refine bN ?_ _ | refine bD ?_ | refine bA ?_ _)); refine blk_put (cs := #[.int .i64 t289, .int .u64 t290, .int .u64 0, .int .u64 0, .int .i64 0]) ?_ 2 _ rfl; (with_reducible repeat (first | refine bN ?_ _ | refine bD ?_ | refine bA ?_ _)); refine blk_put (cs := #[.int .i64 t289, .int .u64 0, .int .u64 0, .int .u64 0, .int .i64 0]) ?_ 1 _ rfl; (with_reducible repeat (first | refine bN ?_ _ | refine bD ?_ | refine bA ?_ _)); refine blk_put (cs := #[.int .i64 0, .int .u64 0, .int .u64 0, .int .u64 0, .int .i64 0]) ?_ 0 _ rfl; (with_reducible repeat (first | refine bN ?_ _ | refine bD ?_ | refine bA ?_ _)); exact BK295.out) hb); have n1_ := Aside0.mk (bS3 HB.out hb); clear BK295; clear HB; have BK295 := n0_; have HB := n1_; clear n0_ n1_; (try clear hb); (try clear hb2); (try clear hk); (try clear hi)))
    go_ret2
    exact ⟨by first | rfl | (simp [errW_none, errW_some] <;> rfl) | (simp [*, errW_none, errW_some] <;> rfl), by repeat (first | (with_reducible first | exact HB.out | apply pA | apply pN | apply p1 | refine pS ?_ GE295.out) | exact HB.out)⟩
  · rw [if_neg c4] at H
    have c4b0 : (t294 == 0) = false := beq_eq_false_iff_ne.mpr c4
    have c4b1 : (t294 != 0) = true := bne_iff_ne.mpr c4
    simp only [Option.some.injEq, Prod.mk.injEq] at H
    obtain ⟨rfl, rfl⟩ := H
    go_enter Try.func29, Try.ntmps29
    go_wp2_with (first | ((with_reducible refine gC (f := 64) rfl ?_); refine goesY_ (some 10) Try.func64 #[.int .i64 a0] ?_; (with_reducible refine (vernierref05_Of.calls k a0 t289 t290 t291 t292 t293 t294 _ A3.out).mono ?_); rintro e w10 ⟨rfl, hb⟩; refine ⟨_, rfl, ?_⟩; have n0_ := Aside0.mk (bS3 HB.out hb); clear HB; have HB := n0_; clear n0_; (try clear hb); (try clear hb2); (try clear hk); (try clear hi)) | ((with_reducible refine gD (N := 6) rfl ?_); refine bE3 6 #[.int .i64 0, .int .u64 0, .int .u64 0, .int .u64 0, .int .i64 0] 88 ?hr ?_; (case hr => first | (go_simp; done) | (go_simp; rfl)); intro gb295 hg w11 hbox hb; have n0_ := Aside0.mk (bS3 HB.out hb); have n1_ := Aside0.mk (hbox); have n2_ := Aside0.mk ((bZ3 hg HB.out)); have n3_ := Aside0.mk ((bZ3 hg HB.out)); clear HB; have HB := n0_; have BK295 := n1_; have GW295 := n2_; have GE295 := n3_; clear n0_ n1_ n2_ n3_; clear hb hbox hg; have hcz12_0 : w11.cell? ⟨gb295, 0, none⟩ = some (.int .i64 0) := (blk_cell BK295.out 0).trans rfl; have hcz12_1 : w11.cell? ⟨gb295, 1, none⟩ = some (.int .u64 0) := (blk_cell BK295.out 1).trans rfl; have hcz12_2 : w11.cell? ⟨gb295, 2, none⟩ = some (.int .u64 0) := (blk_cell BK295.out 2).trans rfl; have hcz12_3 : w11.cell? ⟨gb295, 3, none⟩ = some (.int .u64 0) := (blk_cell BK295.out 3).trans rfl; have hcz12_4 : w11.cell? ⟨gb295, 4, none⟩ = some (.int .i64 0) := (blk_cell BK295.out 4).trans rfl; have hfz12_0 := blk_frozen BK295.out 0; have hfz12_1 := blk_frozen BK295.out 1; have hfz12_2 := blk_frozen BK295.out 2; have hfz12_3 := blk_frozen BK295.out 3; have hfz12_4 := blk_frozen BK295.out 4))
    go_ret2
    exact ⟨by first | rfl | (simp [errW_none, errW_some] <;> rfl) | (simp [*, errW_none, errW_some] <;> rfl), by repeat (first | (with_reducible first | exact HB.out | apply pA | apply pN | apply p1 | refine pS ?_ GE295.out) | exact HB.out)⟩

/-! ### vernierref08_Steps: function 31 -/
def vernierref08_Steps.f (k : Nat) (a0 : Int) (a1 : Int) (a2 : Int) : Option (Int × Int) := (vernierref08_Cmps.f k a0 a1 a2).bind fun bt314 => (if bt314.2 = 0 then ((vernierref05_Rank.f k a0 a1).bind fun bt316 => ((vernierref05_Rank.f k a0 a2).bind fun bt318 => (if bt314.1 < 0 then (some (IntKind.u64.wrap ((IntKind.u64.wrap (bt318.1)) - (IntKind.u64.wrap (bt316.1))), 0)) else (some (IntKind.u64.wrap ((IntKind.u64.wrap (bt316.1)) - (IntKind.u64.wrap (bt318.1))), 0))))) else (some (0, bt314.2)))
theorem vernierref08_Steps.mono : ∀ a0 a1 a2 k, LeO (vernierref08_Steps.f k a0 a1 a2) (vernierref08_Steps.f (k + 1) a0 a1 a2) := by
  intro a0 a1 a2 k
  unfold vernierref08_Steps.f
  repeat' first
      | (with_reducible exact vernierref05_Rank.mono _ _ _)
      | (with_reducible exact vernierref08_Cmps.mono _ _ _ _)
      | (with_reducible exact LeO.refl _)
      | (with_reducible exact LeO.none _)
      | (with_reducible refine LeO.ite ?_ ?_)
      | (with_reducible refine LeO.bind ?_ (fun _ => ?_))
      | exact vernierref05_Rank.mono _ _ _
      | exact vernierref08_Cmps.mono _ _ _ _
      | exact LeO.none _
      | refine LeO.ite ?_ ?_
      | refine LeO.bind ?_ (fun _ => ?_)
set_option maxHeartbeats 8000000 in
set_option maxRecDepth 100000 in
theorem vernierref08_Steps.calls (k : Nat) (a0 : Int) (a1 : Int) (a2 : Int) (r1 : Int) (r2 : Int) (w : World) (h : vernierref08_Steps.f k a0 a1 a2 = some (r1, r2)) :
    Calls Try.prog 31 #[.int .i64 a0, .int .u64 a1, .int .u64 a2] w fun e w' => e = .returned (.tuple #[.int .u64 r1, .int .i64 r2]) ∧ Below w.heap.size w w' := by
  have HB := Aside0.mk (Below.refl w.heap.size w)
  have H : ((vernierref08_Cmps.f k a0 a1 a2).bind fun bt314 => (if bt314.2 = 0 then ((vernierref05_Rank.f k a0 a1).bind fun bt316 => ((vernierref05_Rank.f k a0 a2).bind fun bt318 => (if bt314.1 < 0 then (some (IntKind.u64.wrap ((IntKind.u64.wrap (bt318.1)) - (IntKind.u64.wrap (bt316.1))), 0)) else (some (IntKind.u64.wrap ((IntKind.u64.wrap (bt316.1)) - (IntKind.u64.wrap (bt318.1))), 0))))) else (some (0, bt314.2)))) = some (r1, r2) := h
  clear h
  replace H := Option.bind_eq_some_iff.mp H
  obtain ⟨⟨t314, t315⟩, A40, H⟩ := H
  replace H : (if t315 = 0 then ((vernierref05_Rank.f k a0 a1).bind fun bt316 => ((vernierref05_Rank.f k a0 a2).bind fun bt318 => (if t314 < 0 then (some (IntKind.u64.wrap ((IntKind.u64.wrap (bt318.1)) - (IntKind.u64.wrap (bt316.1))), 0)) else (some (IntKind.u64.wrap ((IntKind.u64.wrap (bt316.1)) - (IntKind.u64.wrap (bt318.1))), 0))))) else (some (0, t315))) = some (r1, r2) := H
  have A4 := Aside0.mk A40
  clear A40
  by_cases c5 : t315 = 0
  · rw [if_pos c5] at H
    have c5b0 : (t315 == 0) = true := beq_iff_eq.mpr c5
    have c5b1 : (t315 != 0) = false := bne_eq_false_iff_eq.mpr c5
    clear c5
    replace H := Option.bind_eq_some_iff.mp H
    obtain ⟨⟨t316, t317⟩, A60, H⟩ := H
    replace H : ((vernierref05_Rank.f k a0 a2).bind fun bt318 => (if t314 < 0 then (some (IntKind.u64.wrap ((IntKind.u64.wrap (bt318.1)) - (IntKind.u64.wrap (t316))), 0)) else (some (IntKind.u64.wrap ((IntKind.u64.wrap (t316)) - (IntKind.u64.wrap (bt318.1))), 0)))) = some (r1, r2) := H
    have A6 := Aside0.mk A60
    clear A60
    replace H := Option.bind_eq_some_iff.mp H
    obtain ⟨⟨t318, t319⟩, A70, H⟩ := H
    replace H : (if t314 < 0 then (some (IntKind.u64.wrap ((IntKind.u64.wrap (t318)) - (IntKind.u64.wrap (t316))), 0)) else (some (IntKind.u64.wrap ((IntKind.u64.wrap (t316)) - (IntKind.u64.wrap (t318))), 0))) = some (r1, r2) := H
    have A7 := Aside0.mk A70
    clear A70
    by_cases c8 : t314 < 0
    · rw [if_pos c8] at H
      have c8b0 : decide (t314 < 0) = true := decide_eq_true c8
      clear c8
      simp only [Option.some.injEq, Prod.mk.injEq] at H
      obtain ⟨rfl, rfl⟩ := H
      go_enter Try.func31, Try.ntmps31
      go_wp2_with (first | ((with_reducible refine gC (f := 19) rfl ?_); refine goesY_ (some 18) Try.func19 #[.int .i64 a0, .int .u64 a1, .int .u64 a2] ?_; (with_reducible refine (vernierref08_Cmps.calls k a0 a1 a2 t314 t315 _ A4.out).mono ?_); rintro e w9 ⟨rfl, hb⟩; refine ⟨_, rfl, ?_⟩; have n0_ := Aside0.mk (bS3 HB.out hb); clear HB; have HB := n0_; clear n0_; (try clear hb); (try clear hb2); (try clear hk); (try clear hi)) | ((with_reducible refine gC (f := 57) rfl ?_); refine goesY_ (some 27) Try.func57 #[.int .i64 a0, .int .u64 a1] ?_; (with_reducible refine (vernierref05_Rank.calls k a0 a1 t316 t317 _ A6.out).mono ?_); rintro e w10 ⟨rfl, hb⟩; refine ⟨_, rfl, ?_⟩; have n0_ := Aside0.mk (bS3 HB.out hb); clear HB; have HB := n0_; clear n0_; (try clear hb); (try clear hb2); (try clear hk); (try clear hi)) | ((with_reducible refine gC (f := 57) rfl ?_); refine goesY_ (some 33) Try.func57 #[.int .i64 a0, .int .u64 a2] ?_; (with_reducible refine (vernierref05_Rank.calls k a0 a2 t318 t319 _ A7.out).mono ?_); rintro e w11 ⟨rfl, hb⟩; refine ⟨_, rfl, ?_⟩; have n0_ := Aside0.mk (bS3 HB.out hb); clear HB; have HB := n0_; clear n0_; (try clear hb); (try clear hb2); (try clear hk); (try clear hi)))
      go_ret2
      exact ⟨by first | rfl | (simp [errW_none, errW_some] <;> rfl) | (simp [*, errW_none, errW_some] <;> rfl), by repeat (first | (with_reducible first | exact HB.out | apply pA | apply pN | apply p1) | exact HB.out)⟩
    · rw [if_neg c8] at H
      have c8b0 : decide (t314 < 0) = false := decide_eq_false c8
      clear c8
      simp only [Option.some.injEq, Prod.mk.injEq] at H
      obtain ⟨rfl, rfl⟩ := H
      go_enter Try.func31, Try.ntmps31
      go_wp2_with (first | ((with_reducible refine gC (f := 19) rfl ?_); refine goesY_ (some 18) Try.func19 #[.int .i64 a0, .int .u64 a1, .int .u64 a2] ?_; (with_reducible refine (vernierref08_Cmps.calls k a0 a1 a2 t314 t315 _ A4.out).mono ?_); rintro e w12 ⟨rfl, hb⟩; refine ⟨_, rfl, ?_⟩; have n0_ := Aside0.mk (bS3 HB.out hb); clear HB; have HB := n0_; clear n0_; (try clear hb); (try clear hb2); (try clear hk); (try clear hi)) | ((with_reducible refine gC (f := 57) rfl ?_); refine goesY_ (some 27) Try.func57 #[.int .i64 a0, .int .u64 a1] ?_; (with_reducible refine (vernierref05_Rank.calls k a0 a1 t316 t317 _ A6.out).mono ?_); rintro e w13 ⟨rfl, hb⟩; refine ⟨_, rfl, ?_⟩; have n0_ := Aside0.mk (bS3 HB.out hb); clear HB; have HB := n0_; clear n0_; (try clear hb); (try clear hb2); (try clear hk); (try clear hi)) | ((with_reducible refine gC (f := 57) rfl ?_); refine goesY_ (some 33) Try.func57 #[.int .i64 a0, .int .u64 a2] ?_; (with_reducible refine (vernierref05_Rank.calls k a0 a2 t318 t319 _ A7.out).mono ?_); rintro e w14 ⟨rfl, hb⟩; refine ⟨_, rfl, ?_⟩; have n0_ := Aside0.mk (bS3 HB.out hb); clear HB; have HB := n0_; clear n0_; (try clear hb); (try clear hb2); (try clear hk); (try clear hi)))
      go_ret2
      exact ⟨by first | rfl | (simp [errW_none, errW_some] <;> rfl) | (simp [*, errW_none, errW_some] <;> rfl), by repeat (first | (with_reducible first | exact HB.out | apply pA | apply pN | apply p1) | exact HB.out)⟩
  · rw [if_neg c5] at H
    have c5b0 : (t315 == 0) = false := beq_eq_false_iff_ne.mpr c5
    have c5b1 : (t315 != 0) = true := bne_iff_ne.mpr c5
    simp only [Option.some.injEq, Prod.mk.injEq] at H
    obtain ⟨rfl, rfl⟩ := H
    go_enter Try.func31, Try.ntmps31
    go_wp2_with (first | ((with_reducible refine gC (f := 19) rfl ?_); refine goesY_ (some 18) Try.func19 #[.int .i64 a0, .int .u64 a1, .int .u64 a2] ?_; (with_reducible refine (vernierref08_Cmps.calls k a0 a1 a2 t314 t315 _ A4.out).mono ?_); rintro e w15 ⟨rfl, hb⟩; refine ⟨_, rfl, ?_⟩; have n0_ := Aside0.mk (bS3 HB.out hb); clear HB; have HB := n0_; clear n0_; (try clear hb); (try clear hb2); (try clear hk); (try clear hi)))
    go_ret2
    exact ⟨by first | rfl | (simp [errW_none, errW_some] <;> rfl) | (simp [*, errW_none, errW_some] <;> rfl), by repeat (first | (with_reducible first | exact HB.out | apply pA | apply pN | apply p1) | exact HB.out)⟩

/-! ### vernierref08_Min: function 34 -/
def vernierref08_Min.f (k : Nat) (a0 : Int) (a1 : Int) (a2 : Int) : Option (Int × Int) := (vernierref08_Cmps.f k a0 a1 a2).bind fun bt338 => (if bt338.2 = 0 then (if bt338.1 < 0 then ((vernierref06_Fold.f k a0 a1).bind fun t340 => (some (t340, 0))) else ((vernierref06_Fold.f k a0 a2).bind fun t341 => (some (t341, 0)))) else (some (0, bt338.2)))
theorem vernierref08_Min.mono : ∀ a0 a1 a2 k, LeO (vernierref08_Min.f k a0 a1 a2) (vernierref08_Min.f (k + 1) a0 a1 a2) := by
  intro a0 a1 a2 k
  unfold vernierref08_Min.f
  repeat' first
      | (with_reducible exact vernierref06_Fold.mono _ _ _)
      | (with_reducible exact vernierref08_Cmps.mono _ _ _ _)
      | (with_reducible exact LeO.refl _)
      | (with_reducible exact LeO.none _)
      | (with_reducible refine LeO.ite ?_ ?_)
      | (with_reducible refine LeO.bind ?_ (fun _ => ?_))
      | exact vernierref06_Fold.mono _ _ _
      | exact vernierref08_Cmps.mono _ _ _ _
      | exact LeO.none _
      | refine LeO.ite ?_ ?_
      | refine LeO.bind ?_ (fun _ => ?_)
set_option maxHeartbeats 8000000 in
set_option maxRecDepth 100000 in
theorem vernierref08_Min.calls (k : Nat) (a0 : Int) (a1 : Int) (a2 : Int) (r1 : Int) (r2 : Int) (w : World) (h : vernierref08_Min.f k a0 a1 a2 = some (r1, r2)) :
    Calls Try.prog 34 #[.int .i64 a0, .int .u64 a1, .int .u64 a2] w fun e w' => e = .returned (.tuple #[.int .u64 r1, .int .i64 r2]) ∧ Below w.heap.size w w' := by
  have HB := Aside0.mk (Below.refl w.heap.size w)
  have H : ((vernierref08_Cmps.f k a0 a1 a2).bind fun bt338 => (if bt338.2 = 0 then (if bt338.1 < 0 then ((vernierref06_Fold.f k a0 a1).bind fun t340 => (some (t340, 0))) else ((vernierref06_Fold.f k a0 a2).bind fun t341 => (some (t341, 0)))) else (some (0, bt338.2)))) = some (r1, r2) := h
  clear h
  replace H := Option.bind_eq_some_iff.mp H
  obtain ⟨⟨t338, t339⟩, A40, H⟩ := H
  replace H : (if t339 = 0 then (if t338 < 0 then ((vernierref06_Fold.f k a0 a1).bind fun t340 => (some (t340, 0))) else ((vernierref06_Fold.f k a0 a2).bind fun t341 => (some (t341, 0)))) else (some (0, t339))) = some (r1, r2) := H
  have A4 := Aside0.mk A40
  clear A40
  by_cases c5 : t339 = 0
  · rw [if_pos c5] at H
    have c5b0 : (t339 == 0) = true := beq_iff_eq.mpr c5
    have c5b1 : (t339 != 0) = false := bne_eq_false_iff_eq.mpr c5
    clear c5
    by_cases c6 : t338 < 0
    · rw [if_pos c6] at H
      have c6b0 : decide (t338 < 0) = true := decide_eq_true c6
      clear c6
      replace H := Option.bind_eq_some_iff.mp H
      obtain ⟨t340, A70, H⟩ := H
      replace H : (some (t340, 0)) = some (r1, r2) := H
      have A7 := Aside0.mk A70
      clear A70
      simp only [Option.some.injEq, Prod.mk.injEq] at H
      obtain ⟨rfl, rfl⟩ := H
      go_enter Try.func34, Try.ntmps34
      go_wp2_with (first | ((with_reducible refine gC (f := 19) rfl ?_); refine goesY_ (some 14) Try.func19 #[.int .i64 a0, .int .u64 a1, .int .u64 a2] ?_; (with_reducible refine (vernierref08_Cmps.calls k a0 a1 a2 t338 t339 _ A4.out).mono ?_); rintro e w8 ⟨rfl, hb⟩; refine ⟨_, rfl, ?_⟩; have n0_ := Aside0.mk (bS3 HB.out hb); clear HB; have HB := n0_; clear n0_; (try clear hb); (try clear hb2); (try clear hk); (try clear hi)) | ((with_reducible refine gC (f := 66) rfl ?_); refine goesY_ (some 26) Try.func66 #[.int .i64 a0, .int .u64 a1] ?_; (with_reducible refine (vernierref06_Fold.calls k a0 a1 t340 _ A7.out).mono ?_); rintro e w9 ⟨rfl, hb⟩; refine ⟨_, rfl, ?_⟩; have n0_ := Aside0.mk (bS3 HB.out hb); clear HB; have HB := n0_; clear n0_; (try clear hb); (try clear hb2); (try clear hk); (try clear hi)))
      go_ret2
      exact ⟨by first | rfl | (simp [errW_none, errW_some] <;> rfl) | (simp [*, errW_none, errW_some] <;> rfl), by repeat (first | (with_reducible first | exact HB.out | apply pA | apply pN | apply p1) | exact HB.out)⟩
    · rw [if_neg c6] at H
      have c6b0 : decide (t338 < 0) = false := decide_eq_false c6
      clear c6
      replace H := Option.bind_eq_some_iff.mp H
      obtain ⟨t341, A100, H⟩ := H
      replace H : (some (t341, 0)) = some (r1, r2) := H
      have A10 := Aside0.mk A100
      clear A100
      simp only [Option.some.injEq, Prod.mk.injEq] at H
      obtain ⟨rfl, rfl⟩ := H
      go_enter Try.func34, Try.ntmps34
      go_wp2_with (first | ((with_reducible refine gC (f := 19) rfl ?_); refine goesY_ (some 14) Try.func19 #[.int .i64 a0, .int .u64 a1, .int .u64 a2] ?_; (with_reducible refine (vernierref08_Cmps.calls k a0 a1 a2 t338 t339 _ A4.out).mono ?_); rintro e w11 ⟨rfl, hb⟩; refine ⟨_, rfl, ?_⟩; have n0_ := Aside0.mk (bS3 HB.out hb); clear HB; have HB := n0_; clear n0_; (try clear hb); (try clear hb2); (try clear hk); (try clear hi)) | ((with_reducible refine gC (f := 66) rfl ?_); refine goesY_ (some 29) Try.func66 #[.int .i64 a0, .int .u64 a2] ?_; (with_reducible refine (vernierref06_Fold.calls k a0 a2 t341 _ A10.out).mono ?_); rintro e w12 ⟨rfl, hb⟩; refine ⟨_, rfl, ?_⟩; have n0_ := Aside0.mk (bS3 HB.out hb); clear HB; have HB := n0_; clear n0_; (try clear hb); (try clear hb2); (try clear hk); (try clear hi)))
      go_ret2
      exact ⟨by first | rfl | (simp [errW_none, errW_some] <;> rfl) | (simp [*, errW_none, errW_some] <;> rfl), by repeat (first | (with_reducible first | exact HB.out | apply pA | apply pN | apply p1) | exact HB.out)⟩
  · rw [if_neg c5] at H
    have c5b0 : (t339 == 0) = false := beq_eq_false_iff_ne.mpr c5
    have c5b1 : (t339 != 0) = true := bne_iff_ne.mpr c5
    simp only [Option.some.injEq, Prod.mk.injEq] at H
    obtain ⟨rfl, rfl⟩ := H
    go_enter Try.func34, Try.ntmps34
    go_wp2_with (first | ((with_reducible refine gC (f := 19) rfl ?_); refine goesY_ (some 14) Try.func19 #[.int .i64 a0, .int .u64 a1, .int .u64 a2] ?_; (with_reducible refine (vernierref08_Cmps.calls k a0 a1 a2 t338 t339 _ A4.out).mono ?_); rintro e w13 ⟨rfl, hb⟩; refine ⟨_, rfl, ?_⟩; have n0_ := Aside0.mk (bS3 HB.out hb); clear HB; have HB := n0_; clear n0_; (try clear hb); (try clear hb2); (try clear hk); (try clear hi)))
    go_ret2
    exact ⟨by first | rfl | (simp [errW_none, errW_some] <;> rfl) | (simp [*, errW_none, errW_some] <;> rfl), by repeat (first | (with_reducible first | exact HB.out | apply pA | apply pN | apply p1) | exact HB.out)⟩

/-! ### vernierref08_Max: function 35 -/
def vernierref08_Max.f (k : Nat) (a0 : Int) (a1 : Int) (a2 : Int) : Option (Int × Int) := (vernierref08_Cmps.f k a0 a1 a2).bind fun bt342 => (if bt342.2 = 0 then (if bt342.1 > 0 then ((vernierref06_Fold.f k a0 a1).bind fun t344 => (some (t344, 0))) else ((vernierref06_Fold.f k a0 a2).bind fun t345 => (some (t345, 0)))) else (some (0, bt342.2)))
theorem vernierref08_Max.mono : ∀ a0 a1 a2 k, LeO (vernierref08_Max.f k a0 a1 a2) (vernierref08_Max.f (k + 1) a0 a1 a2) := by
  intro a0 a1 a2 k
  unfold vernierref08_Max.f
  repeat' first
      | (with_reducible exact vernierref06_Fold.mono _ _ _)
      | (with_reducible exact vernierref08_Cmps.mono _ _ _ _)
      | (with_reducible exact LeO.refl _)
      | (with_reducible exact LeO.none _)
      | (with_reducible refine LeO.ite ?_ ?_)
      | (with_reducible refine LeO.bind ?_ (fun _ => ?_))
      | exact vernierref06_Fold.mono _ _ _
      | exact vernierref08_Cmps.mono _ _ _ _
      | exact LeO.none _
      | refine LeO.ite ?_ ?_
      | refine LeO.bind ?_ (fun _ => ?_)
set_option maxHeartbeats 8000000 in
set_option maxRecDepth 100000 in
theorem vernierref08_Max.calls (k : Nat) (a0 : Int) (a1 : Int) (a2 : Int) (r1 : Int) (r2 : Int) (w : World) (h : vernierref08_Max.f k a0 a1 a2 = some (r1, r2)) :
    Calls Try.prog 35 #[.int .i64 a0, .int .u64 a1, .int .u64 a2] w fun e w' => e = .returned (.tuple #[.int .u64 r1, .int .i64 r2]) ∧ Below w.heap.size w w' := by
  have HB := Aside0.mk (Below.refl w.heap.size w)
  have H : ((vernierref08_Cmps.f k a0 a1 a2).bind fun bt342 => (if bt342.2 = 0 then (if bt342.1 > 0 then ((vernierref06_Fold.f k a0 a1).bind fun t344 => (some (t344, 0))) else ((vernierref06_Fold.f k a0 a2).bind fun t345 => (some (t345, 0)))) else (some (0, bt342.2)))) = some (r1, r2) := h
  clear h
  replace H := Option.bind_eq_some_iff.mp H
  obtain ⟨⟨t342, t343⟩, A40, H⟩ := H
  replace H : (if t343 = 0 then (if t342 > 0 then ((vernierref06_Fold.f k a0 a1).bind fun t344 => (some (t344, 0))) else ((vernierref06_Fold.f k a0 a2).bind fun t345 => (some (t345, 0)))) else (some (0, t343))) = some (r1, r2) := H
  have A4 := Aside0.mk A40
  clear A40
  by_cases c5 : t343 = 0
  · rw [if_pos c5] at H
    have c5b0 : (t343 == 0) = true := beq_iff_eq.mpr c5
    have c5b1 : (t343 != 0) = false := bne_eq_false_iff_eq.mpr c5
    clear c5
    by_cases c6 : t342 > 0
    · rw [if_pos c6] at H
      have c6b0 : decide (0 < t342) = true := decide_eq_true c6
      clear c6
      replace H := Option.bind_eq_some_iff.mp H
      obtain ⟨t344, A70, H⟩ := H
      replace H : (some (t344, 0)) = some (r1, r2) := H
      have A7 := Aside0.mk A70
      clear A70
      simp only [Option.some.injEq, Prod.mk.injEq] at H
      obtain ⟨rfl, rfl⟩ := H
      go_enter Try.func35, Try.ntmps35
      go_wp2_with (first | ((with_reducible refine gC (f := 19) rfl ?_); refine goesY_ (some 14) Try.func19 #[.int .i64 a0, .int .u64 a1, .int .u64 a2] ?_; (with_reducible refine (vernierref08_Cmps.calls k a0 a1 a2 t342 t343 _ A4.out).mono ?_); rintro e w8 ⟨rfl, hb⟩; refine ⟨_, rfl, ?_⟩; have n0_ := Aside0.mk (bS3 HB.out hb); clear HB; have HB := n0_; clear n0_; (try clear hb); (try clear hb2); (try clear hk); (try clear hi)) | ((with_reducible refine gC (f := 66) rfl ?_); refine goesY_ (some 26) Try.func66 #[.int .i64 a0, .int .u64 a1] ?_; (with_reducible refine (vernierref06_Fold.calls k a0 a1 t344 _ A7.out).mono ?_); rintro e w9 ⟨rfl, hb⟩; refine ⟨_, rfl, ?_⟩; have n0_ := Aside0.mk (bS3 HB.out hb); clear HB; have HB := n0_; clear n0_; (try clear hb); (try clear hb2); (try clear hk); (try clear hi)))
      go_ret2
      exact ⟨by first | rfl | (simp [errW_none, errW_some] <;> rfl) | (simp [*, errW_none, errW_some] <;> rfl), by repeat (first | (with_reducible first | exact HB.out | apply pA | apply pN | apply p1) | exact HB.out)⟩
    · rw [if_neg c6] at H
      have c6b0 : decide (0 < t342) = false := decide_eq_false c6
      clear c6
      replace H := Option.bind_eq_some_iff.mp H
      obtain ⟨t345, A100, H⟩ := H
      replace H : (some (t345, 0)) = some (r1, r2) := H
      have A10 := Aside0.mk A100
      clear A100
      simp only [Option.some.injEq, Prod.mk.injEq] at H
      obtain ⟨rfl, rfl⟩ := H
      go_enter Try.func35, Try.ntmps35
      go_wp2_with (first | ((with_reducible refine gC (f := 19) rfl ?_); refine goesY_ (some 14) Try.func19 #[.int .i64 a0, .int .u64 a1, .int .u64 a2] ?_; (with_reducible refine (vernierref08_Cmps.calls k a0 a1 a2 t342 t343 _ A4.out).mono ?_); rintro e w11 ⟨rfl, hb⟩; refine ⟨_, rfl, ?_⟩; have n0_ := Aside0.mk (bS3 HB.out hb); clear HB; have HB := n0_; clear n0_; (try clear hb); (try clear hb2); (try clear hk); (try clear hi)) | ((with_reducible refine gC (f := 66) rfl ?_); refine goesY_ (some 29) Try.func66 #[.int .i64 a0, .int .u64 a2] ?_; (with_reducible refine (vernierref06_Fold.calls k a0 a2 t345 _ A10.out).mono ?_); rintro e w12 ⟨rfl, hb⟩; refine ⟨_, rfl, ?_⟩; have n0_ := Aside0.mk (bS3 HB.out hb); clear HB; have HB := n0_; clear n0_; (try clear hb); (try clear hb2); (try clear hk); (try clear hi)))
      go_ret2
      exact ⟨by first | rfl | (simp [errW_none, errW_some] <;> rfl) | (simp [*, errW_none, errW_some] <;> rfl), by repeat (first | (with_reducible first | exact HB.out | apply pA | apply pN | apply p1) | exact HB.out)⟩
  · rw [if_neg c5] at H
    have c5b0 : (t343 == 0) = false := beq_eq_false_iff_ne.mpr c5
    have c5b1 : (t343 != 0) = true := bne_iff_ne.mpr c5
    simp only [Option.some.injEq, Prod.mk.injEq] at H
    obtain ⟨rfl, rfl⟩ := H
    go_enter Try.func35, Try.ntmps35
    go_wp2_with (first | ((with_reducible refine gC (f := 19) rfl ?_); refine goesY_ (some 14) Try.func19 #[.int .i64 a0, .int .u64 a1, .int .u64 a2] ?_; (with_reducible refine (vernierref08_Cmps.calls k a0 a1 a2 t342 t343 _ A4.out).mono ?_); rintro e w13 ⟨rfl, hb⟩; refine ⟨_, rfl, ?_⟩; have n0_ := Aside0.mk (bS3 HB.out hb); clear HB; have HB := n0_; clear n0_; (try clear hb); (try clear hb2); (try clear hk); (try clear hi)))
    go_ret2
    exact ⟨by first | rfl | (simp [errW_none, errW_some] <;> rfl) | (simp [*, errW_none, errW_some] <;> rfl), by repeat (first | (with_reducible first | exact HB.out | apply pA | apply pN | apply p1) | exact HB.out)⟩

/-! ### vernierref08_Neg: function 38 -/
def vernierref08_Neg.f (k : Nat) (a0 : Int) (a1 : Int) : Option (Int × Int) := (vernierref05_Is.f a0).bind fun t372 => (if t372 = true then ((vernierref06_Neg.f k a0 a1).bind fun t373 => (some (t373, 0))) else (some (0, 2)))
theorem vernierref08_Neg.mono : ∀ a0 a1 k, LeO (vernierref08_Neg.f k a0 a1) (vernierref08_Neg.f (k + 1) a0 a1) := by
  intro a0 a1 k
  unfold vernierref08_Neg.f
  repeat' first
      | (with_reducible exact vernierref06_Neg.mono _ _ _)
      | (with_reducible exact LeO.refl _)
      | (with_reducible exact LeO.none _)
      | (with_reducible refine LeO.ite ?_ ?_)
      | (with_reducible refine LeO.bind ?_ (fun _ => ?_))
      | exact vernierref06_Neg.mono _ _ _
      | exact LeO.none _
      | refine LeO.ite ?_ ?_
      | refine LeO.bind ?_ (fun _ => ?_)
set_option maxHeartbeats 8000000 in
set_option maxRecDepth 100000 in
theorem vernierref08_Neg.calls (k : Nat) (a0 : Int) (a1 : Int) (r1 : Int) (r2 : Int) (w : World) (h : vernierref08_Neg.f k a0 a1 = some (r1, r2)) :
    Calls Try.prog 38 #[.int .i64 a0, .int .u64 a1] w fun e w' => e = .returned (.tuple #[.int .u64 r1, .int .i64 r2]) ∧ Below w.heap.size w w' := by
  have HB := Aside0.mk (Below.refl w.heap.size w)
  have H : ((vernierref05_Is.f a0).bind fun t372 => (if t372 = true then ((vernierref06_Neg.f k a0 a1).bind fun t373 => (some (t373, 0))) else (some (0, 2)))) = some (r1, r2) := h
  clear h
  replace H := Option.bind_eq_some_iff.mp H
  obtain ⟨t372, A30, H⟩ := H
  replace H : (if t372 = true then ((vernierref06_Neg.f k a0 a1).bind fun t373 => (some (t373, 0))) else (some (0, 2))) = some (r1, r2) := H
  have A3 := Aside0.mk A30
  clear A30
  by_cases c4 : t372 = true
  · subst c4
    have H1 : ((vernierref06_Neg.f k a0 a1).bind fun t373 => (some (t373, 0))) = some (r1, r2) := by rw [if_pos rfl] at H; exact H
    clear H
    have H := H1
    clear H1
    replace H := Option.bind_eq_some_iff.mp H
    obtain ⟨t373, A50, H⟩ := H
    replace H : (some (t373, 0)) = some (r1, r2) := H
    have A5 := Aside0.mk A50
    clear A50
    simp only [Option.some.injEq, Prod.mk.injEq] at H
    obtain ⟨rfl, rfl⟩ := H
    go_enter Try.func38, Try.ntmps38
    go_wp2_with (first | ((with_reducible refine gC (f := 21) rfl ?_); refine goesY_ (some 8) Try.func21 #[.int .i64 a0] ?_; (with_reducible refine (vernierref05_Is.calls a0 true _ A3.out).mono ?_); rintro e w' ⟨rfl, ⟨nd, rfl⟩⟩; refine ⟨_, rfl, ?_⟩) | ((with_reducible refine gC (f := 68) rfl ?_); refine goesY_ (some 13) Try.func68 #[.int .i64 a0, .int .u64 a1] ?_; (with_reducible refine (vernierref06_Neg.calls k a0 a1 t373 _ A5.out).mono ?_); rintro e w6 ⟨rfl, hb⟩; refine ⟨_, rfl, ?_⟩; have n0_ := Aside0.mk (bS3 HB.out hb); clear HB; have HB := n0_; clear n0_; (try clear hb); (try clear hb2); (try clear hk); (try clear hi)))
    go_ret2
    exact ⟨by first | rfl | (simp [errW_none, errW_some] <;> rfl) | (simp [*, errW_none, errW_some] <;> rfl), by repeat (first | (with_reducible first | exact HB.out | apply pA | apply pN | apply p1) | exact HB.out)⟩
  · replace c4 := Bool.eq_false_iff.mpr c4
    subst c4
    have H1 : (some (0, 2)) = some (r1, r2) := by rw [if_neg (show ¬ (false = true) by decide)] at H; exact H
    clear H
    have H := H1
    clear H1
    simp only [Option.some.injEq, Prod.mk.injEq] at H
    obtain ⟨rfl, rfl⟩ := H
    go_enter Try.func38, Try.ntmps38
    go_wp2_with (first | ((with_reducible refine gC (f := 21) rfl ?_); refine goesY_ (some 8) Try.func21 #[.int .i64 a0] ?_; (with_reducible refine (vernierref05_Is.calls a0 false _ A3.out).mono ?_); rintro e w' ⟨rfl, ⟨nd, rfl⟩⟩; refine ⟨_, rfl, ?_⟩))
    go_ret2
    exact ⟨by first | rfl | (simp [errW_none, errW_some] <;> rfl) | (simp [*, errW_none, errW_some] <;> rfl), by repeat (first | (with_reducible first | exact HB.out | apply pA | apply pN | apply p1) | exact HB.out)⟩

/-! ### vernierref08_Abs: function 39 -/
def vernierref08_Abs.f (k : Nat) (a0 : Int) (a1 : Int) : Option (Int × Int) := (vernierref05_Rank.f k a0 a1).bind fun bt374 => (if bt374.2 = 0 then (if bt374.1 < 0 then ((vernierref06_Neg.f k a0 a1).bind fun t376 => (some (t376, 0))) else ((vernierref06_Fold.f k a0 a1).bind fun t377 => (some (t377, 0)))) else (some (0, bt374.2)))
theorem vernierref08_Abs.mono : ∀ a0 a1 k, LeO (vernierref08_Abs.f k a0 a1) (vernierref08_Abs.f (k + 1) a0 a1) := by
  intro a0 a1 k
  unfold vernierref08_Abs.f
  repeat' first
      | (with_reducible exact vernierref05_Rank.mono _ _ _)
      | (with_reducible exact vernierref06_Fold.mono _ _ _)
      | (with_reducible exact vernierref06_Neg.mono _ _ _)
      | (with_reducible exact LeO.refl _)
      | (with_reducible exact LeO.none _)
      | (with_reducible refine LeO.ite ?_ ?_)
      | (with_reducible refine LeO.bind ?_ (fun _ => ?_))
      | exact vernierref05_Rank.mono _ _ _
      | exact vernierref06_Fold.mono _ _ _
      | exact vernierref06_Neg.mono _ _ _
      | exact LeO.none _
      | refine LeO.ite ?_ ?_
      | refine LeO.bind ?_ (fun _ => ?_)
set_option maxHeartbeats 8000000 in
set_option maxRecDepth 100000 in
theorem vernierref08_Abs.calls (k : Nat) (a0 : Int) (a1 : Int) (r1 : Int) (r2 : Int) (w : World) (h : vernierref08_Abs.f k a0 a1 = some (r1, r2)) :
    Calls Try.prog 39 #[.int .i64 a0, .int .u64 a1] w fun e w' => e = .returned (.tuple #[.int .u64 r1, .int .i64 r2]) ∧ Below w.heap.size w w' := by
  have HB := Aside0.mk (Below.refl w.heap.size w)
  have H : ((vernierref05_Rank.f k a0 a1).bind fun bt374 => (if bt374.2 = 0 then (if bt374.1 < 0 then ((vernierref06_Neg.f k a0 a1).bind fun t376 => (some (t376, 0))) else ((vernierref06_Fold.f k a0 a1).bind fun t377 => (some (t377, 0)))) else (some (0, bt374.2)))) = some (r1, r2) := h
  clear h
  replace H := Option.bind_eq_some_iff.mp H
  obtain ⟨⟨t374, t375⟩, A30, H⟩ := H
  replace H : (if t375 = 0 then (if t374 < 0 then ((vernierref06_Neg.f k a0 a1).bind fun t376 => (some (t376, 0))) else ((vernierref06_Fold.f k a0 a1).bind fun t377 => (some (t377, 0)))) else (some (0, t375))) = some (r1, r2) := H
  have A3 := Aside0.mk A30
  clear A30
  by_cases c4 : t375 = 0
  · rw [if_pos c4] at H
    have c4b0 : (t375 == 0) = true := beq_iff_eq.mpr c4
    have c4b1 : (t375 != 0) = false := bne_eq_false_iff_eq.mpr c4
    clear c4
    by_cases c5 : t374 < 0
    · rw [if_pos c5] at H
      have c5b0 : decide (t374 < 0) = true := decide_eq_true c5
      clear c5
      replace H := Option.bind_eq_some_iff.mp H
      obtain ⟨t376, A60, H⟩ := H
      replace H : (some (t376, 0)) = some (r1, r2) := H
      have A6 := Aside0.mk A60
      clear A60
      simp only [Option.some.injEq, Prod.mk.injEq] at H
      obtain ⟨rfl, rfl⟩ := H
      go_enter Try.func39, Try.ntmps39
      go_wp2_with (first | ((with_reducible refine gC (f := 57) rfl ?_); refine goesY_ (some 11) Try.func57 #[.int .i64 a0, .int .u64 a1] ?_; (with_reducible refine (vernierref05_Rank.calls k a0 a1 t374 t375 _ A3.out).mono ?_); rintro e w7 ⟨rfl, hb⟩; refine ⟨_, rfl, ?_⟩; have n0_ := Aside0.mk (bS3 HB.out hb); clear HB; have HB := n0_; clear n0_; (try clear hb); (try clear hb2); (try clear hk); (try clear hi)) | ((with_reducible refine gC (f := 68) rfl ?_); refine goesY_ (some 21) Try.func68 #[.int .i64 a0, .int .u64 a1] ?_; (with_reducible refine (vernierref06_Neg.calls k a0 a1 t376 _ A6.out).mono ?_); rintro e w8 ⟨rfl, hb⟩; refine ⟨_, rfl, ?_⟩; have n0_ := Aside0.mk (bS3 HB.out hb); clear HB; have HB := n0_; clear n0_; (try clear hb); (try clear hb2); (try clear hk); (try clear hi)))
      go_ret2
      exact ⟨by first | rfl | (simp [errW_none, errW_some] <;> rfl) | (simp [*, errW_none, errW_some] <;> rfl), by repeat (first | (with_reducible first | exact HB.out | apply pA | apply pN | apply p1) | exact HB.out)⟩
    · rw [if_neg c5] at H
      have c5b0 : decide (t374 < 0) = false := decide_eq_false c5
      clear c5
      replace H := Option.bind_eq_some_iff.mp H
      obtain ⟨t377, A90, H⟩ := H
      replace H : (some (t377, 0)) = some (r1, r2) := H
      have A9 := Aside0.mk A90
      clear A90
      simp only [Option.some.injEq, Prod.mk.injEq] at H
      obtain ⟨rfl, rfl⟩ := H
      go_enter Try.func39, Try.ntmps39
      go_wp2_with (first | ((with_reducible refine gC (f := 57) rfl ?_); refine goesY_ (some 11) Try.func57 #[.int .i64 a0, .int .u64 a1] ?_; (with_reducible refine (vernierref05_Rank.calls k a0 a1 t374 t375 _ A3.out).mono ?_); rintro e w10 ⟨rfl, hb⟩; refine ⟨_, rfl, ?_⟩; have n0_ := Aside0.mk (bS3 HB.out hb); clear HB; have HB := n0_; clear n0_; (try clear hb); (try clear hb2); (try clear hk); (try clear hi)) | ((with_reducible refine gC (f := 66) rfl ?_); refine goesY_ (some 24) Try.func66 #[.int .i64 a0, .int .u64 a1] ?_; (with_reducible refine (vernierref06_Fold.calls k a0 a1 t377 _ A9.out).mono ?_); rintro e w11 ⟨rfl, hb⟩; refine ⟨_, rfl, ?_⟩; have n0_ := Aside0.mk (bS3 HB.out hb); clear HB; have HB := n0_; clear n0_; (try clear hb); (try clear hb2); (try clear hk); (try clear hi)))
      go_ret2
      exact ⟨by first | rfl | (simp [errW_none, errW_some] <;> rfl) | (simp [*, errW_none, errW_some] <;> rfl), by repeat (first | (with_reducible first | exact HB.out | apply pA | apply pN | apply p1) | exact HB.out)⟩
  · rw [if_neg c4] at H
    have c4b0 : (t375 == 0) = false := beq_eq_false_iff_ne.mpr c4
    have c4b1 : (t375 != 0) = true := bne_iff_ne.mpr c4
    simp only [Option.some.injEq, Prod.mk.injEq] at H
    obtain ⟨rfl, rfl⟩ := H
    go_enter Try.func39, Try.ntmps39
    go_wp2_with (first | ((with_reducible refine gC (f := 57) rfl ?_); refine goesY_ (some 11) Try.func57 #[.int .i64 a0, .int .u64 a1] ?_; (with_reducible refine (vernierref05_Rank.calls k a0 a1 t374 t375 _ A3.out).mono ?_); rintro e w12 ⟨rfl, hb⟩; refine ⟨_, rfl, ?_⟩; have n0_ := Aside0.mk (bS3 HB.out hb); clear HB; have HB := n0_; clear n0_; (try clear hb); (try clear hb2); (try clear hk); (try clear hi)))
    go_ret2
    exact ⟨by first | rfl | (simp [errW_none, errW_some] <;> rfl) | (simp [*, errW_none, errW_some] <;> rfl), by repeat (first | (with_reducible first | exact HB.out | apply pA | apply pN | apply p1) | exact HB.out)⟩

/-! ### vernierref08_nar: function 69 -/
def vernierref08_nar.f (k : Nat) (a0 : Int) (a1 : Int) : Option (Bool) := (vernierref06_Fold.f k a0 a1).bind fun t378 => ((vernierref05_Power.f k (wrap64 (a0 - 1))).bind fun t379 => (some (t378 == t379)))
theorem vernierref08_nar.mono : ∀ a0 a1 k, LeO (vernierref08_nar.f k a0 a1) (vernierref08_nar.f (k + 1) a0 a1) := by
  intro a0 a1 k
  unfold vernierref08_nar.f
  repeat' first
      | (with_reducible exact vernierref05_Power.mono _ _)
      | (with_reducible exact vernierref06_Fold.mono _ _ _)
      | (with_reducible exact LeO.refl _)
      | (with_reducible exact LeO.none _)
      | (with_reducible refine LeO.ite ?_ ?_)
      | (with_reducible refine LeO.bind ?_ (fun _ => ?_))
      | exact vernierref05_Power.mono _ _
      | exact vernierref06_Fold.mono _ _ _
      | exact LeO.none _
      | refine LeO.ite ?_ ?_
      | refine LeO.bind ?_ (fun _ => ?_)
set_option maxHeartbeats 8000000 in
set_option maxRecDepth 100000 in
theorem vernierref08_nar.calls (k : Nat) (a0 : Int) (a1 : Int) (r : Bool) (w : World) (h : vernierref08_nar.f k a0 a1 = some r) :
    Calls Try.prog 69 #[.int .i64 a0, .int .u64 a1] w fun e w' => e = .returned (.bool r) ∧ Below w.heap.size w w' := by
  have HB := Aside0.mk (Below.refl w.heap.size w)
  have H : ((vernierref06_Fold.f k a0 a1).bind fun t378 => ((vernierref05_Power.f k (wrap64 (a0 - 1))).bind fun t379 => (some (t378 == t379)))) = some r := h
  clear h
  replace H := Option.bind_eq_some_iff.mp H
  obtain ⟨t378, A30, H⟩ := H
  replace H : ((vernierref05_Power.f k (wrap64 (a0 - 1))).bind fun t379 => (some (t378 == t379))) = some r := H
  have A3 := Aside0.mk A30
  clear A30
  replace H := Option.bind_eq_some_iff.mp H
  obtain ⟨t379, A40, H⟩ := H
  replace H : (some (t378 == t379)) = some r := H
  have A4 := Aside0.mk A40
  clear A40
  obtain rfl := Option.some.inj H
  go_enter Try.func69, Try.ntmps69
  go_wp2_with (first | ((with_reducible refine gC (f := 66) rfl ?_); refine goesY_ (some 7) Try.func66 #[.int .i64 a0, .int .u64 a1] ?_; (with_reducible refine (vernierref06_Fold.calls k a0 a1 t378 _ A3.out).mono ?_); rintro e w5 ⟨rfl, hb⟩; refine ⟨_, rfl, ?_⟩; have n0_ := Aside0.mk (bS3 HB.out hb); clear HB; have HB := n0_; clear n0_; (try clear hb); (try clear hb2); (try clear hk); (try clear hi)) | ((with_reducible refine gC (f := 96) rfl ?_); refine goesY_ (some 10) Try.func96 #[.int .i64 (wrap64 (a0 - 1))] ?_; (with_reducible refine (vernierref05_Power.calls k (wrap64 (a0 - 1)) t379 _ A4.out).mono ?_); rintro e w' ⟨rfl, ⟨nd, rfl⟩⟩; refine ⟨_, rfl, ?_⟩))
  go_ret
  exact ⟨by first | rfl | (simp [errW_none, errW_some] <;> rfl) | (simp [*, errW_none, errW_some] <;> rfl), by repeat (first | (with_reducible first | exact HB.out | apply pA | apply pN | apply p1) | exact HB.out)⟩

/-! ### vernierref08_Sign: function 40 -/
def vernierref08_Sign.f (k : Nat) (a0 : Int) (a1 : Int) : Option (Int × Int) := (vernierref08_Cmps.f k a0 a1 0).bind fun bt380 => (if bt380.2 = 0 then ((vernierref08_nar.f k a0 a1).bind fun t382 => (if t382 = true then (some (0, 9)) else (some (bt380.1, 0)))) else (some (0, bt380.2)))
theorem vernierref08_Sign.mono : ∀ a0 a1 k, LeO (vernierref08_Sign.f k a0 a1) (vernierref08_Sign.f (k + 1) a0 a1) := by
  intro a0 a1 k
  unfold vernierref08_Sign.f
  repeat' first
      | (with_reducible exact vernierref08_Cmps.mono _ _ _ _)
      | (with_reducible exact vernierref08_nar.mono _ _ _)
      | (with_reducible exact LeO.refl _)
      | (with_reducible exact LeO.none _)
      | (with_reducible refine LeO.ite ?_ ?_)
      | (with_reducible refine LeO.bind ?_ (fun _ => ?_))
      | exact vernierref08_Cmps.mono _ _ _ _
      | exact vernierref08_nar.mono _ _ _
      | exact LeO.none _
      | refine LeO.ite ?_ ?_
      | refine LeO.bind ?_ (fun _ => ?_)
set_option maxHeartbeats 8000000 in
set_option maxRecDepth 100000 in
theorem vernierref08_Sign.calls (k : Nat) (a0 : Int) (a1 : Int) (r1 : Int) (r2 : Int) (w : World) (h : vernierref08_Sign.f k a0 a1 = some (r1, r2)) :
    Calls Try.prog 40 #[.int .i64 a0, .int .u64 a1] w fun e w' => e = .returned (.tuple #[.int .i64 r1, .int .i64 r2]) ∧ Below w.heap.size w w' := by
  have HB := Aside0.mk (Below.refl w.heap.size w)
  have H : ((vernierref08_Cmps.f k a0 a1 0).bind fun bt380 => (if bt380.2 = 0 then ((vernierref08_nar.f k a0 a1).bind fun t382 => (if t382 = true then (some (0, 9)) else (some (bt380.1, 0)))) else (some (0, bt380.2)))) = some (r1, r2) := h
  clear h
  replace H := Option.bind_eq_some_iff.mp H
  obtain ⟨⟨t380, t381⟩, A30, H⟩ := H
  replace H : (if t381 = 0 then ((vernierref08_nar.f k a0 a1).bind fun t382 => (if t382 = true then (some (0, 9)) else (some (t380, 0)))) else (some (0, t381))) = some (r1, r2) := H
  have A3 := Aside0.mk A30
  clear A30
  by_cases c4 : t381 = 0
  · rw [if_pos c4] at H
    have c4b0 : (t381 == 0) = true := beq_iff_eq.mpr c4
    have c4b1 : (t381 != 0) = false := bne_eq_false_iff_eq.mpr c4
    clear c4
    replace H := Option.bind_eq_some_iff.mp H
    obtain ⟨t382, A50, H⟩ := H
    replace H : (if t382 = true then (some (0, 9)) else (some (t380, 0))) = some (r1, r2) := H
    have A5 := Aside0.mk A50
    clear A50
    by_cases c6 : t382 = true
    · subst c6
      have H1 : (some (0, 9)) = some (r1, r2) := by rw [if_pos rfl] at H; exact H
      clear H
      have H := H1
      clear H1
      simp only [Option.some.injEq, Prod.mk.injEq] at H
      obtain ⟨rfl, rfl⟩ := H
      go_enter Try.func40, Try.ntmps40
      go_wp2_with (first | ((with_reducible refine gC (f := 19) rfl ?_); refine goesY_ (some 12) Try.func19 #[.int .i64 a0, .int .u64 a1, .int .u64 0] ?_; (with_reducible refine (vernierref08_Cmps.calls k a0 a1 0 t380 t381 _ A3.out).mono ?_); rintro e w7 ⟨rfl, hb⟩; refine ⟨_, rfl, ?_⟩; have n0_ := Aside0.mk (bS3 HB.out hb); clear HB; have HB := n0_; clear n0_; (try clear hb); (try clear hb2); (try clear hk); (try clear hi)) | ((with_reducible refine gC (f := 69) rfl ?_); refine goesY_ (some 20) Try.func69 #[.int .i64 a0, .int .u64 a1] ?_; (with_reducible refine (vernierref08_nar.calls k a0 a1 true _ A5.out).mono ?_); rintro e w8 ⟨rfl, hb⟩; refine ⟨_, rfl, ?_⟩; have n0_ := Aside0.mk (bS3 HB.out hb); clear HB; have HB := n0_; clear n0_; (try clear hb); (try clear hb2); (try clear hk); (try clear hi)))
      go_ret2
      exact ⟨by first | rfl | (simp [errW_none, errW_some] <;> rfl) | (simp [*, errW_none, errW_some] <;> rfl), by repeat (first | (with_reducible first | exact HB.out | apply pA | apply pN | apply p1) | exact HB.out)⟩
    · replace c6 := Bool.eq_false_iff.mpr c6
      subst c6
      have H1 : (some (t380, 0)) = some (r1, r2) := by rw [if_neg (show ¬ (false = true) by decide)] at H; exact H
      clear H
      have H := H1
      clear H1
      simp only [Option.some.injEq, Prod.mk.injEq] at H
      obtain ⟨rfl, rfl⟩ := H
      go_enter Try.func40, Try.ntmps40
      go_wp2_with (first | ((with_reducible refine gC (f := 19) rfl ?_); refine goesY_ (some 12) Try.func19 #[.int .i64 a0, .int .u64 a1, .int .u64 0] ?_; (with_reducible refine (vernierref08_Cmps.calls k a0 a1 0 t380 t381 _ A3.out).mono ?_); rintro e w9 ⟨rfl, hb⟩; refine ⟨_, rfl, ?_⟩; have n0_ := Aside0.mk (bS3 HB.out hb); clear HB; have HB := n0_; clear n0_; (try clear hb); (try clear hb2); (try clear hk); (try clear hi)) | ((with_reducible refine gC (f := 69) rfl ?_); refine goesY_ (some 20) Try.func69 #[.int .i64 a0, .int .u64 a1] ?_; (with_reducible refine (vernierref08_nar.calls k a0 a1 false _ A5.out).mono ?_); rintro e w10 ⟨rfl, hb⟩; refine ⟨_, rfl, ?_⟩; have n0_ := Aside0.mk (bS3 HB.out hb); clear HB; have HB := n0_; clear n0_; (try clear hb); (try clear hb2); (try clear hk); (try clear hi)))
      go_ret2
      exact ⟨by first | rfl | (simp [errW_none, errW_some] <;> rfl) | (simp [*, errW_none, errW_some] <;> rfl), by repeat (first | (with_reducible first | exact HB.out | apply pA | apply pN | apply p1) | exact HB.out)⟩
  · rw [if_neg c4] at H
    have c4b0 : (t381 == 0) = false := beq_eq_false_iff_ne.mpr c4
    have c4b1 : (t381 != 0) = true := bne_iff_ne.mpr c4
    simp only [Option.some.injEq, Prod.mk.injEq] at H
    obtain ⟨rfl, rfl⟩ := H
    go_enter Try.func40, Try.ntmps40
    go_wp2_with (first | ((with_reducible refine gC (f := 19) rfl ?_); refine goesY_ (some 12) Try.func19 #[.int .i64 a0, .int .u64 a1, .int .u64 0] ?_; (with_reducible refine (vernierref08_Cmps.calls k a0 a1 0 t380 t381 _ A3.out).mono ?_); rintro e w11 ⟨rfl, hb⟩; refine ⟨_, rfl, ?_⟩; have n0_ := Aside0.mk (bS3 HB.out hb); clear HB; have HB := n0_; clear n0_; (try clear hb); (try clear hb2); (try clear hk); (try clear hi)))
    go_ret2
    exact ⟨by first | rfl | (simp [errW_none, errW_some] <;> rfl) | (simp [*, errW_none, errW_some] <;> rfl), by repeat (first | (with_reducible first | exact HB.out | apply pA | apply pN | apply p1) | exact HB.out)⟩

/-! ### vernierref08_Clamp: function 42 -/
def vernierref08_Clamp.j0 : Nat → Int → Int → Int → Int → Int → Bool → Option (Int × Int)
  | 0, _, _, _, _, _, _ => none
  | k + 1, x0, x1, x2, x3, x10, x42 => if x42 = true then (some (0, 9)) else (if x10 > 0 then (some (0, 1)) else ((vernierref08_Max.f k x0 x1 x2).bind fun bt417 => ((vernierref08_Min.f k x0 bt417.1 x3).bind fun bt419 => (some (bt419.1, bt419.2)))))
def vernierref08_Clamp.f (k : Nat) (a0 : Int) (a1 : Int) (a2 : Int) (a3 : Int) : Option (Int × Int) := (vernierref08_Cmps.f k a0 a2 a3).bind fun bt412 => (if bt412.2 = 0 then ((vernierref08_nar.f k a0 a1).bind fun t414 => ((vernierref08_nar.f k a0 a2).bind fun t415 => ((vernierref08_nar.f k a0 a3).bind fun t416 => (if t414 = true then (vernierref08_Clamp.j0 k a0 a1 a2 a3 bt412.1 true) else (if t415 = true then (vernierref08_Clamp.j0 k a0 a1 a2 a3 bt412.1 true) else (vernierref08_Clamp.j0 k a0 a1 a2 a3 bt412.1 t416)))))) else (some (0, bt412.2)))
theorem vernierref08_Clamp.mono_l : ∀ k, (∀ y0 y1 y2 y3 y4 y5, LeO (vernierref08_Clamp.j0 k y0 y1 y2 y3 y4 y5) (vernierref08_Clamp.j0 (k + 1) y0 y1 y2 y3 y4 y5))
  | 0 => fun _ _ _ _ _ _ r h => by simp [vernierref08_Clamp.j0] at h
  | k + 1 => by
    have ih0 := vernierref08_Clamp.mono_l k
    · intro y0 y1 y2 y3 y4 y5
      unfold vernierref08_Clamp.j0
      repeat' first
      | (with_reducible exact ih0 _ _ _ _ _ _)
      | (with_reducible exact vernierref08_Cmps.mono _ _ _ _)
      | (with_reducible exact vernierref08_Max.mono _ _ _ _)
      | (with_reducible exact vernierref08_Min.mono _ _ _ _)
      | (with_reducible exact vernierref08_nar.mono _ _ _)
      | (with_reducible exact LeO.refl _)
      | (with_reducible exact LeO.none _)
      | (with_reducible refine LeO.ite ?_ ?_)
      | (with_reducible refine LeO.bind ?_ (fun _ => ?_))
      | exact ih0 _ _ _ _ _ _
      | exact vernierref08_Cmps.mono _ _ _ _
      | exact vernierref08_Max.mono _ _ _ _
      | exact vernierref08_Min.mono _ _ _ _
      | exact vernierref08_nar.mono _ _ _
      | exact LeO.none _
      | refine LeO.ite ?_ ?_
      | refine LeO.bind ?_ (fun _ => ?_)
theorem vernierref08_Clamp.mono : ∀ a0 a1 a2 a3 k, LeO (vernierref08_Clamp.f k a0 a1 a2 a3) (vernierref08_Clamp.f (k + 1) a0 a1 a2 a3) := by
  intro a0 a1 a2 a3 k
  have ih0 := vernierref08_Clamp.mono_l k
  unfold vernierref08_Clamp.f
  repeat' first
      | (with_reducible exact ih0 _ _ _ _ _ _)
      | (with_reducible exact vernierref08_Cmps.mono _ _ _ _)
      | (with_reducible exact vernierref08_Max.mono _ _ _ _)
      | (with_reducible exact vernierref08_Min.mono _ _ _ _)
      | (with_reducible exact vernierref08_nar.mono _ _ _)
      | (with_reducible exact LeO.refl _)
      | (with_reducible exact LeO.none _)
      | (with_reducible refine LeO.ite ?_ ?_)
      | (with_reducible refine LeO.bind ?_ (fun _ => ?_))
      | exact ih0 _ _ _ _ _ _
      | exact vernierref08_Cmps.mono _ _ _ _
      | exact vernierref08_Max.mono _ _ _ _
      | exact vernierref08_Min.mono _ _ _ _
      | exact vernierref08_nar.mono _ _ _
      | exact LeO.none _
      | refine LeO.ite ?_ ?_
      | refine LeO.bind ?_ (fun _ => ?_)
set_option maxHeartbeats 8000000 in
set_option maxRecDepth 100000 in
theorem vernierref08_Clamp.calls (k : Nat) (a0 : Int) (a1 : Int) (a2 : Int) (a3 : Int) (r1 : Int) (r2 : Int) (w : World) (h : vernierref08_Clamp.f k a0 a1 a2 a3 = some (r1, r2)) :
    Calls Try.prog 42 #[.int .i64 a0, .int .u64 a1, .int .u64 a2, .int .u64 a3] w fun e w' => e = .returned (.tuple #[.int .u64 r1, .int .i64 r2]) ∧ Below w.heap.size w w' := by
  have HB := Aside0.mk (Below.refl w.heap.size w)
  have H : ((vernierref08_Cmps.f k a0 a2 a3).bind fun bt412 => (if bt412.2 = 0 then ((vernierref08_nar.f k a0 a1).bind fun t414 => ((vernierref08_nar.f k a0 a2).bind fun t415 => ((vernierref08_nar.f k a0 a3).bind fun t416 => (if t414 = true then (vernierref08_Clamp.j0 k a0 a1 a2 a3 bt412.1 true) else (if t415 = true then (vernierref08_Clamp.j0 k a0 a1 a2 a3 bt412.1 true) else (vernierref08_Clamp.j0 k a0 a1 a2 a3 bt412.1 t416)))))) else (some (0, bt412.2)))) = some (r1, r2) := h
  clear h
  replace H := Option.bind_eq_some_iff.mp H
  obtain ⟨⟨t412, t413⟩, A50, H⟩ := H
  replace H : (if t413 = 0 then ((vernierref08_nar.f k a0 a1).bind fun t414 => ((vernierref08_nar.f k a0 a2).bind fun t415 => ((vernierref08_nar.f k a0 a3).bind fun t416 => (if t414 = true then (vernierref08_Clamp.j0 k a0 a1 a2 a3 t412 true) else (if t415 = true then (vernierref08_Clamp.j0 k a0 a1 a2 a3 t412 true) else (vernierref08_Clamp.j0 k a0 a1 a2 a3 t412 t416)))))) else (some (0, t413))) = some (r1, r2) := H
  have A5 := Aside0.mk A50
  clear A50
  by_cases c6 : t413 = 0
  · rw [if_pos c6] at H
    have c6b0 : (t413 == 0) = true := beq_iff_eq.mpr c6
    have c6b1 : (t413 != 0) = false := bne_eq_false_iff_eq.mpr c6
    clear c6
    replace H := Option.bind_eq_some_iff.mp H
    obtain ⟨t414, A70, H⟩ := H
    replace H : ((vernierref08_nar.f k a0 a2).bind fun t415 => ((vernierref08_nar.f k a0 a3).bind fun t416 => (if t414 = true then (vernierref08_Clamp.j0 k a0 a1 a2 a3 t412 true) else (if t415 = true then (vernierref08_Clamp.j0 k a0 a1 a2 a3 t412 true) else (vernierref08_Clamp.j0 k a0 a1 a2 a3 t412 t416))))) = some (r1, r2) := H
    have A7 := Aside0.mk A70
    clear A70
    replace H := Option.bind_eq_some_iff.mp H
    obtain ⟨t415, A80, H⟩ := H
    replace H : ((vernierref08_nar.f k a0 a3).bind fun t416 => (if t414 = true then (vernierref08_Clamp.j0 k a0 a1 a2 a3 t412 true) else (if t415 = true then (vernierref08_Clamp.j0 k a0 a1 a2 a3 t412 true) else (vernierref08_Clamp.j0 k a0 a1 a2 a3 t412 t416)))) = some (r1, r2) := H
    have A8 := Aside0.mk A80
    clear A80
    replace H := Option.bind_eq_some_iff.mp H
    obtain ⟨t416, A90, H⟩ := H
    replace H : (if t414 = true then (vernierref08_Clamp.j0 k a0 a1 a2 a3 t412 true) else (if t415 = true then (vernierref08_Clamp.j0 k a0 a1 a2 a3 t412 true) else (vernierref08_Clamp.j0 k a0 a1 a2 a3 t412 t416))) = some (r1, r2) := H
    have A9 := Aside0.mk A90
    clear A90
    have HC10 := Aside0.mk H
    clear H
    go_enter Try.func42, Try.ntmps42
    go_upto_region 7 with (first | ((with_reducible refine gC (f := 19) rfl ?_); refine goesY_ (some 21) Try.func19 #[.int .i64 a0, .int .u64 a2, .int .u64 a3] ?_; (with_reducible refine (vernierref08_Cmps.calls k a0 a2 a3 t412 t413 _ A5.out).mono ?_); rintro e w11 ⟨rfl, hb⟩; refine ⟨_, rfl, ?_⟩; have n0_ := Aside0.mk (bS3 HB.out hb); clear HB; have HB := n0_; clear n0_; (try clear hb); (try clear hb2); (try clear hk); (try clear hi)) | ((with_reducible refine gC (f := 69) rfl ?_); refine goesY_ (some 29) Try.func69 #[.int .i64 a0, .int .u64 a1] ?_; (with_reducible refine (vernierref08_nar.calls k a0 a1 t414 _ A7.out).mono ?_); rintro e w12 ⟨rfl, hb⟩; refine ⟨_, rfl, ?_⟩; have n0_ := Aside0.mk (bS3 HB.out hb); clear HB; have HB := n0_; clear n0_; (try clear hb); (try clear hb2); (try clear hk); (try clear hi)) | ((with_reducible refine gC (f := 69) rfl ?_); refine goesY_ (some 32) Try.func69 #[.int .i64 a0, .int .u64 a2] ?_; (with_reducible refine (vernierref08_nar.calls k a0 a2 t415 _ A8.out).mono ?_); rintro e w13 ⟨rfl, hb⟩; refine ⟨_, rfl, ?_⟩; have n0_ := Aside0.mk (bS3 HB.out hb); clear HB; have HB := n0_; clear n0_; (try clear hb); (try clear hb2); (try clear hk); (try clear hi)) | ((with_reducible refine gC (f := 69) rfl ?_); refine goesY_ (some 35) Try.func69 #[.int .i64 a0, .int .u64 a3] ?_; (with_reducible refine (vernierref08_nar.calls k a0 a3 t416 _ A9.out).mono ?_); rintro e w14 ⟨rfl, hb⟩; refine ⟨_, rfl, ?_⟩; have n0_ := Aside0.mk (bS3 HB.out hb); clear HB; have HB := n0_; clear n0_; (try clear hb); (try clear hb2); (try clear hk); (try clear hi)))
    (try simp only [Act.put, List.setIfInBounds_toArray, List.set_cons_zero, List.set_cons_succ])
    go_cut [42] (fun v42 wc => ∃ (kq : Nat) (x42_9 : Bool), v42 = .bool x42_9 ∧ Aside0 (vernierref08_Clamp.j0 kq a0 a1 a2 a3 t412 x42_9 = some (r1, r2)) ∧ Aside0 (kq ≤ k) ∧ Aside0 (Below w.heap.size w wc))
    case first =>
      have H := HC10.out
      clear HC10
      by_cases c15 : t414 = true
      · subst c15
        have H1 : (vernierref08_Clamp.j0 k a0 a1 a2 a3 t412 true) = some (r1, r2) := by rw [if_pos rfl] at H; exact H
        clear H
        have H := H1
        clear H1
        have H' := Aside0.mk H
        clear H
        go_wp2
        go_meet
        case rel => exact ⟨_, (true), (by first | rfl | (simp; done) | (simp [*]; done)), H', ⟨by first | omega | exact Nat.le_refl _⟩, ⟨by repeat (first | (with_reducible first | exact HB.out | apply pA | apply pN | apply p1) | exact HB.out)⟩⟩
      · replace c15 := Bool.eq_false_iff.mpr c15
        subst c15
        have H1 : (if t415 = true then (vernierref08_Clamp.j0 k a0 a1 a2 a3 t412 true) else (vernierref08_Clamp.j0 k a0 a1 a2 a3 t412 t416)) = some (r1, r2) := by rw [if_neg (show ¬ (false = true) by decide)] at H; exact H
        clear H
        have H := H1
        clear H1
        by_cases c16 : t415 = true
        · subst c16
          have H1 : (vernierref08_Clamp.j0 k a0 a1 a2 a3 t412 true) = some (r1, r2) := by rw [if_pos rfl] at H; exact H
          clear H
          have H := H1
          clear H1
          have H' := Aside0.mk H
          clear H
          go_wp2
          go_meet
          case rel => exact ⟨_, (true), (by first | rfl | (simp; done) | (simp [*]; done)), H', ⟨by first | omega | exact Nat.le_refl _⟩, ⟨by repeat (first | (with_reducible first | exact HB.out | apply pA | apply pN | apply p1) | exact HB.out)⟩⟩
        · replace c16 := Bool.eq_false_iff.mpr c16
          subst c16
          have H1 : (vernierref08_Clamp.j0 k a0 a1 a2 a3 t412 t416) = some (r1, r2) := by rw [if_neg (show ¬ (false = true) by decide)] at H; exact H
          clear H
          have H := H1
          clear H1
          have H' := Aside0.mk H
          clear H
          go_wp2
          go_meet
          case rel => exact ⟨_, (t416), (by first | rfl | (simp; done) | (simp [*]; done)), H', ⟨by first | omega | exact Nat.le_refl _⟩, ⟨by repeat (first | (with_reducible first | exact HB.out | apply pA | apply pN | apply p1) | exact HB.out)⟩⟩
    case rest =>
      clear HC10
      try clear c1
      try clear p2
      try clear c4
      try clear c6
      try clear c6b0
      try clear c6b1
      try clear c15
      try clear c16
      obtain ⟨kq, x42_9, rfl, HA, HJ9, HB⟩ := hcut
      cases kq with
      | zero => exact absurd HA.out (by simp [vernierref08_Clamp.j0])
      | succ kj9 =>
        have H := HA.out
        clear HA
        simp only [vernierref08_Clamp.j0] at H
        by_cases c17 : x42_9 = true
        · subst c17
          have H1 : (some (0, 9)) = some (r1, r2) := by rw [if_pos rfl] at H; exact H
          clear H
          have H := H1
          clear H1
          simp only [Option.some.injEq, Prod.mk.injEq] at H
          obtain ⟨rfl, rfl⟩ := H
          go_wp2
          go_ret2
          exact ⟨by first | rfl | (simp [errW_none, errW_some] <;> rfl) | (simp [*, errW_none, errW_some] <;> rfl), by repeat (first | (with_reducible first | exact HB.out | apply pA | apply pN | apply p1) | exact HB.out)⟩
        · replace c17 := Bool.eq_false_iff.mpr c17
          subst c17
          have H1 : (if t412 > 0 then (some (0, 1)) else ((vernierref08_Max.f kj9 a0 a1 a2).bind fun bt417 => ((vernierref08_Min.f kj9 a0 bt417.1 a3).bind fun bt419 => (some (bt419.1, bt419.2))))) = some (r1, r2) := by rw [if_neg (show ¬ (false = true) by decide)] at H; exact H
          clear H
          have H := H1
          clear H1
          by_cases c18 : t412 > 0
          · rw [if_pos c18] at H
            have c18b0 : decide (0 < t412) = true := decide_eq_true c18
            clear c18
            simp only [Option.some.injEq, Prod.mk.injEq] at H
            obtain ⟨rfl, rfl⟩ := H
            go_wp2
            go_ret2
            exact ⟨by first | rfl | (simp [errW_none, errW_some] <;> rfl) | (simp [*, errW_none, errW_some] <;> rfl), by repeat (first | (with_reducible first | exact HB.out | apply pA | apply pN | apply p1) | exact HB.out)⟩
          · rw [if_neg c18] at H
            have c18b0 : decide (0 < t412) = false := decide_eq_false c18
            clear c18
            replace H := Option.bind_eq_some_iff.mp H
            obtain ⟨⟨t417, t418⟩, A190, H⟩ := H
            replace H : ((vernierref08_Min.f kj9 a0 t417 a3).bind fun bt419 => (some (bt419.1, bt419.2))) = some (r1, r2) := H
            have A19 := Aside0.mk A190
            clear A190
            replace H := Option.bind_eq_some_iff.mp H
            obtain ⟨⟨t419, t420⟩, A200, H⟩ := H
            replace H : (some (t419, t420)) = some (r1, r2) := H
            have A20 := Aside0.mk A200
            clear A200
            simp only [Option.some.injEq, Prod.mk.injEq] at H
            obtain ⟨rfl, rfl⟩ := H
            go_wp2_with (first | ((with_reducible refine gC (f := 35) rfl ?_); refine goesY_ (some 49) Try.func35 #[.int .i64 a0, .int .u64 a1, .int .u64 a2] ?_; (with_reducible refine (vernierref08_Max.calls kj9 a0 a1 a2 t417 t418 _ A19.out).mono ?_); rintro e w21 ⟨rfl, hb⟩; refine ⟨_, rfl, ?_⟩; have n0_ := Aside0.mk (bS3 HB.out hb); clear HB; have HB := n0_; clear n0_; (try clear hb); (try clear hb2); (try clear hk); (try clear hi)) | ((with_reducible refine gC (f := 34) rfl ?_); refine goesY_ (some 55) Try.func34 #[.int .i64 a0, .int .u64 t417, .int .u64 a3] ?_; (with_reducible refine (vernierref08_Min.calls kj9 a0 t417 a3 t419 t420 _ A20.out).mono ?_); rintro e w22 ⟨rfl, hb⟩; refine ⟨_, rfl, ?_⟩; have n0_ := Aside0.mk (bS3 HB.out hb); clear HB; have HB := n0_; clear n0_; (try clear hb); (try clear hb2); (try clear hk); (try clear hi)))
            go_ret2
            exact ⟨by first | rfl | (simp [errW_none, errW_some] <;> rfl) | (simp [*, errW_none, errW_some] <;> rfl), by repeat (first | (with_reducible first | exact HB.out | apply pA | apply pN | apply p1) | exact HB.out)⟩
  · rw [if_neg c6] at H
    have c6b0 : (t413 == 0) = false := beq_eq_false_iff_ne.mpr c6
    have c6b1 : (t413 != 0) = true := bne_iff_ne.mpr c6
    simp only [Option.some.injEq, Prod.mk.injEq] at H
    obtain ⟨rfl, rfl⟩ := H
    go_enter Try.func42, Try.ntmps42
    go_wp2_with (first | ((with_reducible refine gC (f := 19) rfl ?_); refine goesY_ (some 21) Try.func19 #[.int .i64 a0, .int .u64 a2, .int .u64 a3] ?_; (with_reducible refine (vernierref08_Cmps.calls k a0 a2 a3 t412 t413 _ A5.out).mono ?_); rintro e w23 ⟨rfl, hb⟩; refine ⟨_, rfl, ?_⟩; have n0_ := Aside0.mk (bS3 HB.out hb); clear HB; have HB := n0_; clear n0_; (try clear hb); (try clear hb2); (try clear hk); (try clear hi)))
    go_ret2
    exact ⟨by first | rfl | (simp [errW_none, errW_some] <;> rfl) | (simp [*, errW_none, errW_some] <;> rfl), by repeat (first | (with_reducible first | exact HB.out | apply pA | apply pN | apply p1) | exact HB.out)⟩

end Go.Proofs.Yteekhbmffdmgjaa.F
