/- Functions of the given program as plain Lean functions, and for each a proof that the program's call comes to just these answers; no further conditions. (Written by a program of this repo out of the translation.) -/
import Derived.Test.YteekhbmffdmgjaaF0
import Derived.Test.YteekhbmffdmgjaaF6
import Derived.Test.YteekhbmffdmgjaaF7
import Derived.Test.YteekhbmffdmgjaaF10
import Derived.Test.YteekhbmffdmgjaaF11
namespace Go.Proofs.Yteekhbmffdmgjaa.F
open Go.RowKit Go.Proofs.YteekhbmffdmgjaaW.PrintWords Go.Proofs.YteekhbmffdmgjaaW.PrintLast Go.Proofs.YteekhbmffdmgjaaW.PrintMore
attribute [local go_sem high] xor_u64 xor_u32 eqErr25 neErr25 eqErrL25 neErrL25
attribute [local go_sem] max2_int min2_int max_two min_two max_three min_three max_four min_four   -- for this text's walks alone
set_option linter.unusedVariables false
set_option linter.unusedSimpArgs false

/-! ### vernierlaw08_OrderPicks: function 7 -/
def vernierlaw08_OrderPicks.f (k : Nat) (a0 : Int) (a1 : Int) (a2 : Int) : Option (Bool) := (vernierlaw08_up.f).bind fun t346 => ((order_Min.f a0 a1 a2).bind fun bt347 => ((order_Max.f a0 a1 a2).bind fun bt349 => ((vernierref08_Min.f k a0 a1 a2).bind fun bt351 => ((vernierref08_Max.f k a0 a1 a2).bind fun bt353 => (if t346 = true then (if bt347.1 = bt351.1 then (if bt349.1 = bt353.1 then ((vernierlaw00_Code.f bt347.2).bind fun t355 => (if t355 = bt351.2 then ((vernierlaw00_Code.f bt349.2).bind fun t356 => (some (t356 == bt353.2))) else (some false))) else (some false)) else (some false)) else (some false))))))
theorem vernierlaw08_OrderPicks.mono : ∀ a0 a1 a2 k, LeO (vernierlaw08_OrderPicks.f k a0 a1 a2) (vernierlaw08_OrderPicks.f (k + 1) a0 a1 a2) := by
  intro a0 a1 a2 k
  unfold vernierlaw08_OrderPicks.f
  repeat' first
      | (with_reducible exact vernierref08_Max.mono _ _ _ _)
      | (with_reducible exact vernierref08_Min.mono _ _ _ _)
      | (with_reducible exact LeO.refl _)
      | (with_reducible exact LeO.none _)
      | (with_reducible refine LeO.ite ?_ ?_)
      | (with_reducible refine LeO.bind ?_ (fun _ => ?_))
      | exact vernierref08_Max.mono _ _ _ _
      | exact vernierref08_Min.mono _ _ _ _
      | exact LeO.none _
      | refine LeO.ite ?_ ?_
      | refine LeO.bind ?_ (fun _ => ?_)
set_option maxHeartbeats 8000000 in
set_option maxRecDepth 100000 in
theorem vernierlaw08_OrderPicks.calls (k : Nat) (a0 : Int) (a1 : Int) (a2 : Int) (r : Bool) (w : World) (h : vernierlaw08_OrderPicks.f k a0 a1 a2 = some r) :
    Calls Try.prog 7 #[.int .i64 a0, .int .u64 a1, .int .u64 a2] w fun e w' => e = .returned (.bool r) ∧ Below w.heap.size w w' := by
  have HB := Aside0.mk (Below.refl w.heap.size w)
  have H : ((vernierlaw08_up.f).bind fun t346 => ((order_Min.f a0 a1 a2).bind fun bt347 => ((order_Max.f a0 a1 a2).bind fun bt349 => ((vernierref08_Min.f k a0 a1 a2).bind fun bt351 => ((vernierref08_Max.f k a0 a1 a2).bind fun bt353 => (if t346 = true then (if bt347.1 = bt351.1 then (if bt349.1 = bt353.1 then ((vernierlaw00_Code.f bt347.2).bind fun t355 => (if t355 = bt351.2 then ((vernierlaw00_Code.f bt349.2).bind fun t356 => (some (t356 == bt353.2))) else (some false))) else (some false)) else (some false)) else (some false))))))) = some r := h
  clear h
  replace H := Option.bind_eq_some_iff.mp H
  obtain ⟨t346, A40, H⟩ := H
  replace H : ((order_Min.f a0 a1 a2).bind fun bt347 => ((order_Max.f a0 a1 a2).bind fun bt349 => ((vernierref08_Min.f k a0 a1 a2).bind fun bt351 => ((vernierref08_Max.f k a0 a1 a2).bind fun bt353 => (if t346 = true then (if bt347.1 = bt351.1 then (if bt349.1 = bt353.1 then ((vernierlaw00_Code.f bt347.2).bind fun t355 => (if t355 = bt351.2 then ((vernierlaw00_Code.f bt349.2).bind fun t356 => (some (t356 == bt353.2))) else (some false))) else (some false)) else (some false)) else (some false)))))) = some r := H
  have A4 := Aside0.mk A40
  clear A40
  replace H := Option.bind_eq_some_iff.mp H
  obtain ⟨⟨t347, t348⟩, A50, H⟩ := H
  replace H : ((order_Max.f a0 a1 a2).bind fun bt349 => ((vernierref08_Min.f k a0 a1 a2).bind fun bt351 => ((vernierref08_Max.f k a0 a1 a2).bind fun bt353 => (if t346 = true then (if t347 = bt351.1 then (if bt349.1 = bt353.1 then ((vernierlaw00_Code.f t348).bind fun t355 => (if t355 = bt351.2 then ((vernierlaw00_Code.f bt349.2).bind fun t356 => (some (t356 == bt353.2))) else (some false))) else (some false)) else (some false)) else (some false))))) = some r := H
  have A5 := Aside0.mk A50
  clear A50
  replace H := Option.bind_eq_some_iff.mp H
  obtain ⟨⟨t349, t350⟩, A60, H⟩ := H
  replace H : ((vernierref08_Min.f k a0 a1 a2).bind fun bt351 => ((vernierref08_Max.f k a0 a1 a2).bind fun bt353 => (if t346 = true then (if t347 = bt351.1 then (if t349 = bt353.1 then ((vernierlaw00_Code.f t348).bind fun t355 => (if t355 = bt351.2 then ((vernierlaw00_Code.f t350).bind fun t356 => (some (t356 == bt353.2))) else (some false))) else (some false)) else (some false)) else (some false)))) = some r := H
  have A6 := Aside0.mk A60
  clear A60
  replace H := Option.bind_eq_some_iff.mp H
  obtain ⟨⟨t351, t352⟩, A70, H⟩ := H
  replace H : ((vernierref08_Max.f k a0 a1 a2).bind fun bt353 => (if t346 = true then (if t347 = t351 then (if t349 = bt353.1 then ((vernierlaw00_Code.f t348).bind fun t355 => (if t355 = t352 then ((vernierlaw00_Code.f t350).bind fun t356 => (some (t356 == bt353.2))) else (some false))) else (some false)) else (some false)) else (some false))) = some r := H
  have A7 := Aside0.mk A70
  clear A70
  replace H := Option.bind_eq_some_iff.mp H
  obtain ⟨⟨t353, t354⟩, A80, H⟩ := H
  replace H : (if t346 = true then (if t347 = t351 then (if t349 = t353 then ((vernierlaw00_Code.f t348).bind fun t355 => (if t355 = t352 then ((vernierlaw00_Code.f t350).bind fun t356 => (some (t356 == t354))) else (some false))) else (some false)) else (some false)) else (some false)) = some r := H
  have A8 := Aside0.mk A80
  clear A80
  by_cases c9 : t346 = true
  · subst c9
    have H1 : (if t347 = t351 then (if t349 = t353 then ((vernierlaw00_Code.f t348).bind fun t355 => (if t355 = t352 then ((vernierlaw00_Code.f t350).bind fun t356 => (some (t356 == t354))) else (some false))) else (some false)) else (some false)) = some r := by rw [if_pos rfl] at H; exact H
    clear H
    have H := H1
    clear H1
    by_cases c10 : t347 = t351
    · rw [if_pos c10] at H
      have c10b0 : (t347 == t351) = true := beq_iff_eq.mpr c10
      have c10b1 : (t347 != t351) = false := bne_eq_false_iff_eq.mpr c10
      clear c10
      by_cases c11 : t349 = t353
      · rw [if_pos c11] at H
        have c11b0 : (t349 == t353) = true := beq_iff_eq.mpr c11
        have c11b1 : (t349 != t353) = false := bne_eq_false_iff_eq.mpr c11
        clear c11
        replace H := Option.bind_eq_some_iff.mp H
        obtain ⟨t355, A120, H⟩ := H
        replace H : (if t355 = t352 then ((vernierlaw00_Code.f t350).bind fun t356 => (some (t356 == t354))) else (some false)) = some r := H
        have A12 := Aside0.mk A120
        clear A120
        by_cases c13 : t355 = t352
        · rw [if_pos c13] at H
          have c13b0 : (t355 == t352) = true := beq_iff_eq.mpr c13
          have c13b1 : (t355 != t352) = false := bne_eq_false_iff_eq.mpr c13
          clear c13
          replace H := Option.bind_eq_some_iff.mp H
          obtain ⟨t356, A140, H⟩ := H
          replace H : (some (t356 == t354)) = some r := H
          have A14 := Aside0.mk A140
          clear A140
          obtain rfl := Option.some.inj H
          go_enter Try.func7, Try.ntmps7
          go_wp2_with (first | ((with_reducible refine gC (f := 17) rfl ?_); refine goesY_ (some 16) Try.func17 #[] ?_; (with_reducible refine (vernierlaw08_up.calls  true _ A4.out).mono ?_); rintro e w15 ⟨rfl, hb⟩; refine ⟨_, rfl, ?_⟩; have n0_ := Aside0.mk (bS3 HB.out hb); clear HB; have HB := n0_; clear n0_; (try clear hb); (try clear hb2); (try clear hk); (try clear hi)) | ((with_reducible refine gC (f := 32) rfl ?_); refine goesY_ (some 21) Try.func32 #[.int .i64 a0, .int .u64 a1, .int .u64 a2] ?_; (with_reducible refine (order_Min.calls a0 a1 a2 t347 t348 _ A5.out).mono ?_); rintro e w' ⟨rfl, ⟨nd, rfl⟩⟩; refine ⟨_, rfl, ?_⟩; (try simp only [errW_none, errW_some])) | ((with_reducible refine gC (f := 33) rfl ?_); refine goesY_ (some 28) Try.func33 #[.int .i64 a0, .int .u64 a1, .int .u64 a2] ?_; (with_reducible refine (order_Max.calls a0 a1 a2 t349 t350 _ A6.out).mono ?_); rintro e w' ⟨rfl, ⟨nd, rfl⟩⟩; refine ⟨_, rfl, ?_⟩; (try simp only [errW_none, errW_some])) | ((with_reducible refine gC (f := 34) rfl ?_); refine goesY_ (some 35) Try.func34 #[.int .i64 a0, .int .u64 a1, .int .u64 a2] ?_; (with_reducible refine (vernierref08_Min.calls k a0 a1 a2 t351 t352 _ A7.out).mono ?_); rintro e w16 ⟨rfl, hb⟩; refine ⟨_, rfl, ?_⟩; have n0_ := Aside0.mk (bS3 HB.out hb); clear HB; have HB := n0_; clear n0_; (try clear hb); (try clear hb2); (try clear hk); (try clear hi)) | ((with_reducible refine gC (f := 35) rfl ?_); refine goesY_ (some 42) Try.func35 #[.int .i64 a0, .int .u64 a1, .int .u64 a2] ?_; (with_reducible refine (vernierref08_Max.calls k a0 a1 a2 t353 t354 _ A8.out).mono ?_); rintro e w17 ⟨rfl, hb⟩; refine ⟨_, rfl, ?_⟩; have n0_ := Aside0.mk (bS3 HB.out hb); clear HB; have HB := n0_; clear n0_; (try clear hb); (try clear hb2); (try clear hk); (try clear hi); have CA12 := fun W => vernierlaw00_Code.calls t348 t355 W A12.out; try simp only [errW_none, errW_some] at CA12) | (go_at_call 20; (with_reducible refine (CA12 _).mono ?_); rintro e w' ⟨rfl, ⟨nd, rfl⟩⟩; have CA14 := fun W => vernierlaw00_Code.calls t350 t356 W A14.out; try simp only [errW_none, errW_some] at CA14) | (go_at_call 20; (with_reducible refine (CA14 _).mono ?_); rintro e w' ⟨rfl, ⟨nd, rfl⟩⟩))
          go_ret
          exact ⟨by first | rfl | (simp [errW_none, errW_some] <;> rfl) | (simp [*, errW_none, errW_some] <;> rfl), by repeat (first | (with_reducible first | exact HB.out | apply pA | apply pN | apply p1) | exact HB.out)⟩
        · rw [if_neg c13] at H
          have c13b0 : (t355 == t352) = false := beq_eq_false_iff_ne.mpr c13
          have c13b1 : (t355 != t352) = true := bne_iff_ne.mpr c13
          obtain rfl := Option.some.inj H
          go_enter Try.func7, Try.ntmps7
          go_wp2_with (first | ((with_reducible refine gC (f := 17) rfl ?_); refine goesY_ (some 16) Try.func17 #[] ?_; (with_reducible refine (vernierlaw08_up.calls  true _ A4.out).mono ?_); rintro e w18 ⟨rfl, hb⟩; refine ⟨_, rfl, ?_⟩; have n0_ := Aside0.mk (bS3 HB.out hb); clear HB; have HB := n0_; clear n0_; (try clear hb); (try clear hb2); (try clear hk); (try clear hi)) | ((with_reducible refine gC (f := 32) rfl ?_); refine goesY_ (some 21) Try.func32 #[.int .i64 a0, .int .u64 a1, .int .u64 a2] ?_; (with_reducible refine (order_Min.calls a0 a1 a2 t347 t348 _ A5.out).mono ?_); rintro e w' ⟨rfl, ⟨nd, rfl⟩⟩; refine ⟨_, rfl, ?_⟩; (try simp only [errW_none, errW_some])) | ((with_reducible refine gC (f := 33) rfl ?_); refine goesY_ (some 28) Try.func33 #[.int .i64 a0, .int .u64 a1, .int .u64 a2] ?_; (with_reducible refine (order_Max.calls a0 a1 a2 t349 t350 _ A6.out).mono ?_); rintro e w' ⟨rfl, ⟨nd, rfl⟩⟩; refine ⟨_, rfl, ?_⟩; (try simp only [errW_none, errW_some])) | ((with_reducible refine gC (f := 34) rfl ?_); refine goesY_ (some 35) Try.func34 #[.int .i64 a0, .int .u64 a1, .int .u64 a2] ?_; (with_reducible refine (vernierref08_Min.calls k a0 a1 a2 t351 t352 _ A7.out).mono ?_); rintro e w19 ⟨rfl, hb⟩; refine ⟨_, rfl, ?_⟩; have n0_ := Aside0.mk (bS3 HB.out hb); clear HB; have HB := n0_; clear n0_; (try clear hb); (try clear hb2); (try clear hk); (try clear hi)) | ((with_reducible refine gC (f := 35) rfl ?_); refine goesY_ (some 42) Try.func35 #[.int .i64 a0, .int .u64 a1, .int .u64 a2] ?_; (with_reducible refine (vernierref08_Max.calls k a0 a1 a2 t353 t354 _ A8.out).mono ?_); rintro e w20 ⟨rfl, hb⟩; refine ⟨_, rfl, ?_⟩; have n0_ := Aside0.mk (bS3 HB.out hb); clear HB; have HB := n0_; clear n0_; (try clear hb); (try clear hb2); (try clear hk); (try clear hi); have CA12 := fun W => vernierlaw00_Code.calls t348 t355 W A12.out; try simp only [errW_none, errW_some] at CA12) | (go_at_call 20; (with_reducible refine (CA12 _).mono ?_); rintro e w' ⟨rfl, ⟨nd, rfl⟩⟩))
          go_ret
          exact ⟨by first | rfl | (simp [errW_none, errW_some] <;> rfl) | (simp [*, errW_none, errW_some] <;> rfl), by repeat (first | (with_reducible first | exact HB.out | apply pA | apply pN | apply p1) | exact HB.out)⟩
      · rw [if_neg c11] at H
        have c11b0 : (t349 == t353) = false := beq_eq_false_iff_ne.mpr c11
        have c11b1 : (t349 != t353) = true := bne_iff_ne.mpr c11
        obtain rfl := Option.some.inj H
        go_enter Try.func7, Try.ntmps7
        go_wp2_with (first | ((with_reducible refine gC (f := 17) rfl ?_); refine goesY_ (some 16) Try.func17 #[] ?_; (with_reducible refine (vernierlaw08_up.calls  true _ A4.out).mono ?_); rintro e w21 ⟨rfl, hb⟩; refine ⟨_, rfl, ?_⟩; have n0_ := Aside0.mk (bS3 HB.out hb); clear HB; have HB := n0_; clear n0_; (try clear hb); (try clear hb2); (try clear hk); (try clear hi)) | ((with_reducible refine gC (f := 32) rfl ?_); refine goesY_ (some 21) Try.func32 #[.int .i64 a0, .int .u64 a1, .int .u64 a2] ?_; (with_reducible refine (order_Min.calls a0 a1 a2 t347 t348 _ A5.out).mono ?_); rintro e w' ⟨rfl, ⟨nd, rfl⟩⟩; refine ⟨_, rfl, ?_⟩; (try simp only [errW_none, errW_some])) | ((with_reducible refine gC (f := 33) rfl ?_); refine goesY_ (some 28) Try.func33 #[.int .i64 a0, .int .u64 a1, .int .u64 a2] ?_; (with_reducible refine (order_Max.calls a0 a1 a2 t349 t350 _ A6.out).mono ?_); rintro e w' ⟨rfl, ⟨nd, rfl⟩⟩; refine ⟨_, rfl, ?_⟩; (try simp only [errW_none, errW_some])) | ((with_reducible refine gC (f := 34) rfl ?_); refine goesY_ (some 35) Try.func34 #[.int .i64 a0, .int .u64 a1, .int .u64 a2] ?_; (with_reducible refine (vernierref08_Min.calls k a0 a1 a2 t351 t352 _ A7.out).mono ?_); rintro e w22 ⟨rfl, hb⟩; refine ⟨_, rfl, ?_⟩; have n0_ := Aside0.mk (bS3 HB.out hb); clear HB; have HB := n0_; clear n0_; (try clear hb); (try clear hb2); (try clear hk); (try clear hi)) | ((with_reducible refine gC (f := 35) rfl ?_); refine goesY_ (some 42) Try.func35 #[.int .i64 a0, .int .u64 a1, .int .u64 a2] ?_; (with_reducible refine (vernierref08_Max.calls k a0 a1 a2 t353 t354 _ A8.out).mono ?_); rintro e w23 ⟨rfl, hb⟩; refine ⟨_, rfl, ?_⟩; have n0_ := Aside0.mk (bS3 HB.out hb); clear HB; have HB := n0_; clear n0_; (try clear hb); (try clear hb2); (try clear hk); (try clear hi)))
        go_ret
        exact ⟨by first | rfl | (simp [errW_none, errW_some] <;> rfl) | (simp [*, errW_none, errW_some] <;> rfl), by repeat (first | (with_reducible first | exact HB.out | apply pA | apply pN | apply p1) | exact HB.out)⟩
    · rw [if_neg c10] at H
      have c10b0 : (t347 == t351) = false := beq_eq_false_iff_ne.mpr c10
      have c10b1 : (t347 != t351) = true := bne_iff_ne.mpr c10
      obtain rfl := Option.some.inj H
      go_enter Try.func7, Try.ntmps7
      go_wp2_with (first | ((with_reducible refine gC (f := 17) rfl ?_); refine goesY_ (some 16) Try.func17 #[] ?_; (with_reducible refine (vernierlaw08_up.calls  true _ A4.out).mono ?_); rintro e w24 ⟨rfl, hb⟩; refine ⟨_, rfl, ?_⟩; have n0_ := Aside0.mk (bS3 HB.out hb); clear HB; have HB := n0_; clear n0_; (try clear hb); (try clear hb2); (try clear hk); (try clear hi)) | ((with_reducible refine gC (f := 32) rfl ?_); refine goesY_ (some 21) Try.func32 #[.int .i64 a0, .int .u64 a1, .int .u64 a2] ?_; (with_reducible refine (order_Min.calls a0 a1 a2 t347 t348 _ A5.out).mono ?_); rintro e w' ⟨rfl, ⟨nd, rfl⟩⟩; refine ⟨_, rfl, ?_⟩; (try simp only [errW_none, errW_some])) | ((with_reducible refine gC (f := 33) rfl ?_); refine goesY_ (some 28) Try.func33 #[.int .i64 a0, .int .u64 a1, .int .u64 a2] ?_; (with_reducible refine (order_Max.calls a0 a1 a2 t349 t350 _ A6.out).mono ?_); rintro e w' ⟨rfl, ⟨nd, rfl⟩⟩; refine ⟨_, rfl, ?_⟩; (try simp only [errW_none, errW_some])) | ((with_reducible refine gC (f := 34) rfl ?_); refine goesY_ (some 35) Try.func34 #[.int .i64 a0, .int .u64 a1, .int .u64 a2] ?_; (with_reducible refine (vernierref08_Min.calls k a0 a1 a2 t351 t352 _ A7.out).mono ?_); rintro e w25 ⟨rfl, hb⟩; refine ⟨_, rfl, ?_⟩; have n0_ := Aside0.mk (bS3 HB.out hb); clear HB; have HB := n0_; clear n0_; (try clear hb); (try clear hb2); (try clear hk); (try clear hi)) | ((with_reducible refine gC (f := 35) rfl ?_); refine goesY_ (some 42) Try.func35 #[.int .i64 a0, .int .u64 a1, .int .u64 a2] ?_; (with_reducible refine (vernierref08_Max.calls k a0 a1 a2 t353 t354 _ A8.out).mono ?_); rintro e w26 ⟨rfl, hb⟩; refine ⟨_, rfl, ?_⟩; have n0_ := Aside0.mk (bS3 HB.out hb); clear HB; have HB := n0_; clear n0_; (try clear hb); (try clear hb2); (try clear hk); (try clear hi)))
      go_ret
      exact ⟨by first | rfl | (simp [errW_none, errW_some] <;> rfl) | (simp [*, errW_none, errW_some] <;> rfl), by repeat (first | (with_reducible first | exact HB.out | apply pA | apply pN | apply p1) | exact HB.out)⟩
  · replace c9 := Bool.eq_false_iff.mpr c9
    subst c9
    have H1 : (some false) = some r := by rw [if_neg (show ¬ (false = true) by decide)] at H; exact H
    clear H
    have H := H1
    clear H1
    obtain rfl := Option.some.inj H
    go_enter Try.func7, Try.ntmps7
    go_wp2_with (first | ((with_reducible refine gC (f := 17) rfl ?_); refine goesY_ (some 16) Try.func17 #[] ?_; (with_reducible refine (vernierlaw08_up.calls  false _ A4.out).mono ?_); rintro e w27 ⟨rfl, hb⟩; refine ⟨_, rfl, ?_⟩; have n0_ := Aside0.mk (bS3 HB.out hb); clear HB; have HB := n0_; clear n0_; (try clear hb); (try clear hb2); (try clear hk); (try clear hi)) | ((with_reducible refine gC (f := 32) rfl ?_); refine goesY_ (some 21) Try.func32 #[.int .i64 a0, .int .u64 a1, .int .u64 a2] ?_; (with_reducible refine (order_Min.calls a0 a1 a2 t347 t348 _ A5.out).mono ?_); rintro e w' ⟨rfl, ⟨nd, rfl⟩⟩; refine ⟨_, rfl, ?_⟩; (try simp only [errW_none, errW_some])) | ((with_reducible refine gC (f := 33) rfl ?_); refine goesY_ (some 28) Try.func33 #[.int .i64 a0, .int .u64 a1, .int .u64 a2] ?_; (with_reducible refine (order_Max.calls a0 a1 a2 t349 t350 _ A6.out).mono ?_); rintro e w' ⟨rfl, ⟨nd, rfl⟩⟩; refine ⟨_, rfl, ?_⟩; (try simp only [errW_none, errW_some])) | ((with_reducible refine gC (f := 34) rfl ?_); refine goesY_ (some 35) Try.func34 #[.int .i64 a0, .int .u64 a1, .int .u64 a2] ?_; (with_reducible refine (vernierref08_Min.calls k a0 a1 a2 t351 t352 _ A7.out).mono ?_); rintro e w28 ⟨rfl, hb⟩; refine ⟨_, rfl, ?_⟩; have n0_ := Aside0.mk (bS3 HB.out hb); clear HB; have HB := n0_; clear n0_; (try clear hb); (try clear hb2); (try clear hk); (try clear hi)) | ((with_reducible refine gC (f := 35) rfl ?_); refine goesY_ (some 42) Try.func35 #[.int .i64 a0, .int .u64 a1, .int .u64 a2] ?_; (with_reducible refine (vernierref08_Max.calls k a0 a1 a2 t353 t354 _ A8.out).mono ?_); rintro e w29 ⟨rfl, hb⟩; refine ⟨_, rfl, ?_⟩; have n0_ := Aside0.mk (bS3 HB.out hb); clear HB; have HB := n0_; clear n0_; (try clear hb); (try clear hb2); (try clear hk); (try clear hi)))
    go_ret
    exact ⟨by first | rfl | (simp [errW_none, errW_some] <;> rfl) | (simp [*, errW_none, errW_some] <;> rfl), by repeat (first | (with_reducible first | exact HB.out | apply pA | apply pN | apply p1) | exact HB.out)⟩

/-- THE ONE PURE STATEMENT of vernierlaw08_OrderPicks: yours. -/
def vernierlaw08_OrderPicks.Pure : Prop := ∀ (a0 : Int) (a1 : Int) (a2 : Int), (Lit.int .i64 a0).wf = true → (Lit.int .u64 a1).wf = true → (Lit.int .u64 a2).wf = true → ∃ k, vernierlaw08_OrderPicks.f k a0 a1 a2 = some true
theorem vernierlaw08_OrderPicks.walk (P : vernierlaw08_OrderPicks.Pure) (a0 : Int) (a1 : Int) (a2 : Int) (w : World) (w0 : (Lit.int .i64 a0).wf = true) (w1 : (Lit.int .u64 a1).wf = true) (w2 : (Lit.int .u64 a2).wf = true) :
    Calls Try.prog 7 #[.int .i64 a0, .int .u64 a1, .int .u64 a2] w fun e w' => e = .returned (.bool true) ∧ Below w.heap.size w w' := by
  obtain ⟨k, h⟩ := P a0 a1 a2 w0 w1 w2
  refine (vernierlaw08_OrderPicks.calls k a0 a1 a2 true w h).mono ?_
  rintro e w' ⟨rfl, hd⟩
  exact ⟨rfl, hd⟩

end Go.Proofs.Yteekhbmffdmgjaa.F
