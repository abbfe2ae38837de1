/- Functions of the given program as plain Lean functions, and for each a proof that the program's call comes to just these answers; no further conditions. (Written by a program of this repo out of the translation.) -/
import Derived.Test.YteekhbmffdmgjaaF0
import Derived.Test.YteekhbmffdmgjaaF6
import Derived.Test.YteekhbmffdmgjaaF7
import Derived.Test.YteekhbmffdmgjaaF10
import Derived.Test.YteekhbmffdmgjaaF11
namespace Go.Proofs.Yteekhbmffdmgjaa.F
open Go.RowKit Go.Proofs.YteekhbmffdmgjaaW.PrintWords Go.Proofs.YteekhbmffdmgjaaW.PrintLast Go.Proofs.YteekhbmffdmgjaaW.PrintMore
attribute [local go_sem high] xor_u64 xor_u32 eqErr25 neErr25 eqErrL25 neErrL25
attribute [local go_sem] max2_int min2_int max_two min_two max_three min_three max_four min_four   -- for this text's walks alone
set_option linter.unusedVariables false
set_option linter.unusedSimpArgs false

/-! ### vernierlaw08_OrderSigns: function 8 -/
def vernierlaw08_OrderSigns.f (k : Nat) (a0 : Int) (a1 : Int) : Option (Bool) := (vernierlaw08_up.f).bind fun t383 => ((order_Neg.f a0 a1).bind fun bt384 => ((order_Abs.f a0 a1).bind fun bt386 => ((order_Sign.f a0 a1).bind fun bt388 => ((vernierref08_Neg.f k a0 a1).bind fun bt390 => ((vernierref08_Abs.f k a0 a1).bind fun bt392 => ((vernierref08_Sign.f k a0 a1).bind fun bt394 => (if t383 = true then (if bt384.1 = bt390.1 then (if bt386.1 = bt392.1 then (if bt388.1 = bt394.1 then ((vernierlaw00_Code.f bt384.2).bind fun t396 => (if t396 = bt390.2 then ((vernierlaw00_Code.f bt386.2).bind fun t397 => (if t397 = bt392.2 then ((vernierlaw00_Code.f bt388.2).bind fun t398 => (some (t398 == bt394.2))) else (some false))) else (some false))) else (some false)) else (some false)) else (some false)) else (some false))))))))
theorem vernierlaw08_OrderSigns.mono : ∀ a0 a1 k, LeO (vernierlaw08_OrderSigns.f k a0 a1) (vernierlaw08_OrderSigns.f (k + 1) a0 a1) := by
  intro a0 a1 k
  unfold vernierlaw08_OrderSigns.f
  repeat' first
      | (with_reducible exact vernierref08_Abs.mono _ _ _)
      | (with_reducible exact vernierref08_Neg.mono _ _ _)
      | (with_reducible exact vernierref08_Sign.mono _ _ _)
      | (with_reducible exact LeO.refl _)
      | (with_reducible exact LeO.none _)
      | (with_reducible refine LeO.ite ?_ ?_)
      | (with_reducible refine LeO.bind ?_ (fun _ => ?_))
      | exact vernierref08_Abs.mono _ _ _
      | exact vernierref08_Neg.mono _ _ _
      | exact vernierref08_Sign.mono _ _ _
      | exact LeO.none _
      | refine LeO.ite ?_ ?_
      | refine LeO.bind ?_ (fun _ => ?_)
set_option maxHeartbeats 8000000 in
set_option maxRecDepth 100000 in
theorem vernierlaw08_OrderSigns.calls (k : Nat) (a0 : Int) (a1 : Int) (r : Bool) (w : World) (h : vernierlaw08_OrderSigns.f k a0 a1 = some r) :
    Calls Try.prog 8 #[.int .i64 a0, .int .u64 a1] w fun e w' => e = .returned (.bool r) ∧ Below w.heap.size w w' := by
  have HB := Aside0.mk (Below.refl w.heap.size w)
  have H : ((vernierlaw08_up.f).bind fun t383 => ((order_Neg.f a0 a1).bind fun bt384 => ((order_Abs.f a0 a1).bind fun bt386 => ((order_Sign.f a0 a1).bind fun bt388 => ((vernierref08_Neg.f k a0 a1).bind fun bt390 => ((vernierref08_Abs.f k a0 a1).bind fun bt392 => ((vernierref08_Sign.f k a0 a1).bind fun bt394 => (if t383 = true then (if bt384.1 = bt390.1 then (if bt386.1 = bt392.1 then (if bt388.1 = bt394.1 then ((vernierlaw00_Code.f bt384.2).bind fun t396 => (if t396 = bt390.2 then ((vernierlaw00_Code.f bt386.2).bind fun t397 => (if t397 = bt392.2 then ((vernierlaw00_Code.f bt388.2).bind fun t398 => (some (t398 == bt394.2))) else (some false))) else (some false))) else (some false)) else (some false)) else (some false)) else (some false))))))))) = some r := h
  clear h
  replace H := Option.bind_eq_some_iff.mp H
  obtain ⟨t383, A30, H⟩ := H
  replace H : ((order_Neg.f a0 a1).bind fun bt384 => ((order_Abs.f a0 a1).bind fun bt386 => ((order_Sign.f a0 a1).bind fun bt388 => ((vernierref08_Neg.f k a0 a1).bind fun bt390 => ((vernierref08_Abs.f k a0 a1).bind fun bt392 => ((vernierref08_Sign.f k a0 a1).bind fun bt394 => (if t383 = true then (if bt384.1 = bt390.1 then (if bt386.1 = bt392.1 then (if bt388.1 = bt394.1 then ((vernierlaw00_Code.f bt384.2).bind fun t396 => (if t396 = bt390.2 then ((vernierlaw00_Code.f bt386.2).bind fun t397 => (if t397 = bt392.2 then ((vernierlaw00_Code.f bt388.2).bind fun t398 => (some (t398 == bt394.2))) else (some false))) else (some false))) else (some false)) else (some false)) else (some false)) else (some false)))))))) = some r := H
  have A3 := Aside0.mk A30
  clear A30
  replace H := Option.bind_eq_some_iff.mp H
  obtain ⟨⟨t384, t385⟩, A40, H⟩ := H
  replace H : ((order_Abs.f a0 a1).bind fun bt386 => ((order_Sign.f a0 a1).bind fun bt388 => ((vernierref08_Neg.f k a0 a1).bind fun bt390 => ((vernierref08_Abs.f k a0 a1).bind fun bt392 => ((vernierref08_Sign.f k a0 a1).bind fun bt394 => (if t383 = true then (if t384 = bt390.1 then (if bt386.1 = bt392.1 then (if bt388.1 = bt394.1 then ((vernierlaw00_Code.f t385).bind fun t396 => (if t396 = bt390.2 then ((vernierlaw00_Code.f bt386.2).bind fun t397 => (if t397 = bt392.2 then ((vernierlaw00_Code.f bt388.2).bind fun t398 => (some (t398 == bt394.2))) else (some false))) else (some false))) else (some false)) else (some false)) else (some false)) else (some false))))))) = some r := H
  have A4 := Aside0.mk A40
  clear A40
  replace H := Option.bind_eq_some_iff.mp H
  obtain ⟨⟨t386, t387⟩, A50, H⟩ := H
  replace H : ((order_Sign.f a0 a1).bind fun bt388 => ((vernierref08_Neg.f k a0 a1).bind fun bt390 => ((vernierref08_Abs.f k a0 a1).bind fun bt392 => ((vernierref08_Sign.f k a0 a1).bind fun bt394 => (if t383 = true then (if t384 = bt390.1 then (if t386 = bt392.1 then (if bt388.1 = bt394.1 then ((vernierlaw00_Code.f t385).bind fun t396 => (if t396 = bt390.2 then ((vernierlaw00_Code.f t387).bind fun t397 => (if t397 = bt392.2 then ((vernierlaw00_Code.f bt388.2).bind fun t398 => (some (t398 == bt394.2))) else (some false))) else (some false))) else (some false)) else (some false)) else (some false)) else (some false)))))) = some r := H
  have A5 := Aside0.mk A50
  clear A50
  replace H := Option.bind_eq_some_iff.mp H
  obtain ⟨⟨t388, t389⟩, A60, H⟩ := H
  replace H : ((vernierref08_Neg.f k a0 a1).bind fun bt390 => ((vernierref08_Abs.f k a0 a1).bind fun bt392 => ((vernierref08_Sign.f k a0 a1).bind fun bt394 => (if t383 = true then (if t384 = bt390.1 then (if t386 = bt392.1 then (if t388 = bt394.1 then ((vernierlaw00_Code.f t385).bind fun t396 => (if t396 = bt390.2 then ((vernierlaw00_Code.f t387).bind fun t397 => (if t397 = bt392.2 then ((vernierlaw00_Code.f t389).bind fun t398 => (some (t398 == bt394.2))) else (some false))) else (some false))) else (some false)) else (some false)) else (some false)) else (some false))))) = some r := H
  have A6 := Aside0.mk A60
  clear A60
  replace H := Option.bind_eq_some_iff.mp H
  obtain ⟨⟨t390, t391⟩, A70, H⟩ := H
  replace H : ((vernierref08_Abs.f k a0 a1).bind fun bt392 => ((vernierref08_Sign.f k a0 a1).bind fun bt394 => (if t383 = true then (if t384 = t390 then (if t386 = bt392.1 then (if t388 = bt394.1 then ((vernierlaw00_Code.f t385).bind fun t396 => (if t396 = t391 then ((vernierlaw00_Code.f t387).bind fun t397 => (if t397 = bt392.2 then ((vernierlaw00_Code.f t389).bind fun t398 => (some (t398 == bt394.2))) else (some false))) else (some false))) else (some false)) else (some false)) else (some false)) else (some false)))) = some r := H
  have A7 := Aside0.mk A70
  clear A70
  replace H := Option.bind_eq_some_iff.mp H
  obtain ⟨⟨t392, t393⟩, A80, H⟩ := H
  replace H : ((vernierref08_Sign.f k a0 a1).bind fun bt394 => (if t383 = true then (if t384 = t390 then (if t386 = t392 then (if t388 = bt394.1 then ((vernierlaw00_Code.f t385).bind fun t396 => (if t396 = t391 then ((vernierlaw00_Code.f t387).bind fun t397 => (if t397 = t393 then ((vernierlaw00_Code.f t389).bind fun t398 => (some (t398 == bt394.2))) else (some false))) else (some false))) else (some false)) else (some false)) else (some false)) else (some false))) = some r := H
  have A8 := Aside0.mk A80
  clear A80
  replace H := Option.bind_eq_some_iff.mp H
  obtain ⟨⟨t394, t395⟩, A90, H⟩ := H
  replace H : (if t383 = true then (if t384 = t390 then (if t386 = t392 then (if t388 = t394 then ((vernierlaw00_Code.f t385).bind fun t396 => (if t396 = t391 then ((vernierlaw00_Code.f t387).bind fun t397 => (if t397 = t393 then ((vernierlaw00_Code.f t389).bind fun t398 => (some (t398 == t395))) else (some false))) else (some false))) else (some false)) else (some false)) else (some false)) else (some false)) = some r := H
  have A9 := Aside0.mk A90
  clear A90
  by_cases c10 : t383 = true
  · subst c10
    have H1 : (if t384 = t390 then (if t386 = t392 then (if t388 = t394 then ((vernierlaw00_Code.f t385).bind fun t396 => (if t396 = t391 then ((vernierlaw00_Code.f t387).bind fun t397 => (if t397 = t393 then ((vernierlaw00_Code.f t389).bind fun t398 => (some (t398 == t395))) else (some false))) else (some false))) else (some false)) else (some false)) else (some false)) = some r := by rw [if_pos rfl] at H; exact H
    clear H
    have H := H1
    clear H1
    by_cases c11 : t384 = t390
    · rw [if_pos c11] at H
      have c11b0 : (t384 == t390) = true := beq_iff_eq.mpr c11
      have c11b1 : (t384 != t390) = false := bne_eq_false_iff_eq.mpr c11
      clear c11
      by_cases c12 : t386 = t392
      · rw [if_pos c12] at H
        have c12b0 : (t386 == t392) = true := beq_iff_eq.mpr c12
        have c12b1 : (t386 != t392) = false := bne_eq_false_iff_eq.mpr c12
        clear c12
        by_cases c13 : t388 = t394
        · rw [if_pos c13] at H
          have c13b0 : (t388 == t394) = true := beq_iff_eq.mpr c13
          have c13b1 : (t388 != t394) = false := bne_eq_false_iff_eq.mpr c13
          clear c13
          replace H := Option.bind_eq_some_iff.mp H
          obtain ⟨t396, A140, H⟩ := H
          replace H : (if t396 = t391 then ((vernierlaw00_Code.f t387).bind fun t397 => (if t397 = t393 then ((vernierlaw00_Code.f t389).bind fun t398 => (some (t398 == t395))) else (some false))) else (some false)) = some r := H
          have A14 := Aside0.mk A140
          clear A140
          by_cases c15 : t396 = t391
          · rw [if_pos c15] at H
            have c15b0 : (t396 == t391) = true := beq_iff_eq.mpr c15
            have c15b1 : (t396 != t391) = false := bne_eq_false_iff_eq.mpr c15
            clear c15
            replace H := Option.bind_eq_some_iff.mp H
            obtain ⟨t397, A160, H⟩ := H
            replace H : (if t397 = t393 then ((vernierlaw00_Code.f t389).bind fun t398 => (some (t398 == t395))) else (some false)) = some r := H
            have A16 := Aside0.mk A160
            clear A160
            by_cases c17 : t397 = t393
            · rw [if_pos c17] at H
              have c17b0 : (t397 == t393) = true := beq_iff_eq.mpr c17
              have c17b1 : (t397 != t393) = false := bne_eq_false_iff_eq.mpr c17
              clear c17
              replace H := Option.bind_eq_some_iff.mp H
              obtain ⟨t398, A180, H⟩ := H
              replace H : (some (t398 == t395)) = some r := H
              have A18 := Aside0.mk A180
              clear A180
              obtain rfl := Option.some.inj H
              go_enter Try.func8, Try.ntmps8
              go_wp2_with (first | ((with_reducible refine gC (f := 17) rfl ?_); refine goesY_ (some 18) Try.func17 #[] ?_; (with_reducible refine (vernierlaw08_up.calls  true _ A3.out).mono ?_); rintro e w19 ⟨rfl, hb⟩; refine ⟨_, rfl, ?_⟩; have n0_ := Aside0.mk (bS3 HB.out hb); clear HB; have HB := n0_; clear n0_; (try clear hb); (try clear hb2); (try clear hk); (try clear hi)) | ((with_reducible refine gC (f := 23) rfl ?_); refine goesY_ (some 22) Try.func23 #[.int .i64 a0, .int .u64 a1] ?_; (with_reducible refine (order_Neg.calls a0 a1 t384 t385 _ A4.out).mono ?_); rintro e w' ⟨rfl, ⟨nd, rfl⟩⟩; refine ⟨_, rfl, ?_⟩; (try simp only [errW_none, errW_some])) | ((with_reducible refine gC (f := 36) rfl ?_); refine goesY_ (some 28) Try.func36 #[.int .i64 a0, .int .u64 a1] ?_; (with_reducible refine (order_Abs.calls a0 a1 t386 t387 _ A5.out).mono ?_); rintro e w' ⟨rfl, ⟨nd, rfl⟩⟩; refine ⟨_, rfl, ?_⟩; (try simp only [errW_none, errW_some])) | ((with_reducible refine gC (f := 37) rfl ?_); refine goesY_ (some 34) Try.func37 #[.int .i64 a0, .int .u64 a1] ?_; (with_reducible refine (order_Sign.calls a0 a1 t388 t389 _ A6.out).mono ?_); rintro e w' ⟨rfl, ⟨nd, rfl⟩⟩; refine ⟨_, rfl, ?_⟩; (try simp only [errW_none, errW_some])) | ((with_reducible refine gC (f := 38) rfl ?_); refine goesY_ (some 40) Try.func38 #[.int .i64 a0, .int .u64 a1] ?_; (with_reducible refine (vernierref08_Neg.calls k a0 a1 t390 t391 _ A7.out).mono ?_); rintro e w20 ⟨rfl, hb⟩; refine ⟨_, rfl, ?_⟩; have n0_ := Aside0.mk (bS3 HB.out hb); clear HB; have HB := n0_; clear n0_; (try clear hb); (try clear hb2); (try clear hk); (try clear hi)) | ((with_reducible refine gC (f := 39) rfl ?_); refine goesY_ (some 46) Try.func39 #[.int .i64 a0, .int .u64 a1] ?_; (with_reducible refine (vernierref08_Abs.calls k a0 a1 t392 t393 _ A8.out).mono ?_); rintro e w21 ⟨rfl, hb⟩; refine ⟨_, rfl, ?_⟩; have n0_ := Aside0.mk (bS3 HB.out hb); clear HB; have HB := n0_; clear n0_; (try clear hb); (try clear hb2); (try clear hk); (try clear hi)) | ((with_reducible refine gC (f := 40) rfl ?_); refine goesY_ (some 52) Try.func40 #[.int .i64 a0, .int .u64 a1] ?_; (with_reducible refine (vernierref08_Sign.calls k a0 a1 t394 t395 _ A9.out).mono ?_); rintro e w22 ⟨rfl, hb⟩; refine ⟨_, rfl, ?_⟩; have n0_ := Aside0.mk (bS3 HB.out hb); clear HB; have HB := n0_; clear n0_; (try clear hb); (try clear hb2); (try clear hk); (try clear hi); have CA14 := fun W => vernierlaw00_Code.calls t385 t396 W A14.out; try simp only [errW_none, errW_some] at CA14) | (go_at_call 20; (with_reducible refine (CA14 _).mono ?_); rintro e w' ⟨rfl, ⟨nd, rfl⟩⟩; have CA16 := fun W => vernierlaw00_Code.calls t387 t397 W A16.out; try simp only [errW_none, errW_some] at CA16) | (go_at_call 20; (with_reducible refine (CA16 _).mono ?_); rintro e w' ⟨rfl, ⟨nd, rfl⟩⟩; have CA18 := fun W => vernierlaw00_Code.calls t389 t398 W A18.out; try simp only [errW_none, errW_some] at CA18) | (go_at_call 20; (with_reducible refine (CA18 _).mono ?_); rintro e w' ⟨rfl, ⟨nd, rfl⟩⟩))
              go_ret
              exact ⟨by first | rfl | (simp [errW_none, errW_some] <;> rfl) | (simp [*, errW_none, errW_some] <;> rfl), by repeat (first | (with_reducible first | exact HB.out | apply pA | apply pN | apply p1) | exact HB.out)⟩
            · rw [if_neg c17] at H
              have c17b0 : (t397 == t393) = false := beq_eq_false_iff_ne.mpr c17
              have c17b1 : (t397 != t393) = true := bne_iff_ne.mpr c17
              obtain rfl := Option.some.inj H
              go_enter Try.func8, Try.ntmps8
              go_wp2_with (first | ((with_reducible refine gC (f := 17) rfl ?_); refine goesY_ (some 18) Try.func17 #[] ?_; (with_reducible refine (vernierlaw08_up.calls  true _ A3.out).mono ?_); rintro e w23 ⟨rfl, hb⟩; refine ⟨_, rfl, ?_⟩; have n0_ := Aside0.mk (bS3 HB.out hb); clear HB; have HB := n0_; clear n0_; (try clear hb); (try clear hb2); (try clear hk); (try clear hi)) | ((with_reducible refine gC (f := 23) rfl ?_); refine goesY_ (some 22) Try.func23 #[.int .i64 a0, .int .u64 a1] ?_; (with_reducible refine (order_Neg.calls a0 a1 t384 t385 _ A4.out).mono ?_); rintro e w' ⟨rfl, ⟨nd, rfl⟩⟩; refine ⟨_, rfl, ?_⟩; (try simp only [errW_none, errW_some])) | ((with_reducible refine gC (f := 36) rfl ?_); refine goesY_ (some 28) Try.func36 #[.int .i64 a0, .int .u64 a1] ?_; (with_reducible refine (order_Abs.calls a0 a1 t386 t387 _ A5.out).mono ?_); rintro e w' ⟨rfl, ⟨nd, rfl⟩⟩; refine ⟨_, rfl, ?_⟩; (try simp only [errW_none, errW_some])) | ((with_reducible refine gC (f := 37) rfl ?_); refine goesY_ (some 34) Try.func37 #[.int .i64 a0, .int .u64 a1] ?_; (with_reducible refine (order_Sign.calls a0 a1 t388 t389 _ A6.out).mono ?_); rintro e w' ⟨rfl, ⟨nd, rfl⟩⟩; refine ⟨_, rfl, ?_⟩; (try simp only [errW_none, errW_some])) | ((with_reducible refine gC (f := 38) rfl ?_); refine goesY_ (some 40) Try.func38 #[.int .i64 a0, .int .u64 a1] ?_; (with_reducible refine (vernierref08_Neg.calls k a0 a1 t390 t391 _ A7.out).mono ?_); rintro e w24 ⟨rfl, hb⟩; refine ⟨_, rfl, ?_⟩; have n0_ := Aside0.mk (bS3 HB.out hb); clear HB; have HB := n0_; clear n0_; (try clear hb); (try clear hb2); (try clear hk); (try clear hi)) | ((with_reducible refine gC (f := 39) rfl ?_); refine goesY_ (some 46) Try.func39 #[.int .i64 a0, .int .u64 a1] ?_; (with_reducible refine (vernierref08_Abs.calls k a0 a1 t392 t393 _ A8.out).mono ?_); rintro e w25 ⟨rfl, hb⟩; refine ⟨_, rfl, ?_⟩; have n0_ := Aside0.mk (bS3 HB.out hb); clear HB; have HB := n0_; clear n0_; (try clear hb); (try clear hb2); (try clear hk); (try clear hi)) | ((with_reducible refine gC (f := 40) rfl ?_); refine goesY_ (some 52) Try.func40 #[.int .i64 a0, .int .u64 a1] ?_; (with_reducible refine (vernierref08_Sign.calls k a0 a1 t394 t395 _ A9.out).mono ?_); rintro e w26 ⟨rfl, hb⟩; refine ⟨_, rfl, ?_⟩; have n0_ := Aside0.mk (bS3 HB.out hb); clear HB; have HB := n0_; clear n0_; (try clear hb); (try clear hb2); (try clear hk); (try clear hi); have CA14 := fun W => vernierlaw00_Code.calls t385 t396 W A14.out; try simp only [errW_none, errW_some] at CA14) | (go_at_call 20; (with_reducible refine (CA14 _).mono ?_); rintro e w' ⟨rfl, ⟨nd, rfl⟩⟩; have CA16 := fun W => vernierlaw00_Code.calls t387 t397 W A16.out; try simp only [errW_none, errW_some] at CA16) | (go_at_call 20; (with_reducible refine (CA16 _).mono ?_); rintro e w' ⟨rfl, ⟨nd, rfl⟩⟩))
              go_ret
              exact ⟨by first | rfl | (simp [errW_none, errW_some] <;> rfl) | (simp [*, errW_none, errW_some] <;> rfl), by repeat (first | (with_reducible first | exact HB.out | apply pA | apply pN | apply p1) | exact HB.out)⟩
          · rw [if_neg c15] at H
            have c15b0 : (t396 == t391) = false := beq_eq_false_iff_ne.mpr c15
            have c15b1 : (t396 != t391) = true := bne_iff_ne.mpr c15
            obtain rfl := Option.some.inj H
            go_enter Try.func8, Try.ntmps8
            go_wp2_with (first | ((with_reducible refine gC (f := 17) rfl ?_); refine goesY_ (some 18) Try.func17 #[] ?_; (with_reducible refine (vernierlaw08_up.calls  true _ A3.out).mono ?_); rintro e w27 ⟨rfl, hb⟩; refine ⟨_, rfl, ?_⟩; have n0_ := Aside0.mk (bS3 HB.out hb); clear HB; have HB := n0_; clear n0_; (try clear hb); (try clear hb2); (try clear hk); (try clear hi)) | ((with_reducible refine gC (f := 23) rfl ?_); refine goesY_ (some 22) Try.func23 #[.int .i64 a0, .int .u64 a1] ?_; (with_reducible refine (order_Neg.calls a0 a1 t384 t385 _ A4.out).mono ?_); rintro e w' ⟨rfl, ⟨nd, rfl⟩⟩; refine ⟨_, rfl, ?_⟩; (try simp only [errW_none, errW_some])) | ((with_reducible refine gC (f := 36) rfl ?_); refine goesY_ (some 28) Try.func36 #[.int .i64 a0, .int .u64 a1] ?_; (with_reducible refine (order_Abs.calls a0 a1 t386 t387 _ A5.out).mono ?_); rintro e w' ⟨rfl, ⟨nd, rfl⟩⟩; refine ⟨_, rfl, ?_⟩; (try simp only [errW_none, errW_some])) | ((with_reducible refine gC (f := 37) rfl ?_); refine goesY_ (some 34) Try.func37 #[.int .i64 a0, .int .u64 a1] ?_; (with_reducible refine (order_Sign.calls a0 a1 t388 t389 _ A6.out).mono ?_); rintro e w' ⟨rfl, ⟨nd, rfl⟩⟩; refine ⟨_, rfl, ?_⟩; (try simp only [errW_none, errW_some])) | ((with_reducible refine gC (f := 38) rfl ?_); refine goesY_ (some 40) Try.func38 #[.int .i64 a0, .int .u64 a1] ?_; (with_reducible refine (vernierref08_Neg.calls k a0 a1 t390 t391 _ A7.out).mono ?_); rintro e w28 ⟨rfl, hb⟩; refine ⟨_, rfl, ?_⟩; have n0_ := Aside0.mk (bS3 HB.out hb); clear HB; have HB := n0_; clear n0_; (try clear hb); (try clear hb2); (try clear hk); (try clear hi)) | ((with_reducible refine gC (f := 39) rfl ?_); refine goesY_ (some 46) Try.func39 #[.int .i64 a0, .int .u64 a1] ?_; (with_reducible refine (vernierref08_Abs.calls k a0 a1 t392 t393 _ A8.out).mono ?_); rintro e w29 ⟨rfl, hb⟩; refine ⟨_, rfl, ?_⟩; have n0_ := Aside0.mk (bS3 HB.out hb); clear HB; have HB := n0_; clear n0_; (try clear hb); (try clear hb2); (try clear hk); (try clear hi)) | ((with_reducible refine gC (f := 40) rfl ?_); refine goesY_ (some 52) Try.func40 #[.int .i64 a0, .int .u64 a1] ?_; (with_reducible refine (vernierref08_Sign.calls k a0 a1 t394 t395 _ A9.out).mono ?_); rintro e w30 ⟨rfl, hb⟩; refine ⟨_, rfl, ?_⟩; have n0_ := Aside0.mk (bS3 HB.out hb); clear HB; have HB := n0_; clear n0_; (try clear hb); (try clear hb2); (try clear hk); (try clear hi); have CA14 := fun W => vernierlaw00_Code.calls t385 t396 W A14.out; try simp only [errW_none, errW_some] at CA14) | (go_at_call 20; (with_reducible refine (CA14 _).mono ?_); rintro e w' ⟨rfl, ⟨nd, rfl⟩⟩))
            go_ret
            exact ⟨by first | rfl | (simp [errW_none, errW_some] <;> rfl) | (simp [*, errW_none, errW_some] <;> rfl), by repeat (first | (with_reducible first | exact HB.out | apply pA | apply pN | apply p1) | exact HB.out)⟩
        · rw [if_neg c13] at H
          have c13b0 : (t388 == t394) = false := beq_eq_false_iff_ne.mpr c13
          have c13b1 : (t388 != t394) = true := bne_iff_ne.mpr c13
          obtain rfl := Option.some.inj H
          go_enter Try.func8, Try.ntmps8
          go_wp2_with (first | ((with_reducible refine gC (f := 17) rfl ?_); refine goesY_ (some 18) Try.func17 #[] ?_; (with_reducible refine (vernierlaw08_up.calls  true _ A3.out).mono ?_); rintro e w31 ⟨rfl, hb⟩; refine ⟨_, rfl, ?_⟩; have n0_ := Aside0.mk (bS3 HB.out hb); clear HB; have HB := n0_; clear n0_; (try clear hb); (try clear hb2); (try clear hk); (try clear hi)) | ((with_reducible refine gC (f := 23) rfl ?_); refine goesY_ (some 22) Try.func23 #[.int .i64 a0, .int .u64 a1] ?_; (with_reducible refine (order_Neg.calls a0 a1 t384 t385 _ A4.out).mono ?_); rintro e w' ⟨rfl, ⟨nd, rfl⟩⟩; refine ⟨_, rfl, ?_⟩; (try simp only [errW_none, errW_some])) | ((with_reducible refine gC (f := 36) rfl ?_); refine goesY_ (some 28) Try.func36 #[.int .i64 a0, .int .u64 a1] ?_; (with_reducible refine (order_Abs.calls a0 a1 t386 t387 _ A5.out).mono ?_); rintro e w' ⟨rfl, ⟨nd, rfl⟩⟩; refine ⟨_, rfl, ?_⟩; (try simp only [errW_none, errW_some])) | ((with_reducible refine gC (f := 37) rfl ?_); refine goesY_ (some 34) Try.func37 #[.int .i64 a0, .int .u64 a1] ?_; (with_reducible refine (order_Sign.calls a0 a1 t388 t389 _ A6.out).mono ?_); rintro e w' ⟨rfl, ⟨nd, rfl⟩⟩; refine ⟨_, rfl, ?_⟩; (try simp only [errW_none, errW_some])) | ((with_reducible refine gC (f := 38) rfl ?_); refine goesY_ (some 40) Try.func38 #[.int .i64 a0, .int .u64 a1] ?_; (with_reducible refine (vernierref08_Neg.calls k a0 a1 t390 t391 _ A7.out).mono ?_); rintro e w32 ⟨rfl, hb⟩; refine ⟨_, rfl, ?_⟩; have n0_ := Aside0.mk (bS3 HB.out hb); clear HB; have HB := n0_; clear n0_; (try clear hb); (try clear hb2); (try clear hk); (try clear hi)) | ((with_reducible refine gC (f := 39) rfl ?_); refine goesY_ (some 46) Try.func39 #[.int .i64 a0, .int .u64 a1] ?_; (with_reducible refine (vernierref08_Abs.calls k a0 a1 t392 t393 _ A8.out).mono ?_); rintro e w33 ⟨rfl, hb⟩; refine ⟨_, rfl, ?_⟩; have n0_ := Aside0.mk (bS3 HB.out hb); clear HB; have HB := n0_; clear n0_; (try clear hb); (try clear hb2); (try clear hk); (try clear hi)) | ((with_reducible refine gC (f := 40) rfl ?_); refine goesY_ (some 52) Try.func40 #[.int .i64 a0, .int .u64 a1] ?_; (with_reducible refine (vernierref08_Sign.calls k a0 a1 t394 t395 _ A9.out).mono ?_); rintro e w34 ⟨rfl, hb⟩; refine ⟨_, rfl, ?_⟩; have n0_ := Aside0.mk (bS3 HB.out hb); clear HB; have HB := n0_; clear n0_; (try clear hb); (try clear hb2); (try clear hk); (try clear hi)))
          go_ret
          exact ⟨by first | rfl | (simp [errW_none, errW_some] <;> rfl) | (simp [*, errW_none, errW_some] <;> rfl), by repeat (first | (with_reducible first | exact HB.out | apply pA | apply pN | apply p1) | exact HB.out)⟩
      · rw [if_neg c12] at H
        have c12b0 : (t386 == t392) = false := beq_eq_false_iff_ne.mpr c12
        have c12b1 : (t386 != t392) = true := bne_iff_ne.mpr c12
        obtain rfl := Option.some.inj H
        go_enter Try.func8, Try.ntmps8
        go_wp2_with (first | ((with_reducible refine gC (f := 17) rfl ?_); refine goesY_ (some 18) Try.func17 #[] ?_; (with_reducible refine (vernierlaw08_up.calls  true _ A3.out).mono ?_); rintro e w35 ⟨rfl, hb⟩; refine ⟨_, rfl, ?_⟩; have n0_ := Aside0.mk (bS3 HB.out hb); clear HB; have HB := n0_; clear n0_; (try clear hb); (try clear hb2); (try clear hk); (try clear hi)) | ((with_reducible refine gC (f := 23) rfl ?_); refine goesY_ (some 22) Try.func23 #[.int .i64 a0, .int .u64 a1] ?_; (with_reducible refine (order_Neg.calls a0 a1 t384 t385 _ A4.out).mono ?_); rintro e w' ⟨rfl, ⟨nd, rfl⟩⟩; refine ⟨_, rfl, ?_⟩; (try simp only [errW_none, errW_some])) | ((with_reducible refine gC (f := 36) rfl ?_); refine goesY_ (some 28) Try.func36 #[.int .i64 a0, .int .u64 a1] ?_; (with_reducible refine (order_Abs.calls a0 a1 t386 t387 _ A5.out).mono ?_); rintro e w' ⟨rfl, ⟨nd, rfl⟩⟩; refine ⟨_, rfl, ?_⟩; (try simp only [errW_none, errW_some])) | ((with_reducible refine gC (f := 37) rfl ?_); refine goesY_ (some 34) Try.func37 #[.int .i64 a0, .int .u64 a1] ?_; (with_reducible refine (order_Sign.calls a0 a1 t388 t389 _ A6.out).mono ?_); rintro e w' ⟨rfl, ⟨nd, rfl⟩⟩; refine ⟨_, rfl, ?_⟩; (try simp only [errW_none, errW_some])) | ((with_reducible refine gC (f := 38) rfl ?_); refine goesY_ (some 40) Try.func38 #[.int .i64 a0, .int .u64 a1] ?_; (with_reducible refine (vernierref08_Neg.calls k a0 a1 t390 t391 _ A7.out).mono ?_); rintro e w36 ⟨rfl, hb⟩; refine ⟨_, rfl, ?_⟩; have n0_ := Aside0.mk (bS3 HB.out hb); clear HB; have HB := n0_; clear n0_; (try clear hb); (try clear hb2); (try clear hk); (try clear hi)) | ((with_reducible refine gC (f := 39) rfl ?_); refine goesY_ (some 46) Try.func39 #[.int .i64 a0, .int .u64 a1] ?_; (with_reducible refine (vernierref08_Abs.calls k a0 a1 t392 t393 _ A8.out).mono ?_); rintro e w37 ⟨rfl, hb⟩; refine ⟨_, rfl, ?_⟩; have n0_ := Aside0.mk (bS3 HB.out hb); clear HB; have HB := n0_; clear n0_; (try clear hb); (try clear hb2); (try clear hk); (try clear hi)) | ((with_reducible refine gC (f := 40) rfl ?_); refine goesY_ (some 52) Try.func40 #[.int .i64 a0, .int .u64 a1] ?_; (with_reducible refine (vernierref08_Sign.calls k a0 a1 t394 t395 _ A9.out).mono ?_); rintro e w38 ⟨rfl, hb⟩; refine ⟨_, rfl, ?_⟩; have n0_ := Aside0.mk (bS3 HB.out hb); clear HB; have HB := n0_; clear n0_; (try clear hb); (try clear hb2); (try clear hk); (try clear hi)))
        go_ret
        exact ⟨by first | rfl | (simp [errW_none, errW_some] <;> rfl) | (simp [*, errW_none, errW_some] <;> rfl), by repeat (first | (with_reducible first | exact HB.out | apply pA | apply pN | apply p1) | exact HB.out)⟩
    · rw [if_neg c11] at H
      have c11b0 : (t384 == t390) = false := beq_eq_false_iff_ne.mpr c11
      have c11b1 : (t384 != t390) = true := bne_iff_ne.mpr c11
      obtain rfl := Option.some.inj H
      go_enter Try.func8, Try.ntmps8
      go_wp2_with (first | ((with_reducible refine gC (f := 17) rfl ?_); refine goesY_ (some 18) Try.func17 #[] ?_; (with_reducible refine (vernierlaw08_up.calls  true _ A3.out).mono ?_); rintro e w39 ⟨rfl, hb⟩; refine ⟨_, rfl, ?_⟩; have n0_ := Aside0.mk (bS3 HB.out hb); clear HB; have HB := n0_; clear n0_; (try clear hb); (try clear hb2); (try clear hk); (try clear hi)) | ((with_reducible refine gC (f := 23) rfl ?_); refine goesY_ (some 22) Try.func23 #[.int .i64 a0, .int .u64 a1] ?_; (with_reducible refine (order_Neg.calls a0 a1 t384 t385 _ A4.out).mono ?_); rintro e w' ⟨rfl, ⟨nd, rfl⟩⟩; refine ⟨_, rfl, ?_⟩; (try simp only [errW_none, errW_some])) | ((with_reducible refine gC (f := 36) rfl ?_); refine goesY_ (some 28) Try.func36 #[.int .i64 a0, .int .u64 a1] ?_; (with_reducible refine (order_Abs.calls a0 a1 t386 t387 _ A5.out).mono ?_); rintro e w' ⟨rfl, ⟨nd, rfl⟩⟩; refine ⟨_, rfl, ?_⟩; (try simp only [errW_none, errW_some])) | ((with_reducible refine gC (f := 37) rfl ?_); refine goesY_ (some 34) Try.func37 #[.int .i64 a0, .int .u64 a1] ?_; (with_reducible refine (order_Sign.calls a0 a1 t388 t389 _ A6.out).mono ?_); rintro e w' ⟨rfl, ⟨nd, rfl⟩⟩; refine ⟨_, rfl, ?_⟩; (try simp only [errW_none, errW_some])) | ((with_reducible refine gC (f := 38) rfl ?_); refine goesY_ (some 40) Try.func38 #[.int .i64 a0, .int .u64 a1] ?_; (with_reducible refine (vernierref08_Neg.calls k a0 a1 t390 t391 _ A7.out).mono ?_); rintro e w40 ⟨rfl, hb⟩; refine ⟨_, rfl, ?_⟩; have n0_ := Aside0.mk (bS3 HB.out hb); clear HB; have HB := n0_; clear n0_; (try clear hb); (try clear hb2); (try clear hk); (try clear hi)) | ((with_reducible refine gC (f := 39) rfl ?_); refine goesY_ (some 46) Try.func39 #[.int .i64 a0, .int .u64 a1] ?_; (with_reducible refine (vernierref08_Abs.calls k a0 a1 t392 t393 _ A8.out).mono ?_); rintro e w41 ⟨rfl, hb⟩; refine ⟨_, rfl, ?_⟩; have n0_ := Aside0.mk (bS3 HB.out hb); clear HB; have HB := n0_; clear n0_; (try clear hb); (try clear hb2); (try clear hk); (try clear hi)) | ((with_reducible refine gC (f := 40) rfl ?_); refine goesY_ (some 52) Try.func40 #[.int .i64 a0, .int .u64 a1] ?_; (with_reducible refine (vernierref08_Sign.calls k a0 a1 t394 t395 _ A9.out).mono ?_); rintro e w42 ⟨rfl, hb⟩; refine ⟨_, rfl, ?_⟩; have n0_ := Aside0.mk (bS3 HB.out hb); clear HB; have HB := n0_; clear n0_; (try clear hb); (try clear hb2); (try clear hk); (try clear hi)))
      go_ret
      exact ⟨by first | rfl | (simp [errW_none, errW_some] <;> rfl) | (simp [*, errW_none, errW_some] <;> rfl), by repeat (first | (with_reducible first | exact HB.out | apply pA | apply pN | apply p1) | exact HB.out)⟩
  · replace c10 := Bool.eq_false_iff.mpr c10
    subst c10
    have H1 : (some false) = some r := by rw [if_neg (show ¬ (false = true) by decide)] at H; exact H
    clear H
    have H := H1
    clear H1
    obtain rfl := Option.some.inj H
    go_enter Try.func8, Try.ntmps8
    go_wp2_with (first | ((with_reducible refine gC (f := 17) rfl ?_); refine goesY_ (some 18) Try.func17 #[] ?_; (with_reducible refine (vernierlaw08_up.calls  false _ A3.out).mono ?_); rintro e w43 ⟨rfl, hb⟩; refine ⟨_, rfl, ?_⟩; have n0_ := Aside0.mk (bS3 HB.out hb); clear HB; have HB := n0_; clear n0_; (try clear hb); (try clear hb2); (try clear hk); (try clear hi)) | ((with_reducible refine gC (f := 23) rfl ?_); refine goesY_ (some 22) Try.func23 #[.int .i64 a0, .int .u64 a1] ?_; (with_reducible refine (order_Neg.calls a0 a1 t384 t385 _ A4.out).mono ?_); rintro e w' ⟨rfl, ⟨nd, rfl⟩⟩; refine ⟨_, rfl, ?_⟩; (try simp only [errW_none, errW_some])) | ((with_reducible refine gC (f := 36) rfl ?_); refine goesY_ (some 28) Try.func36 #[.int .i64 a0, .int .u64 a1] ?_; (with_reducible refine (order_Abs.calls a0 a1 t386 t387 _ A5.out).mono ?_); rintro e w' ⟨rfl, ⟨nd, rfl⟩⟩; refine ⟨_, rfl, ?_⟩; (try simp only [errW_none, errW_some])) | ((with_reducible refine gC (f := 37) rfl ?_); refine goesY_ (some 34) Try.func37 #[.int .i64 a0, .int .u64 a1] ?_; (with_reducible refine (order_Sign.calls a0 a1 t388 t389 _ A6.out).mono ?_); rintro e w' ⟨rfl, ⟨nd, rfl⟩⟩; refine ⟨_, rfl, ?_⟩; (try simp only [errW_none, errW_some])) | ((with_reducible refine gC (f := 38) rfl ?_); refine goesY_ (some 40) Try.func38 #[.int .i64 a0, .int .u64 a1] ?_; (with_reducible refine (vernierref08_Neg.calls k a0 a1 t390 t391 _ A7.out).mono ?_); rintro e w44 ⟨rfl, hb⟩; refine ⟨_, rfl, ?_⟩; have n0_ := Aside0.mk (bS3 HB.out hb); clear HB; have HB := n0_; clear n0_; (try clear hb); (try clear hb2); (try clear hk); (try clear hi)) | ((with_reducible refine gC (f := 39) rfl ?_); refine goesY_ (some 46) Try.func39 #[.int .i64 a0, .int .u64 a1] ?_; (with_reducible refine (vernierref08_Abs.calls k a0 a1 t392 t393 _ A8.out).mono ?_); rintro e w45 ⟨rfl, hb⟩; refine ⟨_, rfl, ?_⟩; have n0_ := Aside0.mk (bS3 HB.out hb); clear HB; have HB := n0_; clear n0_; (try clear hb); (try clear hb2); (try clear hk); (try clear hi)) | ((with_reducible refine gC (f := 40) rfl ?_); refine goesY_ (some 52) Try.func40 #[.int .i64 a0, .int .u64 a1] ?_; (with_reducible refine (vernierref08_Sign.calls k a0 a1 t394 t395 _ A9.out).mono ?_); rintro e w46 ⟨rfl, hb⟩; refine ⟨_, rfl, ?_⟩; have n0_ := Aside0.mk (bS3 HB.out hb); clear HB; have HB := n0_; clear n0_; (try clear hb); (try clear hb2); (try clear hk); (try clear hi)))
    go_ret
    exact ⟨by first | rfl | (simp [errW_none, errW_some] <;> rfl) | (simp [*, errW_none, errW_some] <;> rfl), by repeat (first | (with_reducible first | exact HB.out | apply pA | apply pN | apply p1) | exact HB.out)⟩

/-- THE ONE PURE STATEMENT of vernierlaw08_OrderSigns: yours. -/
def vernierlaw08_OrderSigns.Pure : Prop := ∀ (a0 : Int) (a1 : Int), (Lit.int .i64 a0).wf = true → (Lit.int .u64 a1).wf = true → ∃ k, vernierlaw08_OrderSigns.f k a0 a1 = some true
theorem vernierlaw08_OrderSigns.walk (P : vernierlaw08_OrderSigns.Pure) (a0 : Int) (a1 : Int) (w : World) (w0 : (Lit.int .i64 a0).wf = true) (w1 : (Lit.int .u64 a1).wf = true) :
    Calls Try.prog 8 #[.int .i64 a0, .int .u64 a1] w fun e w' => e = .returned (.bool true) ∧ Below w.heap.size w w' := by
  obtain ⟨k, h⟩ := P a0 a1 w0 w1
  refine (vernierlaw08_OrderSigns.calls k a0 a1 true w h).mono ?_
  rintro e w' ⟨rfl, hd⟩
  exact ⟨rfl, hd⟩

end Go.Proofs.Yteekhbmffdmgjaa.F
