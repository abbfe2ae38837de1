/- Functions of the given program as plain Lean functions, and for each a proof that the program's call comes to just these answers; no further conditions. (Written by a program of this repo out of the translation.) -/
import Derived.Test.YteekhbmffdmgjaaF0
import Derived.Test.YteekhbmffdmgjaaF6
import Derived.Test.YteekhbmffdmgjaaF7
import Derived.Test.YteekhbmffdmgjaaF10
import Derived.Test.YteekhbmffdmgjaaF11
namespace Go.Proofs.Yteekhbmffdmgjaa.F
open Go.RowKit Go.Proofs.YteekhbmffdmgjaaW.PrintWords Go.Proofs.YteekhbmffdmgjaaW.PrintLast Go.Proofs.YteekhbmffdmgjaaW.PrintMore
attribute [local go_sem high] xor_u64 xor_u32 eqErr25 neErr25 eqErrL25 neErrL25
attribute [local go_sem] max2_int min2_int max_two min_two max_three min_three max_four min_four   -- for this text's walks alone
set_option linter.unusedVariables false
set_option linter.unusedSimpArgs false

/-! ### vernierlaw08_OrderNexts: function 5 -/
def vernierlaw08_OrderNexts.f (k : Nat) (a0 : Int) (a1 : Int) : Option (Bool) := (vernierlaw08_up.f).bind fun t298 => ((order_Next.f a0 a1).bind fun bt299 => ((order_Prev.f a0 a1).bind fun bt301 => ((vernierref08_Next.f k a0 a1).bind fun bt303 => ((vernierref08_Prev.f k a0 a1).bind fun bt305 => (if t298 = true then (if bt299.1 = bt303.1 then (if bt301.1 = bt305.1 then ((vernierlaw00_Code.f bt299.2).bind fun t307 => (if t307 = bt303.2 then ((vernierlaw00_Code.f bt301.2).bind fun t308 => (some (t308 == bt305.2))) else (some false))) else (some false)) else (some false)) else (some false))))))
theorem vernierlaw08_OrderNexts.mono : ∀ a0 a1 k, LeO (vernierlaw08_OrderNexts.f k a0 a1) (vernierlaw08_OrderNexts.f (k + 1) a0 a1) := by
  intro a0 a1 k
  unfold vernierlaw08_OrderNexts.f
  repeat' first
      | (with_reducible exact vernierref08_Next.mono _ _ _)
      | (with_reducible exact vernierref08_Prev.mono _ _ _)
      | (with_reducible exact LeO.refl _)
      | (with_reducible exact LeO.none _)
      | (with_reducible refine LeO.ite ?_ ?_)
      | (with_reducible refine LeO.bind ?_ (fun _ => ?_))
      | exact vernierref08_Next.mono _ _ _
      | exact vernierref08_Prev.mono _ _ _
      | exact LeO.none _
      | refine LeO.ite ?_ ?_
      | refine LeO.bind ?_ (fun _ => ?_)
set_option maxHeartbeats 8000000 in
set_option maxRecDepth 100000 in
theorem vernierlaw08_OrderNexts.calls (k : Nat) (a0 : Int) (a1 : Int) (r : Bool) (w : World) (h : vernierlaw08_OrderNexts.f k a0 a1 = some r) :
    Calls Try.prog 5 #[.int .i64 a0, .int .u64 a1] w fun e w' => e = .returned (.bool r) ∧ Below w.heap.size w w' := by
  have HB := Aside0.mk (Below.refl w.heap.size w)
  have H : ((vernierlaw08_up.f).bind fun t298 => ((order_Next.f a0 a1).bind fun bt299 => ((order_Prev.f a0 a1).bind fun bt301 => ((vernierref08_Next.f k a0 a1).bind fun bt303 => ((vernierref08_Prev.f k a0 a1).bind fun bt305 => (if t298 = true then (if bt299.1 = bt303.1 then (if bt301.1 = bt305.1 then ((vernierlaw00_Code.f bt299.2).bind fun t307 => (if t307 = bt303.2 then ((vernierlaw00_Code.f bt301.2).bind fun t308 => (some (t308 == bt305.2))) else (some false))) else (some false)) else (some false)) else (some false))))))) = some r := h
  clear h
  replace H := Option.bind_eq_some_iff.mp H
  obtain ⟨t298, A30, H⟩ := H
  replace H : ((order_Next.f a0 a1).bind fun bt299 => ((order_Prev.f a0 a1).bind fun bt301 => ((vernierref08_Next.f k a0 a1).bind fun bt303 => ((vernierref08_Prev.f k a0 a1).bind fun bt305 => (if t298 = true then (if bt299.1 = bt303.1 then (if bt301.1 = bt305.1 then ((vernierlaw00_Code.f bt299.2).bind fun t307 => (if t307 = bt303.2 then ((vernierlaw00_Code.f bt301.2).bind fun t308 => (some (t308 == bt305.2))) else (some false))) else (some false)) else (some false)) else (some false)))))) = some r := H
  have A3 := Aside0.mk A30
  clear A30
  replace H := Option.bind_eq_some_iff.mp H
  obtain ⟨⟨t299, t300⟩, A40, H⟩ := H
  replace H : ((order_Prev.f a0 a1).bind fun bt301 => ((vernierref08_Next.f k a0 a1).bind fun bt303 => ((vernierref08_Prev.f k a0 a1).bind fun bt305 => (if t298 = true then (if t299 = bt303.1 then (if bt301.1 = bt305.1 then ((vernierlaw00_Code.f t300).bind fun t307 => (if t307 = bt303.2 then ((vernierlaw00_Code.f bt301.2).bind fun t308 => (some (t308 == bt305.2))) else (some false))) else (some false)) else (some false)) else (some false))))) = some r := H
  have A4 := Aside0.mk A40
  clear A40
  replace H := Option.bind_eq_some_iff.mp H
  obtain ⟨⟨t301, t302⟩, A50, H⟩ := H
  replace H : ((vernierref08_Next.f k a0 a1).bind fun bt303 => ((vernierref08_Prev.f k a0 a1).bind fun bt305 => (if t298 = true then (if t299 = bt303.1 then (if t301 = bt305.1 then ((vernierlaw00_Code.f t300).bind fun t307 => (if t307 = bt303.2 then ((vernierlaw00_Code.f t302).bind fun t308 => (some (t308 == bt305.2))) else (some false))) else (some false)) else (some false)) else (some false)))) = some r := H
  have A5 := Aside0.mk A50
  clear A50
  replace H := Option.bind_eq_some_iff.mp H
  obtain ⟨⟨t303, t304⟩, A60, H⟩ := H
  replace H : ((vernierref08_Prev.f k a0 a1).bind fun bt305 => (if t298 = true then (if t299 = t303 then (if t301 = bt305.1 then ((vernierlaw00_Code.f t300).bind fun t307 => (if t307 = t304 then ((vernierlaw00_Code.f t302).bind fun t308 => (some (t308 == bt305.2))) else (some false))) else (some false)) else (some false)) else (some false))) = some r := H
  have A6 := Aside0.mk A60
  clear A60
  replace H := Option.bind_eq_some_iff.mp H
  obtain ⟨⟨t305, t306⟩, A70, H⟩ := H
  replace H : (if t298 = true then (if t299 = t303 then (if t301 = t305 then ((vernierlaw00_Code.f t300).bind fun t307 => (if t307 = t304 then ((vernierlaw00_Code.f t302).bind fun t308 => (some (t308 == t306))) else (some false))) else (some false)) else (some false)) else (some false)) = some r := H
  have A7 := Aside0.mk A70
  clear A70
  by_cases c8 : t298 = true
  · subst c8
    have H1 : (if t299 = t303 then (if t301 = t305 then ((vernierlaw00_Code.f t300).bind fun t307 => (if t307 = t304 then ((vernierlaw00_Code.f t302).bind fun t308 => (some (t308 == t306))) else (some false))) else (some false)) else (some false)) = some r := by rw [if_pos rfl] at H; exact H
    clear H
    have H := H1
    clear H1
    by_cases c9 : t299 = t303
    · rw [if_pos c9] at H
      have c9b0 : (t299 == t303) = true := beq_iff_eq.mpr c9
      have c9b1 : (t299 != t303) = false := bne_eq_false_iff_eq.mpr c9
      clear c9
      by_cases c10 : t301 = t305
      · rw [if_pos c10] at H
        have c10b0 : (t301 == t305) = true := beq_iff_eq.mpr c10
        have c10b1 : (t301 != t305) = false := bne_eq_false_iff_eq.mpr c10
        clear c10
        replace H := Option.bind_eq_some_iff.mp H
        obtain ⟨t307, A110, H⟩ := H
        replace H : (if t307 = t304 then ((vernierlaw00_Code.f t302).bind fun t308 => (some (t308 == t306))) else (some false)) = some r := H
        have A11 := Aside0.mk A110
        clear A110
        by_cases c12 : t307 = t304
        · rw [if_pos c12] at H
          have c12b0 : (t307 == t304) = true := beq_iff_eq.mpr c12
          have c12b1 : (t307 != t304) = false := bne_eq_false_iff_eq.mpr c12
          clear c12
          replace H := Option.bind_eq_some_iff.mp H
          obtain ⟨t308, A130, H⟩ := H
          replace H : (some (t308 == t306)) = some r := H
          have A13 := Aside0.mk A130
          clear A130
          obtain rfl := Option.some.inj H
          go_enter Try.func5, Try.ntmps5
          go_wp2_with (first | ((with_reducible refine gC (f := 17) rfl ?_); refine goesY_ (some 14) Try.func17 #[] ?_; (with_reducible refine (vernierlaw08_up.calls  true _ A3.out).mono ?_); rintro e w14 ⟨rfl, hb⟩; refine ⟨_, rfl, ?_⟩; have n0_ := Aside0.mk (bS3 HB.out hb); clear HB; have HB := n0_; clear n0_; (try clear hb); (try clear hb2); (try clear hk); (try clear hi)) | ((with_reducible refine gC (f := 26) rfl ?_); refine goesY_ (some 18) Try.func26 #[.int .i64 a0, .int .u64 a1] ?_; (with_reducible refine (order_Next.calls a0 a1 t299 t300 _ A4.out).mono ?_); rintro e w15 ⟨rfl, hb⟩; refine ⟨_, rfl, ?_⟩; have n0_ := Aside0.mk (bS3 HB.out hb); clear HB; have HB := n0_; clear n0_; (try clear hb); (try clear hb2); (try clear hk); (try clear hi); (try simp only [errW_none, errW_some])) | ((with_reducible refine gC (f := 27) rfl ?_); refine goesY_ (some 24) Try.func27 #[.int .i64 a0, .int .u64 a1] ?_; (with_reducible refine (order_Prev.calls a0 a1 t301 t302 _ A5.out).mono ?_); rintro e w16 ⟨rfl, hb⟩; refine ⟨_, rfl, ?_⟩; have n0_ := Aside0.mk (bS3 HB.out hb); clear HB; have HB := n0_; clear n0_; (try clear hb); (try clear hb2); (try clear hk); (try clear hi); (try simp only [errW_none, errW_some])) | ((with_reducible refine gC (f := 28) rfl ?_); refine goesY_ (some 30) Try.func28 #[.int .i64 a0, .int .u64 a1] ?_; (with_reducible refine (vernierref08_Next.calls k a0 a1 t303 t304 _ A6.out).mono ?_); rintro e w17 ⟨rfl, hb⟩; refine ⟨_, rfl, ?_⟩; have n0_ := Aside0.mk (bS3 HB.out hb); clear HB; have HB := n0_; clear n0_; (try clear hb); (try clear hb2); (try clear hk); (try clear hi)) | ((with_reducible refine gC (f := 29) rfl ?_); refine goesY_ (some 36) Try.func29 #[.int .i64 a0, .int .u64 a1] ?_; (with_reducible refine (vernierref08_Prev.calls k a0 a1 t305 t306 _ A7.out).mono ?_); rintro e w18 ⟨rfl, hb⟩; refine ⟨_, rfl, ?_⟩; have n0_ := Aside0.mk (bS3 HB.out hb); clear HB; have HB := n0_; clear n0_; (try clear hb); (try clear hb2); (try clear hk); (try clear hi); have CA11 := fun W => vernierlaw00_Code.calls t300 t307 W A11.out; try simp only [errW_none, errW_some] at CA11) | (go_at_call 20; (with_reducible refine (CA11 _).mono ?_); rintro e w' ⟨rfl, ⟨nd, rfl⟩⟩; have CA13 := fun W => vernierlaw00_Code.calls t302 t308 W A13.out; try simp only [errW_none, errW_some] at CA13) | (go_at_call 20; (with_reducible refine (CA13 _).mono ?_); rintro e w' ⟨rfl, ⟨nd, rfl⟩⟩))
          go_ret
          exact ⟨by first | rfl | (simp [errW_none, errW_some] <;> rfl) | (simp [*, errW_none, errW_some] <;> rfl), by repeat (first | (with_reducible first | exact HB.out | apply pA | apply pN | apply p1) | exact HB.out)⟩
        · rw [if_neg c12] at H
          have c12b0 : (t307 == t304) = false := beq_eq_false_iff_ne.mpr c12
          have c12b1 : (t307 != t304) = true := bne_iff_ne.mpr c12
          obtain rfl := Option.some.inj H
          go_enter Try.func5, Try.ntmps5
          go_wp2_with (first | ((with_reducible refine gC (f := 17) rfl ?_); refine goesY_ (some 14) Try.func17 #[] ?_; (with_reducible refine (vernierlaw08_up.calls  true _ A3.out).mono ?_); rintro e w19 ⟨rfl, hb⟩; refine ⟨_, rfl, ?_⟩; have n0_ := Aside0.mk (bS3 HB.out hb); clear HB; have HB := n0_; clear n0_; (try clear hb); (try clear hb2); (try clear hk); (try clear hi)) | ((with_reducible refine gC (f := 26) rfl ?_); refine goesY_ (some 18) Try.func26 #[.int .i64 a0, .int .u64 a1] ?_; (with_reducible refine (order_Next.calls a0 a1 t299 t300 _ A4.out).mono ?_); rintro e w20 ⟨rfl, hb⟩; refine ⟨_, rfl, ?_⟩; have n0_ := Aside0.mk (bS3 HB.out hb); clear HB; have HB := n0_; clear n0_; (try clear hb); (try clear hb2); (try clear hk); (try clear hi); (try simp only [errW_none, errW_some])) | ((with_reducible refine gC (f := 27) rfl ?_); refine goesY_ (some 24) Try.func27 #[.int .i64 a0, .int .u64 a1] ?_; (with_reducible refine (order_Prev.calls a0 a1 t301 t302 _ A5.out).mono ?_); rintro e w21 ⟨rfl, hb⟩; refine ⟨_, rfl, ?_⟩; have n0_ := Aside0.mk (bS3 HB.out hb); clear HB; have HB := n0_; clear n0_; (try clear hb); (try clear hb2); (try clear hk); (try clear hi); (try simp only [errW_none, errW_some])) | ((with_reducible refine gC (f := 28) rfl ?_); refine goesY_ (some 30) Try.func28 #[.int .i64 a0, .int .u64 a1] ?_; (with_reducible refine (vernierref08_Next.calls k a0 a1 t303 t304 _ A6.out).mono ?_); rintro e w22 ⟨rfl, hb⟩; refine ⟨_, rfl, ?_⟩; have n0_ := Aside0.mk (bS3 HB.out hb); clear HB; have HB := n0_; clear n0_; (try clear hb); (try clear hb2); (try clear hk); (try clear hi)) | ((with_reducible refine gC (f := 29) rfl ?_); refine goesY_ (some 36) Try.func29 #[.int .i64 a0, .int .u64 a1] ?_; (with_reducible refine (vernierref08_Prev.calls k a0 a1 t305 t306 _ A7.out).mono ?_); rintro e w23 ⟨rfl, hb⟩; refine ⟨_, rfl, ?_⟩; have n0_ := Aside0.mk (bS3 HB.out hb); clear HB; have HB := n0_; clear n0_; (try clear hb); (try clear hb2); (try clear hk); (try clear hi); have CA11 := fun W => vernierlaw00_Code.calls t300 t307 W A11.out; try simp only [errW_none, errW_some] at CA11) | (go_at_call 20; (with_reducible refine (CA11 _).mono ?_); rintro e w' ⟨rfl, ⟨nd, rfl⟩⟩))
          go_ret
          exact ⟨by first | rfl | (simp [errW_none, errW_some] <;> rfl) | (simp [*, errW_none, errW_some] <;> rfl), by repeat (first | (with_reducible first | exact HB.out | apply pA | apply pN | apply p1) | exact HB.out)⟩
      · rw [if_neg c10] at H
        have c10b0 : (t301 == t305) = false := beq_eq_false_iff_ne.mpr c10
        have c10b1 : (t301 != t305) = true := bne_iff_ne.mpr c10
        obtain rfl := Option.some.inj H
        go_enter Try.func5, Try.ntmps5
        go_wp2_with (first | ((with_reducible refine gC (f := 17) rfl ?_); refine goesY_ (some 14) Try.func17 #[] ?_; (with_reducible refine (vernierlaw08_up.calls  true _ A3.out).mono ?_); rintro e w24 ⟨rfl, hb⟩; refine ⟨_, rfl, ?_⟩; have n0_ := Aside0.mk (bS3 HB.out hb); clear HB; have HB := n0_; clear n0_; (try clear hb); (try clear hb2); (try clear hk); (try clear hi)) | ((with_reducible refine gC (f := 26) rfl ?_); refine goesY_ (some 18) Try.func26 #[.int .i64 a0, .int .u64 a1] ?_; (with_reducible refine (order_Next.calls a0 a1 t299 t300 _ A4.out).mono ?_); rintro e w25 ⟨rfl, hb⟩; refine ⟨_, rfl, ?_⟩; have n0_ := Aside0.mk (bS3 HB.out hb); clear HB; have HB := n0_; clear n0_; (try clear hb); (try clear hb2); (try clear hk); (try clear hi); (try simp only [errW_none, errW_some])) | ((with_reducible refine gC (f := 27) rfl ?_); refine goesY_ (some 24) Try.func27 #[.int .i64 a0, .int .u64 a1] ?_; (with_reducible refine (order_Prev.calls a0 a1 t301 t302 _ A5.out).mono ?_); rintro e w26 ⟨rfl, hb⟩; refine ⟨_, rfl, ?_⟩; have n0_ := Aside0.mk (bS3 HB.out hb); clear HB; have HB := n0_; clear n0_; (try clear hb); (try clear hb2); (try clear hk); (try clear hi); (try simp only [errW_none, errW_some])) | ((with_reducible refine gC (f := 28) rfl ?_); refine goesY_ (some 30) Try.func28 #[.int .i64 a0, .int .u64 a1] ?_; (with_reducible refine (vernierref08_Next.calls k a0 a1 t303 t304 _ A6.out).mono ?_); rintro e w27 ⟨rfl, hb⟩; refine ⟨_, rfl, ?_⟩; have n0_ := Aside0.mk (bS3 HB.out hb); clear HB; have HB := n0_; clear n0_; (try clear hb); (try clear hb2); (try clear hk); (try clear hi)) | ((with_reducible refine gC (f := 29) rfl ?_); refine goesY_ (some 36) Try.func29 #[.int .i64 a0, .int .u64 a1] ?_; (with_reducible refine (vernierref08_Prev.calls k a0 a1 t305 t306 _ A7.out).mono ?_); rintro e w28 ⟨rfl, hb⟩; refine ⟨_, rfl, ?_⟩; have n0_ := Aside0.mk (bS3 HB.out hb); clear HB; have HB := n0_; clear n0_; (try clear hb); (try clear hb2); (try clear hk); (try clear hi)))
        go_ret
        exact ⟨by first | rfl | (simp [errW_none, errW_some] <;> rfl) | (simp [*, errW_none, errW_some] <;> rfl), by repeat (first | (with_reducible first | exact HB.out | apply pA | apply pN | apply p1) | exact HB.out)⟩
    · rw [if_neg c9] at H
      have c9b0 : (t299 == t303) = false := beq_eq_false_iff_ne.mpr c9
      have c9b1 : (t299 != t303) = true := bne_iff_ne.mpr c9
      obtain rfl := Option.some.inj H
      go_enter Try.func5, Try.ntmps5
      go_wp2_with (first | ((with_reducible refine gC (f := 17) rfl ?_); refine goesY_ (some 14) Try.func17 #[] ?_; (with_reducible refine (vernierlaw08_up.calls  true _ A3.out).mono ?_); rintro e w29 ⟨rfl, hb⟩; refine ⟨_, rfl, ?_⟩; have n0_ := Aside0.mk (bS3 HB.out hb); clear HB; have HB := n0_; clear n0_; (try clear hb); (try clear hb2); (try clear hk); (try clear hi)) | ((with_reducible refine gC (f := 26) rfl ?_); refine goesY_ (some 18) Try.func26 #[.int .i64 a0, .int .u64 a1] ?_; (with_reducible refine (order_Next.calls a0 a1 t299 t300 _ A4.out).mono ?_); rintro e w30 ⟨rfl, hb⟩; refine ⟨_, rfl, ?_⟩; have n0_ := Aside0.mk (bS3 HB.out hb); clear HB; have HB := n0_; clear n0_; (try clear hb); (try clear hb2); (try clear hk); (try clear hi); (try simp only [errW_none, errW_some])) | ((with_reducible refine gC (f := 27) rfl ?_); refine goesY_ (some 24) Try.func27 #[.int .i64 a0, .int .u64 a1] ?_; (with_reducible refine (order_Prev.calls a0 a1 t301 t302 _ A5.out).mono ?_); rintro e w31 ⟨rfl, hb⟩; refine ⟨_, rfl, ?_⟩; have n0_ := Aside0.mk (bS3 HB.out hb); clear HB; have HB := n0_; clear n0_; (try clear hb); (try clear hb2); (try clear hk); (try clear hi); (try simp only [errW_none, errW_some])) | ((with_reducible refine gC (f := 28) rfl ?_); refine goesY_ (some 30) Try.func28 #[.int .i64 a0, .int .u64 a1] ?_; (with_reducible refine (vernierref08_Next.calls k a0 a1 t303 t304 _ A6.out).mono ?_); rintro e w32 ⟨rfl, hb⟩; refine ⟨_, rfl, ?_⟩; have n0_ := Aside0.mk (bS3 HB.out hb); clear HB; have HB := n0_; clear n0_; (try clear hb); (try clear hb2); (try clear hk); (try clear hi)) | ((with_reducible refine gC (f := 29) rfl ?_); refine goesY_ (some 36) Try.func29 #[.int .i64 a0, .int .u64 a1] ?_; (with_reducible refine (vernierref08_Prev.calls k a0 a1 t305 t306 _ A7.out).mono ?_); rintro e w33 ⟨rfl, hb⟩; refine ⟨_, rfl, ?_⟩; have n0_ := Aside0.mk (bS3 HB.out hb); clear HB; have HB := n0_; clear n0_; (try clear hb); (try clear hb2); (try clear hk); (try clear hi)))
      go_ret
      exact ⟨by first | rfl | (simp [errW_none, errW_some] <;> rfl) | (simp [*, errW_none, errW_some] <;> rfl), by repeat (first | (with_reducible first | exact HB.out | apply pA | apply pN | apply p1) | exact HB.out)⟩
  · replace c8 := Bool.eq_false_iff.mpr c8
    subst c8
    have H1 : (some false) = some r := by rw [if_neg (show ¬ (false = true) by decide)] at H; exact H
    clear H
    have H := H1
    clear H1
    obtain rfl := Option.some.inj H
    go_enter Try.func5, Try.ntmps5
    go_wp2_with (first | ((with_reducible refine gC (f := 17) rfl ?_); refine goesY_ (some 14) Try.func17 #[] ?_; (with_reducible refine (vernierlaw08_up.calls  false _ A3.out).mono ?_); rintro e w34 ⟨rfl, hb⟩; refine ⟨_, rfl, ?_⟩; have n0_ := Aside0.mk (bS3 HB.out hb); clear HB; have HB := n0_; clear n0_; (try clear hb); (try clear hb2); (try clear hk); (try clear hi)) | ((with_reducible refine gC (f := 26) rfl ?_); refine goesY_ (some 18) Try.func26 #[.int .i64 a0, .int .u64 a1] ?_; (with_reducible refine (order_Next.calls a0 a1 t299 t300 _ A4.out).mono ?_); rintro e w35 ⟨rfl, hb⟩; refine ⟨_, rfl, ?_⟩; have n0_ := Aside0.mk (bS3 HB.out hb); clear HB; have HB := n0_; clear n0_; (try clear hb); (try clear hb2); (try clear hk); (try clear hi); (try simp only [errW_none, errW_some])) | ((with_reducible refine gC (f := 27) rfl ?_); refine goesY_ (some 24) Try.func27 #[.int .i64 a0, .int .u64 a1] ?_; (with_reducible refine (order_Prev.calls a0 a1 t301 t302 _ A5.out).mono ?_); rintro e w36 ⟨rfl, hb⟩; refine ⟨_, rfl, ?_⟩; have n0_ := Aside0.mk (bS3 HB.out hb); clear HB; have HB := n0_; clear n0_; (try clear hb); (try clear hb2); (try clear hk); (try clear hi); (try simp only [errW_none, errW_some])) | ((with_reducible refine gC (f := 28) rfl ?_); refine goesY_ (some 30) Try.func28 #[.int .i64 a0, .int .u64 a1] ?_; (with_reducible refine (vernierref08_Next.calls k a0 a1 t303 t304 _ A6.out).mono ?_); rintro e w37 ⟨rfl, hb⟩; refine ⟨_, rfl, ?_⟩; have n0_ := Aside0.mk (bS3 HB.out hb); clear HB; have HB := n0_; clear n0_; (try clear hb); (try clear hb2); (try clear hk); (try clear hi)) | ((with_reducible refine gC (f := 29) rfl ?_); refine goesY_ (some 36) Try.func29 #[.int .i64 a0, .int .u64 a1] ?_; (with_reducible refine (vernierref08_Prev.calls k a0 a1 t305 t306 _ A7.out).mono ?_); rintro e w38 ⟨rfl, hb⟩; refine ⟨_, rfl, ?_⟩; have n0_ := Aside0.mk (bS3 HB.out hb); clear HB; have HB := n0_; clear n0_; (try clear hb); (try clear hb2); (try clear hk); (try clear hi)))
    go_ret
    exact ⟨by first | rfl | (simp [errW_none, errW_some] <;> rfl) | (simp [*, errW_none, errW_some] <;> rfl), by repeat (first | (with_reducible first | exact HB.out | apply pA | apply pN | apply p1) | exact HB.out)⟩

/-- THE ONE PURE STATEMENT of vernierlaw08_OrderNexts: yours. -/
def vernierlaw08_OrderNexts.Pure : Prop := ∀ (a0 : Int) (a1 : Int), (Lit.int .i64 a0).wf = true → (Lit.int .u64 a1).wf = true → ∃ k, vernierlaw08_OrderNexts.f k a0 a1 = some true
theorem vernierlaw08_OrderNexts.walk (P : vernierlaw08_OrderNexts.Pure) (a0 : Int) (a1 : Int) (w : World) (w0 : (Lit.int .i64 a0).wf = true) (w1 : (Lit.int .u64 a1).wf = true) :
    Calls Try.prog 5 #[.int .i64 a0, .int .u64 a1] w fun e w' => e = .returned (.bool true) ∧ Below w.heap.size w w' := by
  obtain ⟨k, h⟩ := P a0 a1 w0 w1
  refine (vernierlaw08_OrderNexts.calls k a0 a1 true w h).mono ?_
  rintro e w' ⟨rfl, hd⟩
  exact ⟨rfl, hd⟩

end Go.Proofs.Yteekhbmffdmgjaa.F
