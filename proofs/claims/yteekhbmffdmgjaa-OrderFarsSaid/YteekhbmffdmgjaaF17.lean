/- Functions of the given program as plain Lean functions, and for each a proof that the program's call comes to just these answers; no further conditions. (Written by a program of this repo out of the translation.) -/
import Derived.Test.YteekhbmffdmgjaaF0
import Derived.Test.YteekhbmffdmgjaaF6
import Derived.Test.YteekhbmffdmgjaaF7
import Derived.Test.YteekhbmffdmgjaaF10
import Derived.Test.YteekhbmffdmgjaaF11
namespace Go.Proofs.Yteekhbmffdmgjaa.F
open Go.RowKit Go.Proofs.YteekhbmffdmgjaaW.PrintWords Go.Proofs.YteekhbmffdmgjaaW.PrintLast Go.Proofs.YteekhbmffdmgjaaW.PrintMore
attribute [local go_sem high] xor_u64 xor_u32 eqErr25 neErr25 eqErrL25 neErrL25
attribute [local go_sem] max2_int min2_int max_two min_two max_three min_three max_four min_four   -- for this text's walks alone
set_option linter.unusedVariables false
set_option linter.unusedSimpArgs false

/-! ### vernierlaw08_OrderFars: function 6 -/
def vernierlaw08_OrderFars.f (k : Nat) (a0 : Int) (a1 : Int) (a2 : Int) : Option (Bool) := (vernierlaw08_up.f).bind fun t320 => ((order_Steps.f a0 a1 a2).bind fun bt321 => ((vernierref08_Steps.f k a0 a1 a2).bind fun bt323 => (if t320 = true then (if bt321.1 = bt323.1 then ((vernierlaw00_Code.f bt321.2).bind fun t325 => (some (t325 == bt323.2))) else (some false)) else (some false))))
theorem vernierlaw08_OrderFars.mono : ∀ a0 a1 a2 k, LeO (vernierlaw08_OrderFars.f k a0 a1 a2) (vernierlaw08_OrderFars.f (k + 1) a0 a1 a2) := by
  intro a0 a1 a2 k
  unfold vernierlaw08_OrderFars.f
  repeat' first
      | (with_reducible exact vernierref08_Steps.mono _ _ _ _)
      | (with_reducible exact LeO.refl _)
      | (with_reducible exact LeO.none _)
      | (with_reducible refine LeO.ite ?_ ?_)
      | (with_reducible refine LeO.bind ?_ (fun _ => ?_))
      | exact vernierref08_Steps.mono _ _ _ _
      | exact LeO.none _
      | refine LeO.ite ?_ ?_
      | refine LeO.bind ?_ (fun _ => ?_)
set_option maxHeartbeats 8000000 in
set_option maxRecDepth 100000 in
theorem vernierlaw08_OrderFars.calls (k : Nat) (a0 : Int) (a1 : Int) (a2 : Int) (r : Bool) (w : World) (h : vernierlaw08_OrderFars.f k a0 a1 a2 = some r) :
    Calls Try.prog 6 #[.int .i64 a0, .int .u64 a1, .int .u64 a2] w fun e w' => e = .returned (.bool r) ∧ Below w.heap.size w w' := by
  have HB := Aside0.mk (Below.refl w.heap.size w)
  have H : ((vernierlaw08_up.f).bind fun t320 => ((order_Steps.f a0 a1 a2).bind fun bt321 => ((vernierref08_Steps.f k a0 a1 a2).bind fun bt323 => (if t320 = true then (if bt321.1 = bt323.1 then ((vernierlaw00_Code.f bt321.2).bind fun t325 => (some (t325 == bt323.2))) else (some false)) else (some false))))) = some r := h
  clear h
  replace H := Option.bind_eq_some_iff.mp H
  obtain ⟨t320, A40, H⟩ := H
  replace H : ((order_Steps.f a0 a1 a2).bind fun bt321 => ((vernierref08_Steps.f k a0 a1 a2).bind fun bt323 => (if t320 = true then (if bt321.1 = bt323.1 then ((vernierlaw00_Code.f bt321.2).bind fun t325 => (some (t325 == bt323.2))) else (some false)) else (some false)))) = some r := H
  have A4 := Aside0.mk A40
  clear A40
  replace H := Option.bind_eq_some_iff.mp H
  obtain ⟨⟨t321, t322⟩, A50, H⟩ := H
  replace H : ((vernierref08_Steps.f k a0 a1 a2).bind fun bt323 => (if t320 = true then (if t321 = bt323.1 then ((vernierlaw00_Code.f t322).bind fun t325 => (some (t325 == bt323.2))) else (some false)) else (some false))) = some r := H
  have A5 := Aside0.mk A50
  clear A50
  replace H := Option.bind_eq_some_iff.mp H
  obtain ⟨⟨t323, t324⟩, A60, H⟩ := H
  replace H : (if t320 = true then (if t321 = t323 then ((vernierlaw00_Code.f t322).bind fun t325 => (some (t325 == t324))) else (some false)) else (some false)) = some r := H
  have A6 := Aside0.mk A60
  clear A60
  by_cases c7 : t320 = true
  · subst c7
    have H1 : (if t321 = t323 then ((vernierlaw00_Code.f t322).bind fun t325 => (some (t325 == t324))) else (some false)) = some r := by rw [if_pos rfl] at H; exact H
    clear H
    have H := H1
    clear H1
    by_cases c8 : t321 = t323
    · rw [if_pos c8] at H
      have c8b0 : (t321 == t323) = true := beq_iff_eq.mpr c8
      have c8b1 : (t321 != t323) = false := bne_eq_false_iff_eq.mpr c8
      clear c8
      replace H := Option.bind_eq_some_iff.mp H
      obtain ⟨t325, A90, H⟩ := H
      replace H : (some (t325 == t324)) = some r := H
      have A9 := Aside0.mk A90
      clear A90
      obtain rfl := Option.some.inj H
      go_enter Try.func6, Try.ntmps6
      go_wp2_with (first | ((with_reducible refine gC (f := 17) rfl ?_); refine goesY_ (some 12) Try.func17 #[] ?_; (with_reducible refine (vernierlaw08_up.calls  true _ A4.out).mono ?_); rintro e w10 ⟨rfl, hb⟩; refine ⟨_, rfl, ?_⟩; have n0_ := Aside0.mk (bS3 HB.out hb); clear HB; have HB := n0_; clear n0_; (try clear hb); (try clear hb2); (try clear hk); (try clear hi)) | ((with_reducible refine gC (f := 30) rfl ?_); refine goesY_ (some 17) Try.func30 #[.int .i64 a0, .int .u64 a1, .int .u64 a2] ?_; (with_reducible refine (order_Steps.calls a0 a1 a2 t321 t322 _ A5.out).mono ?_); rintro e w' ⟨rfl, ⟨nd, rfl⟩⟩; refine ⟨_, rfl, ?_⟩; (try simp only [errW_none, errW_some])) | ((with_reducible refine gC (f := 31) rfl ?_); refine goesY_ (some 24) Try.func31 #[.int .i64 a0, .int .u64 a1, .int .u64 a2] ?_; (with_reducible refine (vernierref08_Steps.calls k a0 a1 a2 t323 t324 _ A6.out).mono ?_); rintro e w11 ⟨rfl, hb⟩; refine ⟨_, rfl, ?_⟩; have n0_ := Aside0.mk (bS3 HB.out hb); clear HB; have HB := n0_; clear n0_; (try clear hb); (try clear hb2); (try clear hk); (try clear hi); have CA9 := fun W => vernierlaw00_Code.calls t322 t325 W A9.out; try simp only [errW_none, errW_some] at CA9) | (go_at_call 20; (with_reducible refine (CA9 _).mono ?_); rintro e w' ⟨rfl, ⟨nd, rfl⟩⟩))
      go_ret
      exact ⟨by first | rfl | (simp [errW_none, errW_some] <;> rfl) | (simp [*, errW_none, errW_some] <;> rfl), by repeat (first | (with_reducible first | exact HB.out | apply pA | apply pN | apply p1) | exact HB.out)⟩
    · rw [if_neg c8] at H
      have c8b0 : (t321 == t323) = false := beq_eq_false_iff_ne.mpr c8
      have c8b1 : (t321 != t323) = true := bne_iff_ne.mpr c8
      obtain rfl := Option.some.inj H
      go_enter Try.func6, Try.ntmps6
      go_wp2_with (first | ((with_reducible refine gC (f := 17) rfl ?_); refine goesY_ (some 12) Try.func17 #[] ?_; (with_reducible refine (vernierlaw08_up.calls  true _ A4.out).mono ?_); rintro e w12 ⟨rfl, hb⟩; refine ⟨_, rfl, ?_⟩; have n0_ := Aside0.mk (bS3 HB.out hb); clear HB; have HB := n0_; clear n0_; (try clear hb); (try clear hb2); (try clear hk); (try clear hi)) | ((with_reducible refine gC (f := 30) rfl ?_); refine goesY_ (some 17) Try.func30 #[.int .i64 a0, .int .u64 a1, .int .u64 a2] ?_; (with_reducible refine (order_Steps.calls a0 a1 a2 t321 t322 _ A5.out).mono ?_); rintro e w' ⟨rfl, ⟨nd, rfl⟩⟩; refine ⟨_, rfl, ?_⟩; (try simp only [errW_none, errW_some])) | ((with_reducible refine gC (f := 31) rfl ?_); refine goesY_ (some 24) Try.func31 #[.int .i64 a0, .int .u64 a1, .int .u64 a2] ?_; (with_reducible refine (vernierref08_Steps.calls k a0 a1 a2 t323 t324 _ A6.out).mono ?_); rintro e w13 ⟨rfl, hb⟩; refine ⟨_, rfl, ?_⟩; have n0_ := Aside0.mk (bS3 HB.out hb); clear HB; have HB := n0_; clear n0_; (try clear hb); (try clear hb2); (try clear hk); (try clear hi)))
      go_ret
      exact ⟨by first | rfl | (simp [errW_none, errW_some] <;> rfl) | (simp [*, errW_none, errW_some] <;> rfl), by repeat (first | (with_reducible first | exact HB.out | apply pA | apply pN | apply p1) | exact HB.out)⟩
  · replace c7 := Bool.eq_false_iff.mpr c7
    subst c7
    have H1 : (some false) = some r := by rw [if_neg (show ¬ (false = true) by decide)] at H; exact H
    clear H
    have H := H1
    clear H1
    obtain rfl := Option.some.inj H
    go_enter Try.func6, Try.ntmps6
    go_wp2_with (first | ((with_reducible refine gC (f := 17) rfl ?_); refine goesY_ (some 12) Try.func17 #[] ?_; (with_reducible refine (vernierlaw08_up.calls  false _ A4.out).mono ?_); rintro e w14 ⟨rfl, hb⟩; refine ⟨_, rfl, ?_⟩; have n0_ := Aside0.mk (bS3 HB.out hb); clear HB; have HB := n0_; clear n0_; (try clear hb); (try clear hb2); (try clear hk); (try clear hi)) | ((with_reducible refine gC (f := 30) rfl ?_); refine goesY_ (some 17) Try.func30 #[.int .i64 a0, .int .u64 a1, .int .u64 a2] ?_; (with_reducible refine (order_Steps.calls a0 a1 a2 t321 t322 _ A5.out).mono ?_); rintro e w' ⟨rfl, ⟨nd, rfl⟩⟩; refine ⟨_, rfl, ?_⟩; (try simp only [errW_none, errW_some])) | ((with_reducible refine gC (f := 31) rfl ?_); refine goesY_ (some 24) Try.func31 #[.int .i64 a0, .int .u64 a1, .int .u64 a2] ?_; (with_reducible refine (vernierref08_Steps.calls k a0 a1 a2 t323 t324 _ A6.out).mono ?_); rintro e w15 ⟨rfl, hb⟩; refine ⟨_, rfl, ?_⟩; have n0_ := Aside0.mk (bS3 HB.out hb); clear HB; have HB := n0_; clear n0_; (try clear hb); (try clear hb2); (try clear hk); (try clear hi)))
    go_ret
    exact ⟨by first | rfl | (simp [errW_none, errW_some] <;> rfl) | (simp [*, errW_none, errW_some] <;> rfl), by repeat (first | (with_reducible first | exact HB.out | apply pA | apply pN | apply p1) | exact HB.out)⟩

/-- THE ONE PURE STATEMENT of vernierlaw08_OrderFars: yours. -/
def vernierlaw08_OrderFars.Pure : Prop := ∀ (a0 : Int) (a1 : Int) (a2 : Int), (Lit.int .i64 a0).wf = true → (Lit.int .u64 a1).wf = true → (Lit.int .u64 a2).wf = true → ∃ k, vernierlaw08_OrderFars.f k a0 a1 a2 = some true
theorem vernierlaw08_OrderFars.walk (P : vernierlaw08_OrderFars.Pure) (a0 : Int) (a1 : Int) (a2 : Int) (w : World) (w0 : (Lit.int .i64 a0).wf = true) (w1 : (Lit.int .u64 a1).wf = true) (w2 : (Lit.int .u64 a2).wf = true) :
    Calls Try.prog 6 #[.int .i64 a0, .int .u64 a1, .int .u64 a2] w fun e w' => e = .returned (.bool true) ∧ Below w.heap.size w w' := by
  obtain ⟨k, h⟩ := P a0 a1 a2 w0 w1 w2
  refine (vernierlaw08_OrderFars.calls k a0 a1 a2 true w h).mono ?_
  rintro e w' ⟨rfl, hd⟩
  exact ⟨rfl, hd⟩

end Go.Proofs.Yteekhbmffdmgjaa.F
