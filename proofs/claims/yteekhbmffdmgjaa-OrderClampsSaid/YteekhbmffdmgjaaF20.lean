/- Functions of the given program as plain Lean functions, and for each a proof that the program's call comes to just these answers; no further conditions. (Written by a program of this repo out of the translation.) -/
import Derived.Test.YteekhbmffdmgjaaF0
import Derived.Test.YteekhbmffdmgjaaF6
import Derived.Test.YteekhbmffdmgjaaF7
import Derived.Test.YteekhbmffdmgjaaF10
import Derived.Test.YteekhbmffdmgjaaF11
namespace Go.Proofs.Yteekhbmffdmgjaa.F
open Go.RowKit Go.Proofs.YteekhbmffdmgjaaW.PrintWords Go.Proofs.YteekhbmffdmgjaaW.PrintLast Go.Proofs.YteekhbmffdmgjaaW.PrintMore
attribute [local go_sem high] xor_u64 xor_u32 eqErr25 neErr25 eqErrL25 neErrL25
attribute [local go_sem] max2_int min2_int max_two min_two max_three min_three max_four min_four   -- for this text's walks alone
set_option linter.unusedVariables false
set_option linter.unusedSimpArgs false

/-! ### vernierlaw08_OrderClamps: function 9 -/
def vernierlaw08_OrderClamps.f (k : Nat) (a0 : Int) (a1 : Int) (a2 : Int) (a3 : Int) : Option (Bool) := (vernierlaw08_up.f).bind fun t421 => ((order_Clamp.f k a0 a1 a2 a3).bind fun bt422 => ((vernierref08_Clamp.f k a0 a1 a2 a3).bind fun bt424 => (if t421 = true then (if bt422.1 = bt424.1 then ((vernierlaw00_Code.f bt422.2).bind fun t426 => (some (t426 == bt424.2))) else (some false)) else (some false))))
theorem vernierlaw08_OrderClamps.mono : ∀ a0 a1 a2 a3 k, LeO (vernierlaw08_OrderClamps.f k a0 a1 a2 a3) (vernierlaw08_OrderClamps.f (k + 1) a0 a1 a2 a3) := by
  intro a0 a1 a2 a3 k
  unfold vernierlaw08_OrderClamps.f
  repeat' first
      | (with_reducible exact order_Clamp.mono _ _ _ _ _)
      | (with_reducible exact vernierref08_Clamp.mono _ _ _ _ _)
      | (with_reducible exact LeO.refl _)
      | (with_reducible exact LeO.none _)
      | (with_reducible refine LeO.ite ?_ ?_)
      | (with_reducible refine LeO.bind ?_ (fun _ => ?_))
      | exact order_Clamp.mono _ _ _ _ _
      | exact vernierref08_Clamp.mono _ _ _ _ _
      | exact LeO.none _
      | refine LeO.ite ?_ ?_
      | refine LeO.bind ?_ (fun _ => ?_)
set_option maxHeartbeats 8000000 in
set_option maxRecDepth 100000 in
theorem vernierlaw08_OrderClamps.calls (k : Nat) (a0 : Int) (a1 : Int) (a2 : Int) (a3 : Int) (r : Bool) (w : World) (h : vernierlaw08_OrderClamps.f k a0 a1 a2 a3 = some r) :
    Calls Try.prog 9 #[.int .i64 a0, .int .u64 a1, .int .u64 a2, .int .u64 a3] w fun e w' => e = .returned (.bool r) ∧ Below w.heap.size w w' := by
  have HB := Aside0.mk (Below.refl w.heap.size w)
  have H : ((vernierlaw08_up.f).bind fun t421 => ((order_Clamp.f k a0 a1 a2 a3).bind fun bt422 => ((vernierref08_Clamp.f k a0 a1 a2 a3).bind fun bt424 => (if t421 = true then (if bt422.1 = bt424.1 then ((vernierlaw00_Code.f bt422.2).bind fun t426 => (some (t426 == bt424.2))) else (some false)) else (some false))))) = some r := h
  clear h
  replace H := Option.bind_eq_some_iff.mp H
  obtain ⟨t421, A50, H⟩ := H
  replace H : ((order_Clamp.f k a0 a1 a2 a3).bind fun bt422 => ((vernierref08_Clamp.f k a0 a1 a2 a3).bind fun bt424 => (if t421 = true then (if bt422.1 = bt424.1 then ((vernierlaw00_Code.f bt422.2).bind fun t426 => (some (t426 == bt424.2))) else (some false)) else (some false)))) = some r := H
  have A5 := Aside0.mk A50
  clear A50
  replace H := Option.bind_eq_some_iff.mp H
  obtain ⟨⟨t422, t423⟩, A60, H⟩ := H
  replace H : ((vernierref08_Clamp.f k a0 a1 a2 a3).bind fun bt424 => (if t421 = true then (if t422 = bt424.1 then ((vernierlaw00_Code.f t423).bind fun t426 => (some (t426 == bt424.2))) else (some false)) else (some false))) = some r := H
  have A6 := Aside0.mk A60
  clear A60
  replace H := Option.bind_eq_some_iff.mp H
  obtain ⟨⟨t424, t425⟩, A70, H⟩ := H
  replace H : (if t421 = true then (if t422 = t424 then ((vernierlaw00_Code.f t423).bind fun t426 => (some (t426 == t425))) else (some false)) else (some false)) = some r := H
  have A7 := Aside0.mk A70
  clear A70
  by_cases c8 : t421 = true
  · subst c8
    have H1 : (if t422 = t424 then ((vernierlaw00_Code.f t423).bind fun t426 => (some (t426 == t425))) else (some false)) = some r := by rw [if_pos rfl] at H; exact H
    clear H
    have H := H1
    clear H1
    by_cases c9 : t422 = t424
    · rw [if_pos c9] at H
      have c9b0 : (t422 == t424) = true := beq_iff_eq.mpr c9
      have c9b1 : (t422 != t424) = false := bne_eq_false_iff_eq.mpr c9
      clear c9
      replace H := Option.bind_eq_some_iff.mp H
      obtain ⟨t426, A100, H⟩ := H
      replace H : (some (t426 == t425)) = some r := H
      have A10 := Aside0.mk A100
      clear A100
      obtain rfl := Option.some.inj H
      go_enter Try.func9, Try.ntmps9
      go_wp2_with (first | ((with_reducible refine gC (f := 17) rfl ?_); refine goesY_ (some 14) Try.func17 #[] ?_; (with_reducible refine (vernierlaw08_up.calls  true _ A5.out).mono ?_); rintro e w11 ⟨rfl, hb⟩; refine ⟨_, rfl, ?_⟩; have n0_ := Aside0.mk (bS3 HB.out hb); clear HB; have HB := n0_; clear n0_; (try clear hb); (try clear hb2); (try clear hk); (try clear hi)) | ((with_reducible refine gC (f := 41) rfl ?_); refine goesY_ (some 20) Try.func41 #[.int .i64 a0, .int .u64 a1, .int .u64 a2, .int .u64 a3] ?_; (with_reducible refine (order_Clamp.calls k a0 a1 a2 a3 t422 t423 _ A6.out).mono ?_); rintro e w12 ⟨rfl, hb⟩; refine ⟨_, rfl, ?_⟩; have n0_ := Aside0.mk (bS3 HB.out hb); clear HB; have HB := n0_; clear n0_; (try clear hb); (try clear hb2); (try clear hk); (try clear hi); (try simp only [errW_none, errW_some])) | ((with_reducible refine gC (f := 42) rfl ?_); refine goesY_ (some 28) Try.func42 #[.int .i64 a0, .int .u64 a1, .int .u64 a2, .int .u64 a3] ?_; (with_reducible refine (vernierref08_Clamp.calls k a0 a1 a2 a3 t424 t425 _ A7.out).mono ?_); rintro e w13 ⟨rfl, hb⟩; refine ⟨_, rfl, ?_⟩; have n0_ := Aside0.mk (bS3 HB.out hb); clear HB; have HB := n0_; clear n0_; (try clear hb); (try clear hb2); (try clear hk); (try clear hi); have CA10 := fun W => vernierlaw00_Code.calls t423 t426 W A10.out; try simp only [errW_none, errW_some] at CA10) | (go_at_call 20; (with_reducible refine (CA10 _).mono ?_); rintro e w' ⟨rfl, ⟨nd, rfl⟩⟩))
      go_ret
      exact ⟨by first | rfl | (simp [errW_none, errW_some] <;> rfl) | (simp [*, errW_none, errW_some] <;> rfl), by repeat (first | (with_reducible first | exact HB.out | apply pA | apply pN | apply p1) | exact HB.out)⟩
    · rw [if_neg c9] at H
      have c9b0 : (t422 == t424) = false := beq_eq_false_iff_ne.mpr c9
      have c9b1 : (t422 != t424) = true := bne_iff_ne.mpr c9
      obtain rfl := Option.some.inj H
      go_enter Try.func9, Try.ntmps9
      go_wp2_with (first | ((with_reducible refine gC (f := 17) rfl ?_); refine goesY_ (some 14) Try.func17 #[] ?_; (with_reducible refine (vernierlaw08_up.calls  true _ A5.out).mono ?_); rintro e w14 ⟨rfl, hb⟩; refine ⟨_, rfl, ?_⟩; have n0_ := Aside0.mk (bS3 HB.out hb); clear HB; have HB := n0_; clear n0_; (try clear hb); (try clear hb2); (try clear hk); (try clear hi)) | ((with_reducible refine gC (f := 41) rfl ?_); refine goesY_ (some 20) Try.func41 #[.int .i64 a0, .int .u64 a1, .int .u64 a2, .int .u64 a3] ?_; (with_reducible refine (order_Clamp.calls k a0 a1 a2 a3 t422 t423 _ A6.out).mono ?_); rintro e w15 ⟨rfl, hb⟩; refine ⟨_, rfl, ?_⟩; have n0_ := Aside0.mk (bS3 HB.out hb); clear HB; have HB := n0_; clear n0_; (try clear hb); (try clear hb2); (try clear hk); (try clear hi); (try simp only [errW_none, errW_some])) | ((with_reducible refine gC (f := 42) rfl ?_); refine goesY_ (some 28) Try.func42 #[.int .i64 a0, .int .u64 a1, .int .u64 a2, .int .u64 a3] ?_; (with_reducible refine (vernierref08_Clamp.calls k a0 a1 a2 a3 t424 t425 _ A7.out).mono ?_); rintro e w16 ⟨rfl, hb⟩; refine ⟨_, rfl, ?_⟩; have n0_ := Aside0.mk (bS3 HB.out hb); clear HB; have HB := n0_; clear n0_; (try clear hb); (try clear hb2); (try clear hk); (try clear hi)))
      go_ret
      exact ⟨by first | rfl | (simp [errW_none, errW_some] <;> rfl) | (simp [*, errW_none, errW_some] <;> rfl), by repeat (first | (with_reducible first | exact HB.out | apply pA | apply pN | apply p1) | exact HB.out)⟩
  · replace c8 := Bool.eq_false_iff.mpr c8
    subst c8
    have H1 : (some false) = some r := by rw [if_neg (show ¬ (false = true) by decide)] at H; exact H
    clear H
    have H := H1
    clear H1
    obtain rfl := Option.some.inj H
    go_enter Try.func9, Try.ntmps9
    go_wp2_with (first | ((with_reducible refine gC (f := 17) rfl ?_); refine goesY_ (some 14) Try.func17 #[] ?_; (with_reducible refine (vernierlaw08_up.calls  false _ A5.out).mono ?_); rintro e w17 ⟨rfl, hb⟩; refine ⟨_, rfl, ?_⟩; have n0_ := Aside0.mk (bS3 HB.out hb); clear HB; have HB := n0_; clear n0_; (try clear hb); (try clear hb2); (try clear hk); (try clear hi)) | ((with_reducible refine gC (f := 41) rfl ?_); refine goesY_ (some 20) Try.func41 #[.int .i64 a0, .int .u64 a1, .int .u64 a2, .int .u64 a3] ?_; (with_reducible refine (order_Clamp.calls k a0 a1 a2 a3 t422 t423 _ A6.out).mono ?_); rintro e w18 ⟨rfl, hb⟩; refine ⟨_, rfl, ?_⟩; have n0_ := Aside0.mk (bS3 HB.out hb); clear HB; have HB := n0_; clear n0_; (try clear hb); (try clear hb2); (try clear hk); (try clear hi); (try simp only [errW_none, errW_some])) | ((with_reducible refine gC (f := 42) rfl ?_); refine goesY_ (some 28) Try.func42 #[.int .i64 a0, .int .u64 a1, .int .u64 a2, .int .u64 a3] ?_; (with_reducible refine (vernierref08_Clamp.calls k a0 a1 a2 a3 t424 t425 _ A7.out).mono ?_); rintro e w19 ⟨rfl, hb⟩; refine ⟨_, rfl, ?_⟩; have n0_ := Aside0.mk (bS3 HB.out hb); clear HB; have HB := n0_; clear n0_; (try clear hb); (try clear hb2); (try clear hk); (try clear hi)))
    go_ret
    exact ⟨by first | rfl | (simp [errW_none, errW_some] <;> rfl) | (simp [*, errW_none, errW_some] <;> rfl), by repeat (first | (with_reducible first | exact HB.out | apply pA | apply pN | apply p1) | exact HB.out)⟩

/-- THE ONE PURE STATEMENT of vernierlaw08_OrderClamps: yours. -/
def vernierlaw08_OrderClamps.Pure : Prop := ∀ (a0 : Int) (a1 : Int) (a2 : Int) (a3 : Int), (Lit.int .i64 a0).wf = true → (Lit.int .u64 a1).wf = true → (Lit.int .u64 a2).wf = true → (Lit.int .u64 a3).wf = true → ∃ k, vernierlaw08_OrderClamps.f k a0 a1 a2 a3 = some true
theorem vernierlaw08_OrderClamps.walk (P : vernierlaw08_OrderClamps.Pure) (a0 : Int) (a1 : Int) (a2 : Int) (a3 : Int) (w : World) (w0 : (Lit.int .i64 a0).wf = true) (w1 : (Lit.int .u64 a1).wf = true) (w2 : (Lit.int .u64 a2).wf = true) (w3 : (Lit.int .u64 a3).wf = true) :
    Calls Try.prog 9 #[.int .i64 a0, .int .u64 a1, .int .u64 a2, .int .u64 a3] w fun e w' => e = .returned (.bool true) ∧ Below w.heap.size w w' := by
  obtain ⟨k, h⟩ := P a0 a1 a2 a3 w0 w1 w2 w3
  refine (vernierlaw08_OrderClamps.calls k a0 a1 a2 a3 true w h).mono ?_
  rintro e w' ⟨rfl, hd⟩
  exact ⟨rfl, hd⟩

end Go.Proofs.Yteekhbmffdmgjaa.F
