/- Functions of the given program as plain Lean functions, and for each a proof that the program's call comes to just these answers; no further conditions. (Written by a program of this repo out of the translation.) -/
import Derived.Test.YtjbcfiigafbobaaF0
import Derived.Test.YtjbcfiigafbobaaF12
import Derived.Test.YtjbcfiigafbobaaF19
import Derived.Test.YtjbcfiigafbobaaF20
import Derived.Test.YtjbcfiigafbobaaF21
namespace Go.Proofs.Ytjbcfiigafbobaa.F
open Go.RowKit Go.Proofs.YtjbcfiigafbobaaW.PrintWords Go.Proofs.YtjbcfiigafbobaaW.PrintLast Go.Proofs.YtjbcfiigafbobaaW.PrintMore
attribute [local go_sem high] xor_u64 xor_u32 eqErr29 neErr29 eqErrL29 neErrL29
attribute [local go_sem] max2_int min2_int max_two min_two max_three min_three max_four min_four   -- for this text's walks alone
set_option linter.unusedVariables false
set_option linter.unusedSimpArgs false

/-! ### vernierlaw05_ShapeFolds: function 18 -/
def vernierlaw05_ShapeFolds.f (k : Nat) (a0 : Int) (a1 : Int) : Option (Bool) := (vernierlaw05_up.f).bind fun t590 => ((shape_Fold.f a0 a1).bind fun bt591 => ((shape_Kind.f a0 a1).bind fun bt593 => ((vernierref05_Fold.f k a0 a1).bind fun bt595 => ((vernierref05_Kind.f k a0 a1).bind fun bt597 => (if t590 = true then (if bt591.1 = bt595.1 then ((vernierlaw00_Code.f bt591.2).bind fun t599 => (if t599 = bt595.2 then (if bt593.1 = bt597.1 then ((vernierlaw00_Code.f bt593.2).bind fun t600 => (some (t600 == bt597.2))) else (some false)) else (some false))) else (some false)) else (some false))))))
theorem vernierlaw05_ShapeFolds.mono : ∀ a0 a1 k, LeO (vernierlaw05_ShapeFolds.f k a0 a1) (vernierlaw05_ShapeFolds.f (k + 1) a0 a1) := by
  intro a0 a1 k
  unfold vernierlaw05_ShapeFolds.f
  repeat' first
      | (with_reducible exact vernierref05_Fold.mono _ _ _)
      | (with_reducible exact vernierref05_Kind.mono _ _ _)
      | (with_reducible exact LeO.refl _)
      | (with_reducible exact LeO.none _)
      | (with_reducible refine LeO.ite ?_ ?_)
      | (with_reducible refine LeO.bind ?_ (fun _ => ?_))
      | exact vernierref05_Fold.mono _ _ _
      | exact vernierref05_Kind.mono _ _ _
      | exact LeO.none _
      | refine LeO.ite ?_ ?_
      | refine LeO.bind ?_ (fun _ => ?_)
set_option maxHeartbeats 8000000 in
set_option maxRecDepth 100000 in
theorem vernierlaw05_ShapeFolds.calls (k : Nat) (a0 : Int) (a1 : Int) (r : Bool) (w : World) (h : vernierlaw05_ShapeFolds.f k a0 a1 = some r) :
    Calls Try.prog 18 #[.int .i64 a0, .int .u64 a1] w fun e w' => e = .returned (.bool r) ∧ Below w.heap.size w w' := by
  have HB := Aside0.mk (Below.refl w.heap.size w)
  have H : ((vernierlaw05_up.f).bind fun t590 => ((shape_Fold.f a0 a1).bind fun bt591 => ((shape_Kind.f a0 a1).bind fun bt593 => ((vernierref05_Fold.f k a0 a1).bind fun bt595 => ((vernierref05_Kind.f k a0 a1).bind fun bt597 => (if t590 = true then (if bt591.1 = bt595.1 then ((vernierlaw00_Code.f bt591.2).bind fun t599 => (if t599 = bt595.2 then (if bt593.1 = bt597.1 then ((vernierlaw00_Code.f bt593.2).bind fun t600 => (some (t600 == bt597.2))) else (some false)) else (some false))) else (some false)) else (some false))))))) = some r := h
  clear h
  replace H := Option.bind_eq_some_iff.mp H
  obtain ⟨t590, A30, H⟩ := H
  replace H : ((shape_Fold.f a0 a1).bind fun bt591 => ((shape_Kind.f a0 a1).bind fun bt593 => ((vernierref05_Fold.f k a0 a1).bind fun bt595 => ((vernierref05_Kind.f k a0 a1).bind fun bt597 => (if t590 = true then (if bt591.1 = bt595.1 then ((vernierlaw00_Code.f bt591.2).bind fun t599 => (if t599 = bt595.2 then (if bt593.1 = bt597.1 then ((vernierlaw00_Code.f bt593.2).bind fun t600 => (some (t600 == bt597.2))) else (some false)) else (some false))) else (some false)) else (some false)))))) = some r := H
  have A3 := Aside0.mk A30
  clear A30
  replace H := Option.bind_eq_some_iff.mp H
  obtain ⟨⟨t591, t592⟩, A40, H⟩ := H
  replace H : ((shape_Kind.f a0 a1).bind fun bt593 => ((vernierref05_Fold.f k a0 a1).bind fun bt595 => ((vernierref05_Kind.f k a0 a1).bind fun bt597 => (if t590 = true then (if t591 = bt595.1 then ((vernierlaw00_Code.f t592).bind fun t599 => (if t599 = bt595.2 then (if bt593.1 = bt597.1 then ((vernierlaw00_Code.f bt593.2).bind fun t600 => (some (t600 == bt597.2))) else (some false)) else (some false))) else (some false)) else (some false))))) = some r := H
  have A4 := Aside0.mk A40
  clear A40
  replace H := Option.bind_eq_some_iff.mp H
  obtain ⟨⟨t593, t594⟩, A50, H⟩ := H
  replace H : ((vernierref05_Fold.f k a0 a1).bind fun bt595 => ((vernierref05_Kind.f k a0 a1).bind fun bt597 => (if t590 = true then (if t591 = bt595.1 then ((vernierlaw00_Code.f t592).bind fun t599 => (if t599 = bt595.2 then (if t593 = bt597.1 then ((vernierlaw00_Code.f t594).bind fun t600 => (some (t600 == bt597.2))) else (some false)) else (some false))) else (some false)) else (some false)))) = some r := H
  have A5 := Aside0.mk A50
  clear A50
  replace H := Option.bind_eq_some_iff.mp H
  obtain ⟨⟨t595, t596⟩, A60, H⟩ := H
  replace H : ((vernierref05_Kind.f k a0 a1).bind fun bt597 => (if t590 = true then (if t591 = t595 then ((vernierlaw00_Code.f t592).bind fun t599 => (if t599 = t596 then (if t593 = bt597.1 then ((vernierlaw00_Code.f t594).bind fun t600 => (some (t600 == bt597.2))) else (some false)) else (some false))) else (some false)) else (some false))) = some r := H
  have A6 := Aside0.mk A60
  clear A60
  replace H := Option.bind_eq_some_iff.mp H
  obtain ⟨⟨t597, t598⟩, A70, H⟩ := H
  replace H : (if t590 = true then (if t591 = t595 then ((vernierlaw00_Code.f t592).bind fun t599 => (if t599 = t596 then (if t593 = t597 then ((vernierlaw00_Code.f t594).bind fun t600 => (some (t600 == t598))) else (some false)) else (some false))) else (some false)) else (some false)) = some r := H
  have A7 := Aside0.mk A70
  clear A70
  by_cases c8 : t590 = true
  · subst c8
    have H1 : (if t591 = t595 then ((vernierlaw00_Code.f t592).bind fun t599 => (if t599 = t596 then (if t593 = t597 then ((vernierlaw00_Code.f t594).bind fun t600 => (some (t600 == t598))) else (some false)) else (some false))) else (some false)) = some r := by rw [if_pos rfl] at H; exact H
    clear H
    have H := H1
    clear H1
    by_cases c9 : t591 = t595
    · rw [if_pos c9] at H
      have c9b0 : (t591 == t595) = true := beq_iff_eq.mpr c9
      have c9b1 : (t591 != t595) = false := bne_eq_false_iff_eq.mpr c9
      clear c9
      replace H := Option.bind_eq_some_iff.mp H
      obtain ⟨t599, A100, H⟩ := H
      replace H : (if t599 = t596 then (if t593 = t597 then ((vernierlaw00_Code.f t594).bind fun t600 => (some (t600 == t598))) else (some false)) else (some false)) = some r := H
      have A10 := Aside0.mk A100
      clear A100
      by_cases c11 : t599 = t596
      · rw [if_pos c11] at H
        have c11b0 : (t599 == t596) = true := beq_iff_eq.mpr c11
        have c11b1 : (t599 != t596) = false := bne_eq_false_iff_eq.mpr c11
        clear c11
        by_cases c12 : t593 = t597
        · rw [if_pos c12] at H
          have c12b0 : (t593 == t597) = true := beq_iff_eq.mpr c12
          have c12b1 : (t593 != t597) = false := bne_eq_false_iff_eq.mpr c12
          clear c12
          replace H := Option.bind_eq_some_iff.mp H
          obtain ⟨t600, A130, H⟩ := H
          replace H : (some (t600 == t598)) = some r := H
          have A13 := Aside0.mk A130
          clear A130
          obtain rfl := Option.some.inj H
          go_enter Try.func18, Try.ntmps18
          go_wp2_with (first | ((with_reducible refine gC (f := 39) rfl ?_); refine goesY_ (some 14) Try.func39 #[] ?_; (with_reducible refine (vernierlaw05_up.calls  true _ A3.out).mono ?_); rintro e w14 ⟨rfl, hb⟩; refine ⟨_, rfl, ?_⟩; have n0_ := Aside0.mk (bS3 HB.out hb); clear HB; have HB := n0_; clear n0_; (try clear hb); (try clear hb2); (try clear hk); (try clear hi)) | ((with_reducible refine gC (f := 53) rfl ?_); refine goesY_ (some 18) Try.func53 #[.int .i64 a0, .int .u64 a1] ?_; (with_reducible refine (shape_Fold.calls a0 a1 t591 t592 _ A4.out).mono ?_); rintro e w' ⟨rfl, ⟨nd, rfl⟩⟩; refine ⟨_, rfl, ?_⟩; (try simp only [errW_none, errW_some])) | ((with_reducible refine gC (f := 58) rfl ?_); refine goesY_ (some 24) Try.func58 #[.int .i64 a0, .int .u64 a1] ?_; (with_reducible refine (shape_Kind.calls a0 a1 t593 t594 _ A5.out).mono ?_); rintro e w' ⟨rfl, ⟨nd, rfl⟩⟩; refine ⟨_, rfl, ?_⟩; (try simp only [errW_none, errW_some])) | ((with_reducible refine gC (f := 59) rfl ?_); refine goesY_ (some 30) Try.func59 #[.int .i64 a0, .int .u64 a1] ?_; (with_reducible refine (vernierref05_Fold.calls k a0 a1 t595 t596 _ A6.out).mono ?_); rintro e w15 ⟨rfl, hb⟩; refine ⟨_, rfl, ?_⟩; have n0_ := Aside0.mk (bS3 HB.out hb); clear HB; have HB := n0_; clear n0_; (try clear hb); (try clear hb2); (try clear hk); (try clear hi)) | ((with_reducible refine gC (f := 60) rfl ?_); refine goesY_ (some 36) Try.func60 #[.int .i64 a0, .int .u64 a1] ?_; (with_reducible refine (vernierref05_Kind.calls k a0 a1 t597 t598 _ A7.out).mono ?_); rintro e w16 ⟨rfl, hb⟩; refine ⟨_, rfl, ?_⟩; have n0_ := Aside0.mk (bS3 HB.out hb); clear HB; have HB := n0_; clear n0_; (try clear hb); (try clear hb2); (try clear hk); (try clear hi); have CA10 := fun W => vernierlaw00_Code.calls t592 t599 W A10.out; try simp only [errW_none, errW_some] at CA10) | (go_at_call 28; (with_reducible refine (CA10 _).mono ?_); rintro e w' ⟨rfl, ⟨nd, rfl⟩⟩; have CA13 := fun W => vernierlaw00_Code.calls t594 t600 W A13.out; try simp only [errW_none, errW_some] at CA13) | (go_at_call 28; (with_reducible refine (CA13 _).mono ?_); rintro e w' ⟨rfl, ⟨nd, rfl⟩⟩))
          go_ret
          exact ⟨by first | rfl | (simp [errW_none, errW_some] <;> rfl) | (simp [*, errW_none, errW_some] <;> rfl), by repeat (first | (with_reducible first | exact HB.out | apply pA | apply pN | apply p1) | exact HB.out)⟩
        · rw [if_neg c12] at H
          have c12b0 : (t593 == t597) = false := beq_eq_false_iff_ne.mpr c12
          have c12b1 : (t593 != t597) = true := bne_iff_ne.mpr c12
          obtain rfl := Option.some.inj H
          go_enter Try.func18, Try.ntmps18
          go_wp2_with (first | ((with_reducible refine gC (f := 39) rfl ?_); refine goesY_ (some 14) Try.func39 #[] ?_; (with_reducible refine (vernierlaw05_up.calls  true _ A3.out).mono ?_); rintro e w17 ⟨rfl, hb⟩; refine ⟨_, rfl, ?_⟩; have n0_ := Aside0.mk (bS3 HB.out hb); clear HB; have HB := n0_; clear n0_; (try clear hb); (try clear hb2); (try clear hk); (try clear hi)) | ((with_reducible refine gC (f := 53) rfl ?_); refine goesY_ (some 18) Try.func53 #[.int .i64 a0, .int .u64 a1] ?_; (with_reducible refine (shape_Fold.calls a0 a1 t591 t592 _ A4.out).mono ?_); rintro e w' ⟨rfl, ⟨nd, rfl⟩⟩; refine ⟨_, rfl, ?_⟩; (try simp only [errW_none, errW_some])) | ((with_reducible refine gC (f := 58) rfl ?_); refine goesY_ (some 24) Try.func58 #[.int .i64 a0, .int .u64 a1] ?_; (with_reducible refine (shape_Kind.calls a0 a1 t593 t594 _ A5.out).mono ?_); rintro e w' ⟨rfl, ⟨nd, rfl⟩⟩; refine ⟨_, rfl, ?_⟩; (try simp only [errW_none, errW_some])) | ((with_reducible refine gC (f := 59) rfl ?_); refine goesY_ (some 30) Try.func59 #[.int .i64 a0, .int .u64 a1] ?_; (with_reducible refine (vernierref05_Fold.calls k a0 a1 t595 t596 _ A6.out).mono ?_); rintro e w18 ⟨rfl, hb⟩; refine ⟨_, rfl, ?_⟩; have n0_ := Aside0.mk (bS3 HB.out hb); clear HB; have HB := n0_; clear n0_; (try clear hb); (try clear hb2); (try clear hk); (try clear hi)) | ((with_reducible refine gC (f := 60) rfl ?_); refine goesY_ (some 36) Try.func60 #[.int .i64 a0, .int .u64 a1] ?_; (with_reducible refine (vernierref05_Kind.calls k a0 a1 t597 t598 _ A7.out).mono ?_); rintro e w19 ⟨rfl, hb⟩; refine ⟨_, rfl, ?_⟩; have n0_ := Aside0.mk (bS3 HB.out hb); clear HB; have HB := n0_; clear n0_; (try clear hb); (try clear hb2); (try clear hk); (try clear hi); have CA10 := fun W => vernierlaw00_Code.calls t592 t599 W A10.out; try simp only [errW_none, errW_some] at CA10) | (go_at_call 28; (with_reducible refine (CA10 _).mono ?_); rintro e w' ⟨rfl, ⟨nd, rfl⟩⟩))
          go_ret
          exact ⟨by first | rfl | (simp [errW_none, errW_some] <;> rfl) | (simp [*, errW_none, errW_some] <;> rfl), by repeat (first | (with_reducible first | exact HB.out | apply pA | apply pN | apply p1) | exact HB.out)⟩
      · rw [if_neg c11] at H
        have c11b0 : (t599 == t596) = false := beq_eq_false_iff_ne.mpr c11
        have c11b1 : (t599 != t596) = true := bne_iff_ne.mpr c11
        obtain rfl := Option.some.inj H
        go_enter Try.func18, Try.ntmps18
        go_wp2_with (first | ((with_reducible refine gC (f := 39) rfl ?_); refine goesY_ (some 14) Try.func39 #[] ?_; (with_reducible refine (vernierlaw05_up.calls  true _ A3.out).mono ?_); rintro e w20 ⟨rfl, hb⟩; refine ⟨_, rfl, ?_⟩; have n0_ := Aside0.mk (bS3 HB.out hb); clear HB; have HB := n0_; clear n0_; (try clear hb); (try clear hb2); (try clear hk); (try clear hi)) | ((with_reducible refine gC (f := 53) rfl ?_); refine goesY_ (some 18) Try.func53 #[.int .i64 a0, .int .u64 a1] ?_; (with_reducible refine (shape_Fold.calls a0 a1 t591 t592 _ A4.out).mono ?_); rintro e w' ⟨rfl, ⟨nd, rfl⟩⟩; refine ⟨_, rfl, ?_⟩; (try simp only [errW_none, errW_some])) | ((with_reducible refine gC (f := 58) rfl ?_); refine goesY_ (some 24) Try.func58 #[.int .i64 a0, .int .u64 a1] ?_; (with_reducible refine (shape_Kind.calls a0 a1 t593 t594 _ A5.out).mono ?_); rintro e w' ⟨rfl, ⟨nd, rfl⟩⟩; refine ⟨_, rfl, ?_⟩; (try simp only [errW_none, errW_some])) | ((with_reducible refine gC (f := 59) rfl ?_); refine goesY_ (some 30) Try.func59 #[.int .i64 a0, .int .u64 a1] ?_; (with_reducible refine (vernierref05_Fold.calls k a0 a1 t595 t596 _ A6.out).mono ?_); rintro e w21 ⟨rfl, hb⟩; refine ⟨_, rfl, ?_⟩; have n0_ := Aside0.mk (bS3 HB.out hb); clear HB; have HB := n0_; clear n0_; (try clear hb); (try clear hb2); (try clear hk); (try clear hi)) | ((with_reducible refine gC (f := 60) rfl ?_); refine goesY_ (some 36) Try.func60 #[.int .i64 a0, .int .u64 a1] ?_; (with_reducible refine (vernierref05_Kind.calls k a0 a1 t597 t598 _ A7.out).mono ?_); rintro e w22 ⟨rfl, hb⟩; refine ⟨_, rfl, ?_⟩; have n0_ := Aside0.mk (bS3 HB.out hb); clear HB; have HB := n0_; clear n0_; (try clear hb); (try clear hb2); (try clear hk); (try clear hi); have CA10 := fun W => vernierlaw00_Code.calls t592 t599 W A10.out; try simp only [errW_none, errW_some] at CA10) | (go_at_call 28; (with_reducible refine (CA10 _).mono ?_); rintro e w' ⟨rfl, ⟨nd, rfl⟩⟩))
        go_ret
        exact ⟨by first | rfl | (simp [errW_none, errW_some] <;> rfl) | (simp [*, errW_none, errW_some] <;> rfl), by repeat (first | (with_reducible first | exact HB.out | apply pA | apply pN | apply p1) | exact HB.out)⟩
    · rw [if_neg c9] at H
      have c9b0 : (t591 == t595) = false := beq_eq_false_iff_ne.mpr c9
      have c9b1 : (t591 != t595) = true := bne_iff_ne.mpr c9
      obtain rfl := Option.some.inj H
      go_enter Try.func18, Try.ntmps18
      go_wp2_with (first | ((with_reducible refine gC (f := 39) rfl ?_); refine goesY_ (some 14) Try.func39 #[] ?_; (with_reducible refine (vernierlaw05_up.calls  true _ A3.out).mono ?_); rintro e w23 ⟨rfl, hb⟩; refine ⟨_, rfl, ?_⟩; have n0_ := Aside0.mk (bS3 HB.out hb); clear HB; have HB := n0_; clear n0_; (try clear hb); (try clear hb2); (try clear hk); (try clear hi)) | ((with_reducible refine gC (f := 53) rfl ?_); refine goesY_ (some 18) Try.func53 #[.int .i64 a0, .int .u64 a1] ?_; (with_reducible refine (shape_Fold.calls a0 a1 t591 t592 _ A4.out).mono ?_); rintro e w' ⟨rfl, ⟨nd, rfl⟩⟩; refine ⟨_, rfl, ?_⟩; (try simp only [errW_none, errW_some])) | ((with_reducible refine gC (f := 58) rfl ?_); refine goesY_ (some 24) Try.func58 #[.int .i64 a0, .int .u64 a1] ?_; (with_reducible refine (shape_Kind.calls a0 a1 t593 t594 _ A5.out).mono ?_); rintro e w' ⟨rfl, ⟨nd, rfl⟩⟩; refine ⟨_, rfl, ?_⟩; (try simp only [errW_none, errW_some])) | ((with_reducible refine gC (f := 59) rfl ?_); refine goesY_ (some 30) Try.func59 #[.int .i64 a0, .int .u64 a1] ?_; (with_reducible refine (vernierref05_Fold.calls k a0 a1 t595 t596 _ A6.out).mono ?_); rintro e w24 ⟨rfl, hb⟩; refine ⟨_, rfl, ?_⟩; have n0_ := Aside0.mk (bS3 HB.out hb); clear HB; have HB := n0_; clear n0_; (try clear hb); (try clear hb2); (try clear hk); (try clear hi)) | ((with_reducible refine gC (f := 60) rfl ?_); refine goesY_ (some 36) Try.func60 #[.int .i64 a0, .int .u64 a1] ?_; (with_reducible refine (vernierref05_Kind.calls k a0 a1 t597 t598 _ A7.out).mono ?_); rintro e w25 ⟨rfl, hb⟩; refine ⟨_, rfl, ?_⟩; have n0_ := Aside0.mk (bS3 HB.out hb); clear HB; have HB := n0_; clear n0_; (try clear hb); (try clear hb2); (try clear hk); (try clear hi)))
      go_ret
      exact ⟨by first | rfl | (simp [errW_none, errW_some] <;> rfl) | (simp [*, errW_none, errW_some] <;> rfl), by repeat (first | (with_reducible first | exact HB.out | apply pA | apply pN | apply p1) | exact HB.out)⟩
  · replace c8 := Bool.eq_false_iff.mpr c8
    subst c8
    have H1 : (some false) = some r := by rw [if_neg (show ¬ (false = true) by decide)] at H; exact H
    clear H
    have H := H1
    clear H1
    obtain rfl := Option.some.inj H
    go_enter Try.func18, Try.ntmps18
    go_wp2_with (first | ((with_reducible refine gC (f := 39) rfl ?_); refine goesY_ (some 14) Try.func39 #[] ?_; (with_reducible refine (vernierlaw05_up.calls  false _ A3.out).mono ?_); rintro e w26 ⟨rfl, hb⟩; refine ⟨_, rfl, ?_⟩; have n0_ := Aside0.mk (bS3 HB.out hb); clear HB; have HB := n0_; clear n0_; (try clear hb); (try clear hb2); (try clear hk); (try clear hi)) | ((with_reducible refine gC (f := 53) rfl ?_); refine goesY_ (some 18) Try.func53 #[.int .i64 a0, .int .u64 a1] ?_; (with_reducible refine (shape_Fold.calls a0 a1 t591 t592 _ A4.out).mono ?_); rintro e w' ⟨rfl, ⟨nd, rfl⟩⟩; refine ⟨_, rfl, ?_⟩; (try simp only [errW_none, errW_some])) | ((with_reducible refine gC (f := 58) rfl ?_); refine goesY_ (some 24) Try.func58 #[.int .i64 a0, .int .u64 a1] ?_; (with_reducible refine (shape_Kind.calls a0 a1 t593 t594 _ A5.out).mono ?_); rintro e w' ⟨rfl, ⟨nd, rfl⟩⟩; refine ⟨_, rfl, ?_⟩; (try simp only [errW_none, errW_some])) | ((with_reducible refine gC (f := 59) rfl ?_); refine goesY_ (some 30) Try.func59 #[.int .i64 a0, .int .u64 a1] ?_; (with_reducible refine (vernierref05_Fold.calls k a0 a1 t595 t596 _ A6.out).mono ?_); rintro e w27 ⟨rfl, hb⟩; refine ⟨_, rfl, ?_⟩; have n0_ := Aside0.mk (bS3 HB.out hb); clear HB; have HB := n0_; clear n0_; (try clear hb); (try clear hb2); (try clear hk); (try clear hi)) | ((with_reducible refine gC (f := 60) rfl ?_); refine goesY_ (some 36) Try.func60 #[.int .i64 a0, .int .u64 a1] ?_; (with_reducible refine (vernierref05_Kind.calls k a0 a1 t597 t598 _ A7.out).mono ?_); rintro e w28 ⟨rfl, hb⟩; refine ⟨_, rfl, ?_⟩; have n0_ := Aside0.mk (bS3 HB.out hb); clear HB; have HB := n0_; clear n0_; (try clear hb); (try clear hb2); (try clear hk); (try clear hi)))
    go_ret
    exact ⟨by first | rfl | (simp [errW_none, errW_some] <;> rfl) | (simp [*, errW_none, errW_some] <;> rfl), by repeat (first | (with_reducible first | exact HB.out | apply pA | apply pN | apply p1) | exact HB.out)⟩

/-- THE ONE PURE STATEMENT of vernierlaw05_ShapeFolds: yours. -/
def vernierlaw05_ShapeFolds.Pure : Prop := ∀ (a0 : Int) (a1 : Int), (Lit.int .i64 a0).wf = true → (Lit.int .u64 a1).wf = true → ∃ k, vernierlaw05_ShapeFolds.f k a0 a1 = some true
theorem vernierlaw05_ShapeFolds.walk (P : vernierlaw05_ShapeFolds.Pure) (a0 : Int) (a1 : Int) (w : World) (w0 : (Lit.int .i64 a0).wf = true) (w1 : (Lit.int .u64 a1).wf = true) :
    Calls Try.prog 18 #[.int .i64 a0, .int .u64 a1] w fun e w' => e = .returned (.bool true) ∧ Below w.heap.size w w' := by
  obtain ⟨k, h⟩ := P a0 a1 w0 w1
  refine (vernierlaw05_ShapeFolds.calls k a0 a1 true w h).mono ?_
  rintro e w' ⟨rfl, hd⟩
  exact ⟨rfl, hd⟩

end Go.Proofs.Ytjbcfiigafbobaa.F
