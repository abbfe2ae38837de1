/- Functions of the given program as plain Lean functions, and for each a proof that the program's call comes to just these answers; no further conditions. (Written by a program of this repo out of the translation.) -/
import Derived.Test.YtjbcfiigafbobaaF0
import Derived.Test.YtjbcfiigafbobaaF9
import Derived.Test.YtjbcfiigafbobaaF10
import Derived.Test.YtjbcfiigafbobaaF11
import Derived.Test.YtjbcfiigafbobaaF12
namespace Go.Proofs.Ytjbcfiigafbobaa.F
open Go.RowKit Go.Proofs.YtjbcfiigafbobaaW.PrintWords Go.Proofs.YtjbcfiigafbobaaW.PrintLast Go.Proofs.YtjbcfiigafbobaaW.PrintMore
attribute [local go_sem high] xor_u64 xor_u32 eqErr29 neErr29 eqErrL29 neErrL29
attribute [local go_sem] max2_int min2_int max_two min_two max_three min_three max_four min_four   -- for this text's walks alone
set_option linter.unusedVariables false
set_option linter.unusedSimpArgs false

/-! ### vernierlaw01_LeadPuts: function 13 -/
def vernierlaw01_LeadPuts.f (k : Nat) (a0 : Int) (a1 : Int) (a2 : Int) (a3 : Int) : Option (Bool) := (vernierlaw01_up.f k).bind fun t479 => ((lead_Put.f a0 a1 a2 a3).bind fun bt480 => ((vernierref01_Put.f k a0 a1 a2 a3).bind fun bt482 => (if t479 = true then (if bt480.1 = bt482.1 then ((vernierlaw00_Code.f bt480.2).bind fun t484 => (some (t484 == bt482.2))) else (some false)) else (some false))))
theorem vernierlaw01_LeadPuts.mono : ∀ a0 a1 a2 a3 k, LeO (vernierlaw01_LeadPuts.f k a0 a1 a2 a3) (vernierlaw01_LeadPuts.f (k + 1) a0 a1 a2 a3) := by
  intro a0 a1 a2 a3 k
  unfold vernierlaw01_LeadPuts.f
  repeat' first
      | (with_reducible exact vernierlaw01_up.mono _)
      | (with_reducible exact vernierref01_Put.mono _ _ _ _ _)
      | (with_reducible exact LeO.refl _)
      | (with_reducible exact LeO.none _)
      | (with_reducible refine LeO.ite ?_ ?_)
      | (with_reducible refine LeO.bind ?_ (fun _ => ?_))
      | exact vernierlaw01_up.mono _
      | exact vernierref01_Put.mono _ _ _ _ _
      | exact LeO.none _
      | refine LeO.ite ?_ ?_
      | refine LeO.bind ?_ (fun _ => ?_)
set_option maxHeartbeats 8000000 in
set_option maxRecDepth 100000 in
theorem vernierlaw01_LeadPuts.calls (k : Nat) (a0 : Int) (a1 : Int) (a2 : Int) (a3 : Int) (r : Bool) (w : World) (h : vernierlaw01_LeadPuts.f k a0 a1 a2 a3 = some r) :
    Calls Try.prog 13 #[.int .u64 a0, .int .i64 a1, .int .i64 a2, .int .u64 a3] w fun e w' => e = .returned (.bool r) ∧ Below w.heap.size w w' := by
  have HB := Aside0.mk (Below.refl w.heap.size w)
  have H : ((vernierlaw01_up.f k).bind fun t479 => ((lead_Put.f a0 a1 a2 a3).bind fun bt480 => ((vernierref01_Put.f k a0 a1 a2 a3).bind fun bt482 => (if t479 = true then (if bt480.1 = bt482.1 then ((vernierlaw00_Code.f bt480.2).bind fun t484 => (some (t484 == bt482.2))) else (some false)) else (some false))))) = some r := h
  clear h
  replace H := Option.bind_eq_some_iff.mp H
  obtain ⟨t479, A50, H⟩ := H
  replace H : ((lead_Put.f a0 a1 a2 a3).bind fun bt480 => ((vernierref01_Put.f k a0 a1 a2 a3).bind fun bt482 => (if t479 = true then (if bt480.1 = bt482.1 then ((vernierlaw00_Code.f bt480.2).bind fun t484 => (some (t484 == bt482.2))) else (some false)) else (some false)))) = some r := H
  have A5 := Aside0.mk A50
  clear A50
  replace H := Option.bind_eq_some_iff.mp H
  obtain ⟨⟨t480, t481⟩, A60, H⟩ := H
  replace H : ((vernierref01_Put.f k a0 a1 a2 a3).bind fun bt482 => (if t479 = true then (if t480 = bt482.1 then ((vernierlaw00_Code.f t481).bind fun t484 => (some (t484 == bt482.2))) else (some false)) else (some false))) = some r := H
  have A6 := Aside0.mk A60
  clear A60
  replace H := Option.bind_eq_some_iff.mp H
  obtain ⟨⟨t482, t483⟩, A70, H⟩ := H
  replace H : (if t479 = true then (if t480 = t482 then ((vernierlaw00_Code.f t481).bind fun t484 => (some (t484 == t483))) else (some false)) else (some false)) = some r := H
  have A7 := Aside0.mk A70
  clear A70
  by_cases c8 : t479 = true
  · subst c8
    have H1 : (if t480 = t482 then ((vernierlaw00_Code.f t481).bind fun t484 => (some (t484 == t483))) else (some false)) = some r := by rw [if_pos rfl] at H; exact H
    clear H
    have H := H1
    clear H1
    by_cases c9 : t480 = t482
    · rw [if_pos c9] at H
      have c9b0 : (t480 == t482) = true := beq_iff_eq.mpr c9
      have c9b1 : (t480 != t482) = false := bne_eq_false_iff_eq.mpr c9
      clear c9
      replace H := Option.bind_eq_some_iff.mp H
      obtain ⟨t484, A100, H⟩ := H
      replace H : (some (t484 == t483)) = some r := H
      have A10 := Aside0.mk A100
      clear A100
      obtain rfl := Option.some.inj H
      go_enter Try.func13, Try.ntmps13
      go_wp2_with (first | ((with_reducible refine gC (f := 25) rfl ?_); refine goesY_ (some 14) Try.func25 #[] ?_; (with_reducible refine (vernierlaw01_up.calls k  true _ A5.out).mono ?_); rintro e w11 ⟨rfl, hb⟩; refine ⟨_, rfl, ?_⟩; have n0_ := Aside0.mk (bS3 HB.out hb); clear HB; have HB := n0_; clear n0_; (try clear hb); (try clear hb2); (try clear hk); (try clear hi)) | ((with_reducible refine gC (f := 47) rfl ?_); refine goesY_ (some 20) Try.func47 #[.int .u64 a0, .int .i64 a1, .int .i64 a2, .int .u64 a3] ?_; (with_reducible refine (lead_Put.calls a0 a1 a2 a3 t480 t481 _ A6.out).mono ?_); rintro e w' ⟨rfl, ⟨nd, rfl⟩⟩; refine ⟨_, rfl, ?_⟩; (try simp only [errW_none, errW_some])) | ((with_reducible refine gC (f := 48) rfl ?_); refine goesY_ (some 28) Try.func48 #[.int .u64 a0, .int .i64 a1, .int .i64 a2, .int .u64 a3] ?_; (with_reducible refine (vernierref01_Put.calls k a0 a1 a2 a3 t482 t483 _ A7.out).mono ?_); rintro e w12 ⟨rfl, hb⟩; refine ⟨_, rfl, ?_⟩; have n0_ := Aside0.mk (bS3 HB.out hb); clear HB; have HB := n0_; clear n0_; (try clear hb); (try clear hb2); (try clear hk); (try clear hi); have CA10 := fun W => vernierlaw00_Code.calls t481 t484 W A10.out; try simp only [errW_none, errW_some] at CA10) | (go_at_call 28; (with_reducible refine (CA10 _).mono ?_); rintro e w' ⟨rfl, ⟨nd, rfl⟩⟩))
      go_ret
      exact ⟨by first | rfl | (simp [errW_none, errW_some] <;> rfl) | (simp [*, errW_none, errW_some] <;> rfl), by repeat (first | (with_reducible first | exact HB.out | apply pA | apply pN | apply p1) | exact HB.out)⟩
    · rw [if_neg c9] at H
      have c9b0 : (t480 == t482) = false := beq_eq_false_iff_ne.mpr c9
      have c9b1 : (t480 != t482) = true := bne_iff_ne.mpr c9
      obtain rfl := Option.some.inj H
      go_enter Try.func13, Try.ntmps13
      go_wp2_with (first | ((with_reducible refine gC (f := 25) rfl ?_); refine goesY_ (some 14) Try.func25 #[] ?_; (with_reducible refine (vernierlaw01_up.calls k  true _ A5.out).mono ?_); rintro e w13 ⟨rfl, hb⟩; refine ⟨_, rfl, ?_⟩; have n0_ := Aside0.mk (bS3 HB.out hb); clear HB; have HB := n0_; clear n0_; (try clear hb); (try clear hb2); (try clear hk); (try clear hi)) | ((with_reducible refine gC (f := 47) rfl ?_); refine goesY_ (some 20) Try.func47 #[.int .u64 a0, .int .i64 a1, .int .i64 a2, .int .u64 a3] ?_; (with_reducible refine (lead_Put.calls a0 a1 a2 a3 t480 t481 _ A6.out).mono ?_); rintro e w' ⟨rfl, ⟨nd, rfl⟩⟩; refine ⟨_, rfl, ?_⟩; (try simp only [errW_none, errW_some])) | ((with_reducible refine gC (f := 48) rfl ?_); refine goesY_ (some 28) Try.func48 #[.int .u64 a0, .int .i64 a1, .int .i64 a2, .int .u64 a3] ?_; (with_reducible refine (vernierref01_Put.calls k a0 a1 a2 a3 t482 t483 _ A7.out).mono ?_); rintro e w14 ⟨rfl, hb⟩; refine ⟨_, rfl, ?_⟩; have n0_ := Aside0.mk (bS3 HB.out hb); clear HB; have HB := n0_; clear n0_; (try clear hb); (try clear hb2); (try clear hk); (try clear hi)))
      go_ret
      exact ⟨by first | rfl | (simp [errW_none, errW_some] <;> rfl) | (simp [*, errW_none, errW_some] <;> rfl), by repeat (first | (with_reducible first | exact HB.out | apply pA | apply pN | apply p1) | exact HB.out)⟩
  · replace c8 := Bool.eq_false_iff.mpr c8
    subst c8
    have H1 : (some false) = some r := by rw [if_neg (show ¬ (false = true) by decide)] at H; exact H
    clear H
    have H := H1
    clear H1
    obtain rfl := Option.some.inj H
    go_enter Try.func13, Try.ntmps13
    go_wp2_with (first | ((with_reducible refine gC (f := 25) rfl ?_); refine goesY_ (some 14) Try.func25 #[] ?_; (with_reducible refine (vernierlaw01_up.calls k  false _ A5.out).mono ?_); rintro e w15 ⟨rfl, hb⟩; refine ⟨_, rfl, ?_⟩; have n0_ := Aside0.mk (bS3 HB.out hb); clear HB; have HB := n0_; clear n0_; (try clear hb); (try clear hb2); (try clear hk); (try clear hi)) | ((with_reducible refine gC (f := 47) rfl ?_); refine goesY_ (some 20) Try.func47 #[.int .u64 a0, .int .i64 a1, .int .i64 a2, .int .u64 a3] ?_; (with_reducible refine (lead_Put.calls a0 a1 a2 a3 t480 t481 _ A6.out).mono ?_); rintro e w' ⟨rfl, ⟨nd, rfl⟩⟩; refine ⟨_, rfl, ?_⟩; (try simp only [errW_none, errW_some])) | ((with_reducible refine gC (f := 48) rfl ?_); refine goesY_ (some 28) Try.func48 #[.int .u64 a0, .int .i64 a1, .int .i64 a2, .int .u64 a3] ?_; (with_reducible refine (vernierref01_Put.calls k a0 a1 a2 a3 t482 t483 _ A7.out).mono ?_); rintro e w16 ⟨rfl, hb⟩; refine ⟨_, rfl, ?_⟩; have n0_ := Aside0.mk (bS3 HB.out hb); clear HB; have HB := n0_; clear n0_; (try clear hb); (try clear hb2); (try clear hk); (try clear hi)))
    go_ret
    exact ⟨by first | rfl | (simp [errW_none, errW_some] <;> rfl) | (simp [*, errW_none, errW_some] <;> rfl), by repeat (first | (with_reducible first | exact HB.out | apply pA | apply pN | apply p1) | exact HB.out)⟩

/-- THE ONE PURE STATEMENT of vernierlaw01_LeadPuts: yours. -/
def vernierlaw01_LeadPuts.Pure : Prop := ∀ (a0 : Int) (a1 : Int) (a2 : Int) (a3 : Int), (Lit.int .u64 a0).wf = true → (Lit.int .i64 a1).wf = true → (Lit.int .i64 a2).wf = true → (Lit.int .u64 a3).wf = true → ∃ k, vernierlaw01_LeadPuts.f k a0 a1 a2 a3 = some true
theorem vernierlaw01_LeadPuts.walk (P : vernierlaw01_LeadPuts.Pure) (a0 : Int) (a1 : Int) (a2 : Int) (a3 : Int) (w : World) (w0 : (Lit.int .u64 a0).wf = true) (w1 : (Lit.int .i64 a1).wf = true) (w2 : (Lit.int .i64 a2).wf = true) (w3 : (Lit.int .u64 a3).wf = true) :
    Calls Try.prog 13 #[.int .u64 a0, .int .i64 a1, .int .i64 a2, .int .u64 a3] w fun e w' => e = .returned (.bool true) ∧ Below w.heap.size w w' := by
  obtain ⟨k, h⟩ := P a0 a1 a2 a3 w0 w1 w2 w3
  refine (vernierlaw01_LeadPuts.calls k a0 a1 a2 a3 true w h).mono ?_
  rintro e w' ⟨rfl, hd⟩
  exact ⟨rfl, hd⟩

end Go.Proofs.Ytjbcfiigafbobaa.F
