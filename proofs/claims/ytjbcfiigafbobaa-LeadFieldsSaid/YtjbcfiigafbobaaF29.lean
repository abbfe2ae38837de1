/- Functions of the given program as plain Lean functions, and for each a proof that the program's call comes to just these answers; no further conditions. (Written by a program of this repo out of the translation.) -/
import Derived.Test.YtjbcfiigafbobaaF0
import Derived.Test.YtjbcfiigafbobaaF9
import Derived.Test.YtjbcfiigafbobaaF10
import Derived.Test.YtjbcfiigafbobaaF11
import Derived.Test.YtjbcfiigafbobaaF12
namespace Go.Proofs.Ytjbcfiigafbobaa.F
open Go.RowKit Go.Proofs.YtjbcfiigafbobaaW.PrintWords Go.Proofs.YtjbcfiigafbobaaW.PrintLast Go.Proofs.YtjbcfiigafbobaaW.PrintMore
attribute [local go_sem high] xor_u64 xor_u32 eqErr29 neErr29 eqErrL29 neErrL29
attribute [local go_sem] max2_int min2_int max_two min_two max_three min_three max_four min_four   -- for this text's walks alone
set_option linter.unusedVariables false
set_option linter.unusedSimpArgs false

/-! ### vernierlaw01_LeadFields: function 17 -/
def vernierlaw01_LeadFields.f (k : Nat) (a0 : Int) (a1 : Int) (a2 : Int) : Option (Bool) := (vernierlaw01_up.f k).bind fun t573 => ((lead_Mask.f a2).bind fun bt574 => ((lead_Field.f a0 a1 a2).bind fun bt576 => ((vernierref01_Mask.f k a2).bind fun bt578 => ((vernierref01_Field.f k a0 a1 a2).bind fun bt580 => (if t573 = true then (if bt574.1 = bt578.1 then ((vernierlaw00_Code.f bt574.2).bind fun t582 => (if t582 = bt578.2 then (if bt576.1 = bt580.1 then ((vernierlaw00_Code.f bt576.2).bind fun t583 => (some (t583 == bt580.2))) else (some false)) else (some false))) else (some false)) else (some false))))))
theorem vernierlaw01_LeadFields.mono : ∀ a0 a1 a2 k, LeO (vernierlaw01_LeadFields.f k a0 a1 a2) (vernierlaw01_LeadFields.f (k + 1) a0 a1 a2) := by
  intro a0 a1 a2 k
  unfold vernierlaw01_LeadFields.f
  repeat' first
      | (with_reducible exact vernierlaw01_up.mono _)
      | (with_reducible exact vernierref01_Field.mono _ _ _ _)
      | (with_reducible exact vernierref01_Mask.mono _ _)
      | (with_reducible exact LeO.refl _)
      | (with_reducible exact LeO.none _)
      | (with_reducible refine LeO.ite ?_ ?_)
      | (with_reducible refine LeO.bind ?_ (fun _ => ?_))
      | exact vernierlaw01_up.mono _
      | exact vernierref01_Field.mono _ _ _ _
      | exact vernierref01_Mask.mono _ _
      | exact LeO.none _
      | refine LeO.ite ?_ ?_
      | refine LeO.bind ?_ (fun _ => ?_)
set_option maxHeartbeats 8000000 in
set_option maxRecDepth 100000 in
theorem vernierlaw01_LeadFields.calls (k : Nat) (a0 : Int) (a1 : Int) (a2 : Int) (r : Bool) (w : World) (h : vernierlaw01_LeadFields.f k a0 a1 a2 = some r) :
    Calls Try.prog 17 #[.int .u64 a0, .int .i64 a1, .int .i64 a2] w fun e w' => e = .returned (.bool r) ∧ Below w.heap.size w w' := by
  have HB := Aside0.mk (Below.refl w.heap.size w)
  have H : ((vernierlaw01_up.f k).bind fun t573 => ((lead_Mask.f a2).bind fun bt574 => ((lead_Field.f a0 a1 a2).bind fun bt576 => ((vernierref01_Mask.f k a2).bind fun bt578 => ((vernierref01_Field.f k a0 a1 a2).bind fun bt580 => (if t573 = true then (if bt574.1 = bt578.1 then ((vernierlaw00_Code.f bt574.2).bind fun t582 => (if t582 = bt578.2 then (if bt576.1 = bt580.1 then ((vernierlaw00_Code.f bt576.2).bind fun t583 => (some (t583 == bt580.2))) else (some false)) else (some false))) else (some false)) else (some false))))))) = some r := h
  clear h
  replace H := Option.bind_eq_some_iff.mp H
  obtain ⟨t573, A40, H⟩ := H
  replace H : ((lead_Mask.f a2).bind fun bt574 => ((lead_Field.f a0 a1 a2).bind fun bt576 => ((vernierref01_Mask.f k a2).bind fun bt578 => ((vernierref01_Field.f k a0 a1 a2).bind fun bt580 => (if t573 = true then (if bt574.1 = bt578.1 then ((vernierlaw00_Code.f bt574.2).bind fun t582 => (if t582 = bt578.2 then (if bt576.1 = bt580.1 then ((vernierlaw00_Code.f bt576.2).bind fun t583 => (some (t583 == bt580.2))) else (some false)) else (some false))) else (some false)) else (some false)))))) = some r := H
  have A4 := Aside0.mk A40
  clear A40
  replace H := Option.bind_eq_some_iff.mp H
  obtain ⟨⟨t574, t575⟩, A50, H⟩ := H
  replace H : ((lead_Field.f a0 a1 a2).bind fun bt576 => ((vernierref01_Mask.f k a2).bind fun bt578 => ((vernierref01_Field.f k a0 a1 a2).bind fun bt580 => (if t573 = true then (if t574 = bt578.1 then ((vernierlaw00_Code.f t575).bind fun t582 => (if t582 = bt578.2 then (if bt576.1 = bt580.1 then ((vernierlaw00_Code.f bt576.2).bind fun t583 => (some (t583 == bt580.2))) else (some false)) else (some false))) else (some false)) else (some false))))) = some r := H
  have A5 := Aside0.mk A50
  clear A50
  replace H := Option.bind_eq_some_iff.mp H
  obtain ⟨⟨t576, t577⟩, A60, H⟩ := H
  replace H : ((vernierref01_Mask.f k a2).bind fun bt578 => ((vernierref01_Field.f k a0 a1 a2).bind fun bt580 => (if t573 = true then (if t574 = bt578.1 then ((vernierlaw00_Code.f t575).bind fun t582 => (if t582 = bt578.2 then (if t576 = bt580.1 then ((vernierlaw00_Code.f t577).bind fun t583 => (some (t583 == bt580.2))) else (some false)) else (some false))) else (some false)) else (some false)))) = some r := H
  have A6 := Aside0.mk A60
  clear A60
  replace H := Option.bind_eq_some_iff.mp H
  obtain ⟨⟨t578, t579⟩, A70, H⟩ := H
  replace H : ((vernierref01_Field.f k a0 a1 a2).bind fun bt580 => (if t573 = true then (if t574 = t578 then ((vernierlaw00_Code.f t575).bind fun t582 => (if t582 = t579 then (if t576 = bt580.1 then ((vernierlaw00_Code.f t577).bind fun t583 => (some (t583 == bt580.2))) else (some false)) else (some false))) else (some false)) else (some false))) = some r := H
  have A7 := Aside0.mk A70
  clear A70
  replace H := Option.bind_eq_some_iff.mp H
  obtain ⟨⟨t580, t581⟩, A80, H⟩ := H
  replace H : (if t573 = true then (if t574 = t578 then ((vernierlaw00_Code.f t575).bind fun t582 => (if t582 = t579 then (if t576 = t580 then ((vernierlaw00_Code.f t577).bind fun t583 => (some (t583 == t581))) else (some false)) else (some false))) else (some false)) else (some false)) = some r := H
  have A8 := Aside0.mk A80
  clear A80
  by_cases c9 : t573 = true
  · subst c9
    have H1 : (if t574 = t578 then ((vernierlaw00_Code.f t575).bind fun t582 => (if t582 = t579 then (if t576 = t580 then ((vernierlaw00_Code.f t577).bind fun t583 => (some (t583 == t581))) else (some false)) else (some false))) else (some false)) = some r := by rw [if_pos rfl] at H; exact H
    clear H
    have H := H1
    clear H1
    by_cases c10 : t574 = t578
    · rw [if_pos c10] at H
      have c10b0 : (t574 == t578) = true := beq_iff_eq.mpr c10
      have c10b1 : (t574 != t578) = false := bne_eq_false_iff_eq.mpr c10
      clear c10
      replace H := Option.bind_eq_some_iff.mp H
      obtain ⟨t582, A110, H⟩ := H
      replace H : (if t582 = t579 then (if t576 = t580 then ((vernierlaw00_Code.f t577).bind fun t583 => (some (t583 == t581))) else (some false)) else (some false)) = some r := H
      have A11 := Aside0.mk A110
      clear A110
      by_cases c12 : t582 = t579
      · rw [if_pos c12] at H
        have c12b0 : (t582 == t579) = true := beq_iff_eq.mpr c12
        have c12b1 : (t582 != t579) = false := bne_eq_false_iff_eq.mpr c12
        clear c12
        by_cases c13 : t576 = t580
        · rw [if_pos c13] at H
          have c13b0 : (t576 == t580) = true := beq_iff_eq.mpr c13
          have c13b1 : (t576 != t580) = false := bne_eq_false_iff_eq.mpr c13
          clear c13
          replace H := Option.bind_eq_some_iff.mp H
          obtain ⟨t583, A140, H⟩ := H
          replace H : (some (t583 == t581)) = some r := H
          have A14 := Aside0.mk A140
          clear A140
          obtain rfl := Option.some.inj H
          go_enter Try.func17, Try.ntmps17
          go_wp2_with (first | ((with_reducible refine gC (f := 25) rfl ?_); refine goesY_ (some 16) Try.func25 #[] ?_; (with_reducible refine (vernierlaw01_up.calls k  true _ A4.out).mono ?_); rintro e w15 ⟨rfl, hb⟩; refine ⟨_, rfl, ?_⟩; have n0_ := Aside0.mk (bS3 HB.out hb); clear HB; have HB := n0_; clear n0_; (try clear hb); (try clear hb2); (try clear hk); (try clear hi)) | ((with_reducible refine gC (f := 54) rfl ?_); refine goesY_ (some 19) Try.func54 #[.int .i64 a2] ?_; (with_reducible refine (lead_Mask.calls a2 t574 t575 _ A5.out).mono ?_); rintro e w' ⟨rfl, ⟨nd, rfl⟩⟩; refine ⟨_, rfl, ?_⟩; (try simp only [errW_none, errW_some])) | ((with_reducible refine gC (f := 55) rfl ?_); refine goesY_ (some 26) Try.func55 #[.int .u64 a0, .int .i64 a1, .int .i64 a2] ?_; (with_reducible refine (lead_Field.calls a0 a1 a2 t576 t577 _ A6.out).mono ?_); rintro e w' ⟨rfl, ⟨nd, rfl⟩⟩; refine ⟨_, rfl, ?_⟩; (try simp only [errW_none, errW_some])) | ((with_reducible refine gC (f := 56) rfl ?_); refine goesY_ (some 31) Try.func56 #[.int .i64 a2] ?_; (with_reducible refine (vernierref01_Mask.calls k a2 t578 t579 _ A7.out).mono ?_); rintro e w' ⟨rfl, ⟨nd, rfl⟩⟩; refine ⟨_, rfl, ?_⟩) | ((with_reducible refine gC (f := 57) rfl ?_); refine goesY_ (some 38) Try.func57 #[.int .u64 a0, .int .i64 a1, .int .i64 a2] ?_; (with_reducible refine (vernierref01_Field.calls k a0 a1 a2 t580 t581 _ A8.out).mono ?_); rintro e w16 ⟨rfl, hb⟩; refine ⟨_, rfl, ?_⟩; have n0_ := Aside0.mk (bS3 HB.out hb); clear HB; have HB := n0_; clear n0_; (try clear hb); (try clear hb2); (try clear hk); (try clear hi); have CA11 := fun W => vernierlaw00_Code.calls t575 t582 W A11.out; try simp only [errW_none, errW_some] at CA11) | (go_at_call 28; (with_reducible refine (CA11 _).mono ?_); rintro e w' ⟨rfl, ⟨nd, rfl⟩⟩; have CA14 := fun W => vernierlaw00_Code.calls t577 t583 W A14.out; try simp only [errW_none, errW_some] at CA14) | (go_at_call 28; (with_reducible refine (CA14 _).mono ?_); rintro e w' ⟨rfl, ⟨nd, rfl⟩⟩))
          go_ret
          exact ⟨by first | rfl | (simp [errW_none, errW_some] <;> rfl) | (simp [*, errW_none, errW_some] <;> rfl), by repeat (first | (with_reducible first | exact HB.out | apply pA | apply pN | apply p1) | exact HB.out)⟩
        · rw [if_neg c13] at H
          have c13b0 : (t576 == t580) = false := beq_eq_false_iff_ne.mpr c13
          have c13b1 : (t576 != t580) = true := bne_iff_ne.mpr c13
          obtain rfl := Option.some.inj H
          go_enter Try.func17, Try.ntmps17
          go_wp2_with (first | ((with_reducible refine gC (f := 25) rfl ?_); refine goesY_ (some 16) Try.func25 #[] ?_; (with_reducible refine (vernierlaw01_up.calls k  true _ A4.out).mono ?_); rintro e w17 ⟨rfl, hb⟩; refine ⟨_, rfl, ?_⟩; have n0_ := Aside0.mk (bS3 HB.out hb); clear HB; have HB := n0_; clear n0_; (try clear hb); (try clear hb2); (try clear hk); (try clear hi)) | ((with_reducible refine gC (f := 54) rfl ?_); refine goesY_ (some 19) Try.func54 #[.int .i64 a2] ?_; (with_reducible refine (lead_Mask.calls a2 t574 t575 _ A5.out).mono ?_); rintro e w' ⟨rfl, ⟨nd, rfl⟩⟩; refine ⟨_, rfl, ?_⟩; (try simp only [errW_none, errW_some])) | ((with_reducible refine gC (f := 55) rfl ?_); refine goesY_ (some 26) Try.func55 #[.int .u64 a0, .int .i64 a1, .int .i64 a2] ?_; (with_reducible refine (lead_Field.calls a0 a1 a2 t576 t577 _ A6.out).mono ?_); rintro e w' ⟨rfl, ⟨nd, rfl⟩⟩; refine ⟨_, rfl, ?_⟩; (try simp only [errW_none, errW_some])) | ((with_reducible refine gC (f := 56) rfl ?_); refine goesY_ (some 31) Try.func56 #[.int .i64 a2] ?_; (with_reducible refine (vernierref01_Mask.calls k a2 t578 t579 _ A7.out).mono ?_); rintro e w' ⟨rfl, ⟨nd, rfl⟩⟩; refine ⟨_, rfl, ?_⟩) | ((with_reducible refine gC (f := 57) rfl ?_); refine goesY_ (some 38) Try.func57 #[.int .u64 a0, .int .i64 a1, .int .i64 a2] ?_; (with_reducible refine (vernierref01_Field.calls k a0 a1 a2 t580 t581 _ A8.out).mono ?_); rintro e w18 ⟨rfl, hb⟩; refine ⟨_, rfl, ?_⟩; have n0_ := Aside0.mk (bS3 HB.out hb); clear HB; have HB := n0_; clear n0_; (try clear hb); (try clear hb2); (try clear hk); (try clear hi); have CA11 := fun W => vernierlaw00_Code.calls t575 t582 W A11.out; try simp only [errW_none, errW_some] at CA11) | (go_at_call 28; (with_reducible refine (CA11 _).mono ?_); rintro e w' ⟨rfl, ⟨nd, rfl⟩⟩))
          go_ret
          exact ⟨by first | rfl | (simp [errW_none, errW_some] <;> rfl) | (simp [*, errW_none, errW_some] <;> rfl), by repeat (first | (with_reducible first | exact HB.out | apply pA | apply pN | apply p1) | exact HB.out)⟩
      · rw [if_neg c12] at H
        have c12b0 : (t582 == t579) = false := beq_eq_false_iff_ne.mpr c12
        have c12b1 : (t582 != t579) = true := bne_iff_ne.mpr c12
        obtain rfl := Option.some.inj H
        go_enter Try.func17, Try.ntmps17
        go_wp2_with (first | ((with_reducible refine gC (f := 25) rfl ?_); refine goesY_ (some 16) Try.func25 #[] ?_; (with_reducible refine (vernierlaw01_up.calls k  true _ A4.out).mono ?_); rintro e w19 ⟨rfl, hb⟩; refine ⟨_, rfl, ?_⟩; have n0_ := Aside0.mk (bS3 HB.out hb); clear HB; have HB := n0_; clear n0_; (try clear hb); (try clear hb2); (try clear hk); (try clear hi)) | ((with_reducible refine gC (f := 54) rfl ?_); refine goesY_ (some 19) Try.func54 #[.int .i64 a2] ?_; (with_reducible refine (lead_Mask.calls a2 t574 t575 _ A5.out).mono ?_); rintro e w' ⟨rfl, ⟨nd, rfl⟩⟩; refine ⟨_, rfl, ?_⟩; (try simp only [errW_none, errW_some])) | ((with_reducible refine gC (f := 55) rfl ?_); refine goesY_ (some 26) Try.func55 #[.int .u64 a0, .int .i64 a1, .int .i64 a2] ?_; (with_reducible refine (lead_Field.calls a0 a1 a2 t576 t577 _ A6.out).mono ?_); rintro e w' ⟨rfl, ⟨nd, rfl⟩⟩; refine ⟨_, rfl, ?_⟩; (try simp only [errW_none, errW_some])) | ((with_reducible refine gC (f := 56) rfl ?_); refine goesY_ (some 31) Try.func56 #[.int .i64 a2] ?_; (with_reducible refine (vernierref01_Mask.calls k a2 t578 t579 _ A7.out).mono ?_); rintro e w' ⟨rfl, ⟨nd, rfl⟩⟩; refine ⟨_, rfl, ?_⟩) | ((with_reducible refine gC (f := 57) rfl ?_); refine goesY_ (some 38) Try.func57 #[.int .u64 a0, .int .i64 a1, .int .i64 a2] ?_; (with_reducible refine (vernierref01_Field.calls k a0 a1 a2 t580 t581 _ A8.out).mono ?_); rintro e w20 ⟨rfl, hb⟩; refine ⟨_, rfl, ?_⟩; have n0_ := Aside0.mk (bS3 HB.out hb); clear HB; have HB := n0_; clear n0_; (try clear hb); (try clear hb2); (try clear hk); (try clear hi); have CA11 := fun W => vernierlaw00_Code.calls t575 t582 W A11.out; try simp only [errW_none, errW_some] at CA11) | (go_at_call 28; (with_reducible refine (CA11 _).mono ?_); rintro e w' ⟨rfl, ⟨nd, rfl⟩⟩))
        go_ret
        exact ⟨by first | rfl | (simp [errW_none, errW_some] <;> rfl) | (simp [*, errW_none, errW_some] <;> rfl), by repeat (first | (with_reducible first | exact HB.out | apply pA | apply pN | apply p1) | exact HB.out)⟩
    · rw [if_neg c10] at H
      have c10b0 : (t574 == t578) = false := beq_eq_false_iff_ne.mpr c10
      have c10b1 : (t574 != t578) = true := bne_iff_ne.mpr c10
      obtain rfl := Option.some.inj H
      go_enter Try.func17, Try.ntmps17
      go_wp2_with (first | ((with_reducible refine gC (f := 25) rfl ?_); refine goesY_ (some 16) Try.func25 #[] ?_; (with_reducible refine (vernierlaw01_up.calls k  true _ A4.out).mono ?_); rintro e w21 ⟨rfl, hb⟩; refine ⟨_, rfl, ?_⟩; have n0_ := Aside0.mk (bS3 HB.out hb); clear HB; have HB := n0_; clear n0_; (try clear hb); (try clear hb2); (try clear hk); (try clear hi)) | ((with_reducible refine gC (f := 54) rfl ?_); refine goesY_ (some 19) Try.func54 #[.int .i64 a2] ?_; (with_reducible refine (lead_Mask.calls a2 t574 t575 _ A5.out).mono ?_); rintro e w' ⟨rfl, ⟨nd, rfl⟩⟩; refine ⟨_, rfl, ?_⟩; (try simp only [errW_none, errW_some])) | ((with_reducible refine gC (f := 55) rfl ?_); refine goesY_ (some 26) Try.func55 #[.int .u64 a0, .int .i64 a1, .int .i64 a2] ?_; (with_reducible refine (lead_Field.calls a0 a1 a2 t576 t577 _ A6.out).mono ?_); rintro e w' ⟨rfl, ⟨nd, rfl⟩⟩; refine ⟨_, rfl, ?_⟩; (try simp only [errW_none, errW_some])) | ((with_reducible refine gC (f := 56) rfl ?_); refine goesY_ (some 31) Try.func56 #[.int .i64 a2] ?_; (with_reducible refine (vernierref01_Mask.calls k a2 t578 t579 _ A7.out).mono ?_); rintro e w' ⟨rfl, ⟨nd, rfl⟩⟩; refine ⟨_, rfl, ?_⟩) | ((with_reducible refine gC (f := 57) rfl ?_); refine goesY_ (some 38) Try.func57 #[.int .u64 a0, .int .i64 a1, .int .i64 a2] ?_; (with_reducible refine (vernierref01_Field.calls k a0 a1 a2 t580 t581 _ A8.out).mono ?_); rintro e w22 ⟨rfl, hb⟩; refine ⟨_, rfl, ?_⟩; have n0_ := Aside0.mk (bS3 HB.out hb); clear HB; have HB := n0_; clear n0_; (try clear hb); (try clear hb2); (try clear hk); (try clear hi)))
      go_ret
      exact ⟨by first | rfl | (simp [errW_none, errW_some] <;> rfl) | (simp [*, errW_none, errW_some] <;> rfl), by repeat (first | (with_reducible first | exact HB.out | apply pA | apply pN | apply p1) | exact HB.out)⟩
  · replace c9 := Bool.eq_false_iff.mpr c9
    subst c9
    have H1 : (some false) = some r := by rw [if_neg (show ¬ (false = true) by decide)] at H; exact H
    clear H
    have H := H1
    clear H1
    obtain rfl := Option.some.inj H
    go_enter Try.func17, Try.ntmps17
    go_wp2_with (first | ((with_reducible refine gC (f := 25) rfl ?_); refine goesY_ (some 16) Try.func25 #[] ?_; (with_reducible refine (vernierlaw01_up.calls k  false _ A4.out).mono ?_); rintro e w23 ⟨rfl, hb⟩; refine ⟨_, rfl, ?_⟩; have n0_ := Aside0.mk (bS3 HB.out hb); clear HB; have HB := n0_; clear n0_; (try clear hb); (try clear hb2); (try clear hk); (try clear hi)) | ((with_reducible refine gC (f := 54) rfl ?_); refine goesY_ (some 19) Try.func54 #[.int .i64 a2] ?_; (with_reducible refine (lead_Mask.calls a2 t574 t575 _ A5.out).mono ?_); rintro e w' ⟨rfl, ⟨nd, rfl⟩⟩; refine ⟨_, rfl, ?_⟩; (try simp only [errW_none, errW_some])) | ((with_reducible refine gC (f := 55) rfl ?_); refine goesY_ (some 26) Try.func55 #[.int .u64 a0, .int .i64 a1, .int .i64 a2] ?_; (with_reducible refine (lead_Field.calls a0 a1 a2 t576 t577 _ A6.out).mono ?_); rintro e w' ⟨rfl, ⟨nd, rfl⟩⟩; refine ⟨_, rfl, ?_⟩; (try simp only [errW_none, errW_some])) | ((with_reducible refine gC (f := 56) rfl ?_); refine goesY_ (some 31) Try.func56 #[.int .i64 a2] ?_; (with_reducible refine (vernierref01_Mask.calls k a2 t578 t579 _ A7.out).mono ?_); rintro e w' ⟨rfl, ⟨nd, rfl⟩⟩; refine ⟨_, rfl, ?_⟩) | ((with_reducible refine gC (f := 57) rfl ?_); refine goesY_ (some 38) Try.func57 #[.int .u64 a0, .int .i64 a1, .int .i64 a2] ?_; (with_reducible refine (vernierref01_Field.calls k a0 a1 a2 t580 t581 _ A8.out).mono ?_); rintro e w24 ⟨rfl, hb⟩; refine ⟨_, rfl, ?_⟩; have n0_ := Aside0.mk (bS3 HB.out hb); clear HB; have HB := n0_; clear n0_; (try clear hb); (try clear hb2); (try clear hk); (try clear hi)))
    go_ret
    exact ⟨by first | rfl | (simp [errW_none, errW_some] <;> rfl) | (simp [*, errW_none, errW_some] <;> rfl), by repeat (first | (with_reducible first | exact HB.out | apply pA | apply pN | apply p1) | exact HB.out)⟩

/-- THE ONE PURE STATEMENT of vernierlaw01_LeadFields: yours. -/
def vernierlaw01_LeadFields.Pure : Prop := ∀ (a0 : Int) (a1 : Int) (a2 : Int), (Lit.int .u64 a0).wf = true → (Lit.int .i64 a1).wf = true → (Lit.int .i64 a2).wf = true → ∃ k, vernierlaw01_LeadFields.f k a0 a1 a2 = some true
theorem vernierlaw01_LeadFields.walk (P : vernierlaw01_LeadFields.Pure) (a0 : Int) (a1 : Int) (a2 : Int) (w : World) (w0 : (Lit.int .u64 a0).wf = true) (w1 : (Lit.int .i64 a1).wf = true) (w2 : (Lit.int .i64 a2).wf = true) :
    Calls Try.prog 17 #[.int .u64 a0, .int .i64 a1, .int .i64 a2] w fun e w' => e = .returned (.bool true) ∧ Below w.heap.size w w' := by
  obtain ⟨k, h⟩ := P a0 a1 a2 w0 w1 w2
  refine (vernierlaw01_LeadFields.calls k a0 a1 a2 true w h).mono ?_
  rintro e w' ⟨rfl, hd⟩
  exact ⟨rfl, hd⟩

end Go.Proofs.Ytjbcfiigafbobaa.F
