/- Functions of the given program as plain Lean functions, and for each a proof that the program's call comes to just these answers; no further conditions. (Written by a program of this repo out of the translation.) -/
import Derived.Test.YtlllaoihpkdpmaaDoorF0a
import Derived.Test.YtlllaoihpkdpmaaDoorF5a
import Derived.Test.YtlllaoihpkdpmaaDoorF7a
import Derived.Test.YtlllaoihpkdpmaaDoorF11a
import Derived.Test.YtlllaoihpkdpmaaDoorF16a
import Derived.Test.YtlllaoihpkdpmaaDoorF19a
namespace Go.Proofs.YtlllaoihpkdpmaaDoor.F
open Go.RowKit Go.Proofs.YtlllaoihpkdpmaaDoorW.PrintWords Go.Proofs.YtlllaoihpkdpmaaDoorW.PrintLast Go.Proofs.YtlllaoihpkdpmaaDoorW.PrintMore
attribute [local go_sem high] xor_u64 xor_u32 eqErr25 neErr25 eqErrL25 neErrL25
attribute [local go_sem] max2_int min2_int max_two min_two max_three min_three max_four min_four   -- for this text's walks alone
set_option linter.unusedVariables false
set_option linter.unusedSimpArgs false
def vernierlaw16_IntsWhole.f (k : Nat) (a0 : Int) (a1 : Int) (a2 : Int) : Option (Bool) := (vernierlaw16_shown.f k).bind fun t572 => ((ints_Whole.f k a0 a1 a2).bind fun bt573 => ((ints_IsWhole.f k a0 a1).bind fun bt575 => ((vernierref16_Whole.f k a0 a1 a2).bind fun bt577 => ((vernierref16_IsWhole.f k a0 a1).bind fun bt579 => (if t572 = true then (if bt573.1 = bt577.1 then (if (bt575.1 == bt579.1) = true then ((vernierlaw00_Code.f bt573.2).bind fun t581 => (if t581 = bt577.2 then ((vernierlaw00_Code.f bt575.2).bind fun t582 => (some (t582 == bt579.2))) else (some false))) else (some false)) else (some false)) else (some false))))))
set_option maxHeartbeats 8000000 in
set_option maxRecDepth 100000 in
theorem vernierlaw16_IntsWhole.calls (k : Nat) (a0 : Int) (a1 : Int) (a2 : Int) (r : Bool) (w : World) (HT : Tz w) (h : vernierlaw16_IntsWhole.f k a0 a1 a2 = some r) :
  Calls Tryd.prog 3 #[.int .i64 a0, .int .u64 a1, .int .i64 a2] w fun e w' => e = .returned (.bool r) ∧ Below w.heap.size w w' := by
 have HB := Aside0.mk (Below.refl w.heap.size w)
 have H : ((vernierlaw16_shown.f k).bind fun t572 => ((ints_Whole.f k a0 a1 a2).bind fun bt573 => ((ints_IsWhole.f k a0 a1).bind fun bt575 => ((vernierref16_Whole.f k a0 a1 a2).bind fun bt577 => ((vernierref16_IsWhole.f k a0 a1).bind fun bt579 => (if t572 = true then (if bt573.1 = bt577.1 then (if (bt575.1 == bt579.1) = true then ((vernierlaw00_Code.f bt573.2).bind fun t581 => (if t581 = bt577.2 then ((vernierlaw00_Code.f bt575.2).bind fun t582 => (some (t582 == bt579.2))) else (some false))) else (some false)) else (some false)) else (some false))))))) = some r := h
 clear h
 replace H := Option.bind_eq_some_iff.mp H
 obtain ⟨t572, A40, H⟩ := H
 try dsimp -simprocs only at H
 have A4 := Aside0.mk A40
 clear A40
 replace H := Option.bind_eq_some_iff.mp H
 obtain ⟨⟨t573, t574⟩, A50, H⟩ := H
 try dsimp -simprocs only at H
 have A5 := Aside0.mk A50
 clear A50
 replace H := Option.bind_eq_some_iff.mp H
 obtain ⟨⟨t575, t576⟩, A60, H⟩ := H
 try dsimp -simprocs only at H
 have A6 := Aside0.mk A60
 clear A60
 replace H := Option.bind_eq_some_iff.mp H
 obtain ⟨⟨t577, t578⟩, A70, H⟩ := H
 try dsimp -simprocs only at H
 have A7 := Aside0.mk A70
 clear A70
 replace H := Option.bind_eq_some_iff.mp H
 obtain ⟨⟨t579, t580⟩, A80, H⟩ := H
 try dsimp -simprocs only at H
 have A8 := Aside0.mk A80
 clear A80
 by_cases c9 : t572 = true
 ·
  subst c9
  rw [if_pos rfl] at H
  by_cases c10 : t573 = t577
  ·
   rw [if_pos c10] at H
   have c10b0 : (t573 == t577) = true := beq_iff_eq.mpr c10
   have c10b1 : (t573 != t577) = false := bne_eq_false_iff_eq.mpr c10
   clear c10
   by_cases c11 : (t575 == t579) = true
   ·
    rw [if_pos c11] at H
    have c11b0 : (t575 == t579) = true := c11
    (try (have c11b1 : decide (t575 = t579) = true := by simpa using c11))
    (try (have c11b2 : (t575 == t579) = true := by simpa using c11))
    clear c11
    replace H := Option.bind_eq_some_iff.mp H
    obtain ⟨t581, A120, H⟩ := H
    try dsimp -simprocs only at H
    have A12 := Aside0.mk A120
    clear A120
    by_cases c13 : t581 = t578
    ·
     rw [if_pos c13] at H
     have c13b0 : (t581 == t578) = true := beq_iff_eq.mpr c13
     have c13b1 : (t581 != t578) = false := bne_eq_false_iff_eq.mpr c13
     clear c13
     replace H := Option.bind_eq_some_iff.mp H
     obtain ⟨t582, A140, H⟩ := H
     try dsimp -simprocs only at H
     have A14 := Aside0.mk A140
     clear A140
     obtain rfl := Option.some.inj H
     go_enter Tryd.func3, Tryd.ntmps3
     as_aux_lemma =>
      go_wp2_with (first | ((with_reducible refine gX_ 5 16 rfl rfl ?_); refine goesY_ (some 16) Tryd.func5 #[] ?_; (with_reducible refine (vernierlaw16_shown.calls k  true _ A4.out).mono ?_); rintro e w15 ⟨rfl, hb⟩; refine ⟨_, rfl, ?_⟩; replace HB := Aside0.mk (bS3 HB.out hb); (try clear hb); (try clear hk)) | ((with_reducible refine gX_ 6 21 rfl rfl ?_); refine goesY_ (some 21) Tryd.func6 #[.int .i64 a0, .int .u64 a1, .int .i64 a2] ?_; (with_reducible refine (ints_Whole.calls k a0 a1 a2 t573 t574 _ A5.out).mono ?_); rintro e w16 ⟨rfl, hb⟩; refine ⟨_, rfl, ?_⟩; replace HB := Aside0.mk (bS3 HB.out hb); (try clear hb); (try clear hk); (try simp only [errW_none, errW_some])) | ((with_reducible refine gX_ 7 27 rfl rfl ?_); refine goesY_ (some 27) Tryd.func7 #[.int .i64 a0, .int .u64 a1] ?_; (with_reducible refine (ints_IsWhole.calls k a0 a1 t575 t576 _ (tz3 HT) A6.out).mono ?_); rintro e w17 ⟨rfl, hb⟩; refine ⟨_, rfl, ?_⟩; replace HB := Aside0.mk (bS3 HB.out hb); (try clear hb); (try clear hk); (try simp only [errW_none, errW_some])) | ((with_reducible refine gX_ 8 34 rfl rfl ?_); refine goesY_ (some 34) Tryd.func8 #[.int .i64 a0, .int .u64 a1, .int .i64 a2] ?_; (with_reducible refine (vernierref16_Whole.calls k a0 a1 a2 t577 t578 _ A7.out).mono ?_); rintro e w18 ⟨rfl, hb⟩; refine ⟨_, rfl, ?_⟩; replace HB := Aside0.mk (bS3 HB.out hb); (try clear hb); (try clear hk)) | ((with_reducible refine gX_ 9 40 rfl rfl ?_); refine goesY_ (some 40) Tryd.func9 #[.int .i64 a0, .int .u64 a1] ?_; (with_reducible refine (vernierref16_IsWhole.calls k a0 a1 t579 t580 _ A8.out).mono ?_); rintro e w19 ⟨rfl, hb⟩; refine ⟨_, rfl, ?_⟩; replace HB := Aside0.mk (bS3 HB.out hb); (try clear hb); (try clear hk); have CA12 := fun W => vernierlaw00_Code.calls t574 t581 W A12.out; try simp only [errW_none, errW_some] at CA12) | (go_at_call 10; (with_reducible refine (CA12 _).mono ?_); rintro e w' ⟨rfl, ⟨nd, rfl⟩⟩; have CA14 := fun W => vernierlaw00_Code.calls t576 t582 W A14.out; try simp only [errW_none, errW_some] at CA14) | (go_at_call 10; (with_reducible refine (CA14 _).mono ?_); rintro e w' ⟨rfl, ⟨nd, rfl⟩⟩))
      go_ret
      exact ⟨eR3, bR3 HB.out⟩
    ·
     rw [if_neg c13] at H
     have c13b0 : (t581 == t578) = false := beq_eq_false_iff_ne.mpr c13
     have c13b1 : (t581 != t578) = true := bne_iff_ne.mpr c13
     obtain rfl := Option.some.inj H
     go_enter Tryd.func3, Tryd.ntmps3
     as_aux_lemma =>
      go_wp2_with (first | ((with_reducible refine gX_ 5 16 rfl rfl ?_); refine goesY_ (some 16) Tryd.func5 #[] ?_; (with_reducible refine (vernierlaw16_shown.calls k  true _ A4.out).mono ?_); rintro e w20 ⟨rfl, hb⟩; refine ⟨_, rfl, ?_⟩; replace HB := Aside0.mk (bS3 HB.out hb); (try clear hb); (try clear hk)) | ((with_reducible refine gX_ 6 21 rfl rfl ?_); refine goesY_ (some 21) Tryd.func6 #[.int .i64 a0, .int .u64 a1, .int .i64 a2] ?_; (with_reducible refine (ints_Whole.calls k a0 a1 a2 t573 t574 _ A5.out).mono ?_); rintro e w21 ⟨rfl, hb⟩; refine ⟨_, rfl, ?_⟩; replace HB := Aside0.mk (bS3 HB.out hb); (try clear hb); (try clear hk); (try simp only [errW_none, errW_some])) | ((with_reducible refine gX_ 7 27 rfl rfl ?_); refine goesY_ (some 27) Tryd.func7 #[.int .i64 a0, .int .u64 a1] ?_; (with_reducible refine (ints_IsWhole.calls k a0 a1 t575 t576 _ (tz3 HT) A6.out).mono ?_); rintro e w22 ⟨rfl, hb⟩; refine ⟨_, rfl, ?_⟩; replace HB := Aside0.mk (bS3 HB.out hb); (try clear hb); (try clear hk); (try simp only [errW_none, errW_some])) | ((with_reducible refine gX_ 8 34 rfl rfl ?_); refine goesY_ (some 34) Tryd.func8 #[.int .i64 a0, .int .u64 a1, .int .i64 a2] ?_; (with_reducible refine (vernierref16_Whole.calls k a0 a1 a2 t577 t578 _ A7.out).mono ?_); rintro e w23 ⟨rfl, hb⟩; refine ⟨_, rfl, ?_⟩; replace HB := Aside0.mk (bS3 HB.out hb); (try clear hb); (try clear hk)) | ((with_reducible refine gX_ 9 40 rfl rfl ?_); refine goesY_ (some 40) Tryd.func9 #[.int .i64 a0, .int .u64 a1] ?_; (with_reducible refine (vernierref16_IsWhole.calls k a0 a1 t579 t580 _ A8.out).mono ?_); rintro e w24 ⟨rfl, hb⟩; refine ⟨_, rfl, ?_⟩; replace HB := Aside0.mk (bS3 HB.out hb); (try clear hb); (try clear hk); have CA12 := fun W => vernierlaw00_Code.calls t574 t581 W A12.out; try simp only [errW_none, errW_some] at CA12) | (go_at_call 10; (with_reducible refine (CA12 _).mono ?_); rintro e w' ⟨rfl, ⟨nd, rfl⟩⟩))
      go_ret
      exact ⟨eR3, bR3 HB.out⟩
   ·
    rw [if_neg c11] at H
    have c11b0 : (t575 == t579) = false := by simpa using c11
    (try (have c11b1 : decide (t575 = t579) = false := by simpa using c11))
    (try (have c11b2 : (t575 == t579) = false := by simpa using c11))
    (try (have c11b3 : ¬ (t575 = t579) := by simpa using c11))
    clear c11
    obtain rfl := Option.some.inj H
    go_enter Tryd.func3, Tryd.ntmps3
    as_aux_lemma =>
     go_wp2_with (first | ((with_reducible refine gX_ 5 16 rfl rfl ?_); refine goesY_ (some 16) Tryd.func5 #[] ?_; (with_reducible refine (vernierlaw16_shown.calls k  true _ A4.out).mono ?_); rintro e w25 ⟨rfl, hb⟩; refine ⟨_, rfl, ?_⟩; replace HB := Aside0.mk (bS3 HB.out hb); (try clear hb); (try clear hk)) | ((with_reducible refine gX_ 6 21 rfl rfl ?_); refine goesY_ (some 21) Tryd.func6 #[.int .i64 a0, .int .u64 a1, .int .i64 a2] ?_; (with_reducible refine (ints_Whole.calls k a0 a1 a2 t573 t574 _ A5.out).mono ?_); rintro e w26 ⟨rfl, hb⟩; refine ⟨_, rfl, ?_⟩; replace HB := Aside0.mk (bS3 HB.out hb); (try clear hb); (try clear hk); (try simp only [errW_none, errW_some])) | ((with_reducible refine gX_ 7 27 rfl rfl ?_); refine goesY_ (some 27) Tryd.func7 #[.int .i64 a0, .int .u64 a1] ?_; (with_reducible refine (ints_IsWhole.calls k a0 a1 t575 t576 _ (tz3 HT) A6.out).mono ?_); rintro e w27 ⟨rfl, hb⟩; refine ⟨_, rfl, ?_⟩; replace HB := Aside0.mk (bS3 HB.out hb); (try clear hb); (try clear hk); (try simp only [errW_none, errW_some])) | ((with_reducible refine gX_ 8 34 rfl rfl ?_); refine goesY_ (some 34) Tryd.func8 #[.int .i64 a0, .int .u64 a1, .int .i64 a2] ?_; (with_reducible refine (vernierref16_Whole.calls k a0 a1 a2 t577 t578 _ A7.out).mono ?_); rintro e w28 ⟨rfl, hb⟩; refine ⟨_, rfl, ?_⟩; replace HB := Aside0.mk (bS3 HB.out hb); (try clear hb); (try clear hk)) | ((with_reducible refine gX_ 9 40 rfl rfl ?_); refine goesY_ (some 40) Tryd.func9 #[.int .i64 a0, .int .u64 a1] ?_; (with_reducible refine (vernierref16_IsWhole.calls k a0 a1 t579 t580 _ A8.out).mono ?_); rintro e w29 ⟨rfl, hb⟩; refine ⟨_, rfl, ?_⟩; replace HB := Aside0.mk (bS3 HB.out hb); (try clear hb); (try clear hk)))
     go_ret
     exact ⟨eR3, bR3 HB.out⟩
  ·
   rw [if_neg c10] at H
   have c10b0 : (t573 == t577) = false := beq_eq_false_iff_ne.mpr c10
   have c10b1 : (t573 != t577) = true := bne_iff_ne.mpr c10
   obtain rfl := Option.some.inj H
   go_enter Tryd.func3, Tryd.ntmps3
   as_aux_lemma =>
    go_wp2_with (first | ((with_reducible refine gX_ 5 16 rfl rfl ?_); refine goesY_ (some 16) Tryd.func5 #[] ?_; (with_reducible refine (vernierlaw16_shown.calls k  true _ A4.out).mono ?_); rintro e w30 ⟨rfl, hb⟩; refine ⟨_, rfl, ?_⟩; replace HB := Aside0.mk (bS3 HB.out hb); (try clear hb); (try clear hk)) | ((with_reducible refine gX_ 6 21 rfl rfl ?_); refine goesY_ (some 21) Tryd.func6 #[.int .i64 a0, .int .u64 a1, .int .i64 a2] ?_; (with_reducible refine (ints_Whole.calls k a0 a1 a2 t573 t574 _ A5.out).mono ?_); rintro e w31 ⟨rfl, hb⟩; refine ⟨_, rfl, ?_⟩; replace HB := Aside0.mk (bS3 HB.out hb); (try clear hb); (try clear hk); (try simp only [errW_none, errW_some])) | ((with_reducible refine gX_ 7 27 rfl rfl ?_); refine goesY_ (some 27) Tryd.func7 #[.int .i64 a0, .int .u64 a1] ?_; (with_reducible refine (ints_IsWhole.calls k a0 a1 t575 t576 _ (tz3 HT) A6.out).mono ?_); rintro e w32 ⟨rfl, hb⟩; refine ⟨_, rfl, ?_⟩; replace HB := Aside0.mk (bS3 HB.out hb); (try clear hb); (try clear hk); (try simp only [errW_none, errW_some])) | ((with_reducible refine gX_ 8 34 rfl rfl ?_); refine goesY_ (some 34) Tryd.func8 #[.int .i64 a0, .int .u64 a1, .int .i64 a2] ?_; (with_reducible refine (vernierref16_Whole.calls k a0 a1 a2 t577 t578 _ A7.out).mono ?_); rintro e w33 ⟨rfl, hb⟩; refine ⟨_, rfl, ?_⟩; replace HB := Aside0.mk (bS3 HB.out hb); (try clear hb); (try clear hk)) | ((with_reducible refine gX_ 9 40 rfl rfl ?_); refine goesY_ (some 40) Tryd.func9 #[.int .i64 a0, .int .u64 a1] ?_; (with_reducible refine (vernierref16_IsWhole.calls k a0 a1 t579 t580 _ A8.out).mono ?_); rintro e w34 ⟨rfl, hb⟩; refine ⟨_, rfl, ?_⟩; replace HB := Aside0.mk (bS3 HB.out hb); (try clear hb); (try clear hk)))
    go_ret
    exact ⟨eR3, bR3 HB.out⟩
 ·
  replace c9 := Bool.eq_false_iff.mpr c9
  subst c9
  rw [if_neg (show ¬ (false = true) by decide)] at H
  obtain rfl := Option.some.inj H
  go_enter Tryd.func3, Tryd.ntmps3
  as_aux_lemma =>
   go_wp2_with (first | ((with_reducible refine gX_ 5 16 rfl rfl ?_); refine goesY_ (some 16) Tryd.func5 #[] ?_; (with_reducible refine (vernierlaw16_shown.calls k  false _ A4.out).mono ?_); rintro e w35 ⟨rfl, hb⟩; refine ⟨_, rfl, ?_⟩; replace HB := Aside0.mk (bS3 HB.out hb); (try clear hb); (try clear hk)) | ((with_reducible refine gX_ 6 21 rfl rfl ?_); refine goesY_ (some 21) Tryd.func6 #[.int .i64 a0, .int .u64 a1, .int .i64 a2] ?_; (with_reducible refine (ints_Whole.calls k a0 a1 a2 t573 t574 _ A5.out).mono ?_); rintro e w36 ⟨rfl, hb⟩; refine ⟨_, rfl, ?_⟩; replace HB := Aside0.mk (bS3 HB.out hb); (try clear hb); (try clear hk); (try simp only [errW_none, errW_some])) | ((with_reducible refine gX_ 7 27 rfl rfl ?_); refine goesY_ (some 27) Tryd.func7 #[.int .i64 a0, .int .u64 a1] ?_; (with_reducible refine (ints_IsWhole.calls k a0 a1 t575 t576 _ (tz3 HT) A6.out).mono ?_); rintro e w37 ⟨rfl, hb⟩; refine ⟨_, rfl, ?_⟩; replace HB := Aside0.mk (bS3 HB.out hb); (try clear hb); (try clear hk); (try simp only [errW_none, errW_some])) | ((with_reducible refine gX_ 8 34 rfl rfl ?_); refine goesY_ (some 34) Tryd.func8 #[.int .i64 a0, .int .u64 a1, .int .i64 a2] ?_; (with_reducible refine (vernierref16_Whole.calls k a0 a1 a2 t577 t578 _ A7.out).mono ?_); rintro e w38 ⟨rfl, hb⟩; refine ⟨_, rfl, ?_⟩; replace HB := Aside0.mk (bS3 HB.out hb); (try clear hb); (try clear hk)) | ((with_reducible refine gX_ 9 40 rfl rfl ?_); refine goesY_ (some 40) Tryd.func9 #[.int .i64 a0, .int .u64 a1] ?_; (with_reducible refine (vernierref16_IsWhole.calls k a0 a1 t579 t580 _ A8.out).mono ?_); rintro e w39 ⟨rfl, hb⟩; refine ⟨_, rfl, ?_⟩; replace HB := Aside0.mk (bS3 HB.out hb); (try clear hb); (try clear hk)))
   go_ret
   exact ⟨eR3, bR3 HB.out⟩
/-- THE ONE PURE STATEMENT of vernierlaw16_IntsWhole: yours. -/
def vernierlaw16_IntsWhole.Pure : Prop := ∀ (a0 : Int) (a1 : Int) (a2 : Int), (Lit.int .i64 a0).wf = true → (Lit.int .u64 a1).wf = true → (Lit.int .i64 a2).wf = true → ∃ k, vernierlaw16_IntsWhole.f k a0 a1 a2 = some true
theorem vernierlaw16_IntsWhole.walk (P : vernierlaw16_IntsWhole.Pure) (a0 : Int) (a1 : Int) (a2 : Int) (w : World) (HT : Tz w) (w0 : (Lit.int .i64 a0).wf = true) (w1 : (Lit.int .u64 a1).wf = true) (w2 : (Lit.int .i64 a2).wf = true) :
  Calls Tryd.prog 3 #[.int .i64 a0, .int .u64 a1, .int .i64 a2] w fun e w' => e = .returned (.bool true) ∧ Below w.heap.size w w' := by
 obtain ⟨k, h⟩ := P a0 a1 a2 w0 w1 w2
 refine (vernierlaw16_IntsWhole.calls k a0 a1 a2 true w HT h).mono ?_
 rintro e w' ⟨rfl, hd⟩
 exact ⟨rfl, hd⟩
end Go.Proofs.YtlllaoihpkdpmaaDoor.F
