/- Functions of the given program as plain Lean functions, and for each a proof that the program's call comes to just these answers; no further conditions. (Written by a program of this repo out of the translation.) -/
import Derived.Test.YtjbcfiigafbobaaF0
import Derived.Test.YtjbcfiigafbobaaF9
namespace Go.Proofs.Ytjbcfiigafbobaa.F
open Go.RowKit Go.Proofs.YtjbcfiigafbobaaW.PrintWords Go.Proofs.YtjbcfiigafbobaaW.PrintLast Go.Proofs.YtjbcfiigafbobaaW.PrintMore
attribute [local go_sem high] xor_u64 xor_u32 eqErr29 neErr29 eqErrL29 neErrL29
attribute [local go_sem] max2_int min2_int max_two min_two max_three min_three max_four min_four   -- for this text's walks alone
set_option linter.unusedVariables false
set_option linter.unusedSimpArgs false

/-! ### vernierlaw01_up: function 25 -/
def vernierlaw01_up.f (k : Nat)  : Option (Bool) := (lead_Run.f k 14 4).bind fun bt182 => ((lead_Show.f k 5 4).bind fun bt185 => (if bt182.1 = true then (if bt182.2.1 = 3 then (if bt182.2.2.isNone = true then (if bt185.1.toList = ([48, 49, 48, 49] : List UInt8) then (if bt185.2.isNone = true then (some true) else (some false)) else (some false)) else (some false)) else (some false)) else (some false)))
theorem vernierlaw01_up.mono : ∀ k, LeO (vernierlaw01_up.f k ) (vernierlaw01_up.f (k + 1) ) := by
  intro  k
  unfold vernierlaw01_up.f
  repeat' first
      | (with_reducible exact lead_Run.mono _ _ _)
      | (with_reducible exact lead_Show.mono _ _ _)
      | (with_reducible exact LeO.refl _)
      | (with_reducible exact LeO.none _)
      | (with_reducible refine LeO.ite ?_ ?_)
      | (with_reducible refine LeO.bind ?_ (fun _ => ?_))
      | exact lead_Run.mono _ _ _
      | exact lead_Show.mono _ _ _
      | exact LeO.none _
      | refine LeO.ite ?_ ?_
      | refine LeO.bind ?_ (fun _ => ?_)
set_option maxHeartbeats 8000000 in
set_option maxRecDepth 100000 in
theorem vernierlaw01_up.calls (k : Nat)  (r : Bool) (w : World) (h : vernierlaw01_up.f k  = some r) :
    Calls Try.prog 25 #[] w fun e w' => e = .returned (.bool r) ∧ Below w.heap.size w w' := by
  have hu29 := Try.underlying29
  have hu77 := Try.underlying77
  have HB := Aside0.mk (Below.refl w.heap.size w)
  have H : ((lead_Run.f k 14 4).bind fun bt182 => ((lead_Show.f k 5 4).bind fun bt185 => (if bt182.1 = true then (if bt182.2.1 = 3 then (if bt182.2.2.isNone = true then (if bt185.1.toList = ([48, 49, 48, 49] : List UInt8) then (if bt185.2.isNone = true then (some true) else (some false)) else (some false)) else (some false)) else (some false)) else (some false)))) = some r := h
  clear h
  replace H := Option.bind_eq_some_iff.mp H
  obtain ⟨⟨t182, t183, t184⟩, A10, H⟩ := H
  replace H : ((lead_Show.f k 5 4).bind fun bt185 => (if t182 = true then (if t183 = 3 then (if t184.isNone = true then (if bt185.1.toList = ([48, 49, 48, 49] : List UInt8) then (if bt185.2.isNone = true then (some true) else (some false)) else (some false)) else (some false)) else (some false)) else (some false))) = some r := H
  have A1 := Aside0.mk A10
  clear A10
  replace H := Option.bind_eq_some_iff.mp H
  obtain ⟨⟨t185, t186⟩, A20, H⟩ := H
  replace H : (if t182 = true then (if t183 = 3 then (if t184.isNone = true then (if t185.toList = ([48, 49, 48, 49] : List UInt8) then (if t186.isNone = true then (some true) else (some false)) else (some false)) else (some false)) else (some false)) else (some false)) = some r := H
  have A2 := Aside0.mk A20
  clear A20
  by_cases c3 : t182 = true
  · subst c3
    have H1 : (if t183 = 3 then (if t184.isNone = true then (if t185.toList = ([48, 49, 48, 49] : List UInt8) then (if t186.isNone = true then (some true) else (some false)) else (some false)) else (some false)) else (some false)) = some r := by rw [if_pos rfl] at H; exact H
    clear H
    have H := H1
    clear H1
    by_cases c4 : t183 = 3
    · rw [if_pos c4] at H
      have c4b0 : (t183 == 3) = true := beq_iff_eq.mpr c4
      have c4b1 : (t183 != 3) = false := bne_eq_false_iff_eq.mpr c4
      clear c4
      rcases t184 with _ | q187
      · have H1 : (if t185.toList = ([48, 49, 48, 49] : List UInt8) then (if t186.isNone = true then (some true) else (some false)) else (some false)) = some r := by rw [if_pos (show (none : Option Int).isNone = true by rfl)] at H; exact H
        clear H
        have H := H1
        clear H1
        try simp only [errW_none, errW_some]
        by_cases c5 : t185.toList = ([48, 49, 48, 49] : List UInt8)
        · rw [if_pos c5] at H
          have c5b0 : (t185.toList == ([48, 49, 48, 49] : List UInt8)) = true := beq_iff_eq.mpr c5
          have c5b1 : (t185.toList != ([48, 49, 48, 49] : List UInt8)) = false := bne_eq_false_iff_eq.mpr c5
          clear c5
          rcases t186 with _ | q188
          · have H1 : (some true) = some r := by rw [if_pos (show (none : Option Int).isNone = true by rfl)] at H; exact H
            clear H
            have H := H1
            clear H1
            try simp only [errW_none, errW_some]
            obtain rfl := Option.some.inj H
            go_enter Try.func25, Try.ntmps25
            go_wp2_with (first | ((with_reducible refine gC (f := 26) rfl ?_); refine goesY_ (some 7) Try.func26 #[.int .u64 14, .int .i64 4] ?_; (with_reducible refine (lead_Run.calls k 14 4 true t183 none _ A1.out).mono ?_); rintro e w6 ⟨rfl, hb⟩; refine ⟨_, rfl, ?_⟩; have n0_ := Aside0.mk (bS3 HB.out hb); clear HB; have HB := n0_; clear n0_; (try clear hb); (try clear hb2); (try clear hk); (try clear hi); (try simp only [errW_none, errW_some])) | ((with_reducible refine gC (f := 29) rfl ?_); refine goesY_ (some 12) Try.func29 #[.int .u64 5, .int .i64 4] ?_; (with_reducible refine (lead_Show.calls k 5 4 t185 none _ A2.out).mono ?_); rintro e w7 ⟨rfl, hb⟩; refine ⟨_, rfl, ?_⟩; have n0_ := Aside0.mk (bS3 HB.out hb); clear HB; have HB := n0_; clear n0_; (try clear hb); (try clear hb2); (try clear hk); (try clear hi); (try simp only [errW_none, errW_some])))
            go_ret
            exact ⟨by first | rfl | (simp [errW_none, errW_some] <;> rfl) | (simp [*, errW_none, errW_some] <;> rfl), by repeat (first | (with_reducible first | exact HB.out | apply pA | apply pN | apply p1) | exact HB.out)⟩
          · have H1 : (some false) = some r := by rw [if_neg (show ¬ (some q188).isNone = true by simp)] at H; exact H
            clear H
            have H := H1
            clear H1
            try simp only [errW_none, errW_some]
            obtain rfl := Option.some.inj H
            go_enter Try.func25, Try.ntmps25
            go_wp2_with (first | ((with_reducible refine gC (f := 26) rfl ?_); refine goesY_ (some 7) Try.func26 #[.int .u64 14, .int .i64 4] ?_; (with_reducible refine (lead_Run.calls k 14 4 true t183 none _ A1.out).mono ?_); rintro e w8 ⟨rfl, hb⟩; refine ⟨_, rfl, ?_⟩; have n0_ := Aside0.mk (bS3 HB.out hb); clear HB; have HB := n0_; clear n0_; (try clear hb); (try clear hb2); (try clear hk); (try clear hi); (try simp only [errW_none, errW_some])) | ((with_reducible refine gC (f := 29) rfl ?_); refine goesY_ (some 12) Try.func29 #[.int .u64 5, .int .i64 4] ?_; (with_reducible refine (lead_Show.calls k 5 4 t185 (some q188) _ A2.out).mono ?_); rintro e w9 ⟨rfl, hb⟩; refine ⟨_, rfl, ?_⟩; have n0_ := Aside0.mk (bS3 HB.out hb); clear HB; have HB := n0_; clear n0_; (try clear hb); (try clear hb2); (try clear hk); (try clear hi); (try simp only [errW_none, errW_some])))
            go_ret
            exact ⟨by first | rfl | (simp [errW_none, errW_some] <;> rfl) | (simp [*, errW_none, errW_some] <;> rfl), by repeat (first | (with_reducible first | exact HB.out | apply pA | apply pN | apply p1) | exact HB.out)⟩
        · rw [if_neg c5] at H
          have c5b0 : (t185.toList == ([48, 49, 48, 49] : List UInt8)) = false := beq_eq_false_iff_ne.mpr c5
          have c5b1 : (t185.toList != ([48, 49, 48, 49] : List UInt8)) = true := bne_iff_ne.mpr c5
          obtain rfl := Option.some.inj H
          go_enter Try.func25, Try.ntmps25
          go_wp2_with (first | ((with_reducible refine gC (f := 26) rfl ?_); refine goesY_ (some 7) Try.func26 #[.int .u64 14, .int .i64 4] ?_; (with_reducible refine (lead_Run.calls k 14 4 true t183 none _ A1.out).mono ?_); rintro e w10 ⟨rfl, hb⟩; refine ⟨_, rfl, ?_⟩; have n0_ := Aside0.mk (bS3 HB.out hb); clear HB; have HB := n0_; clear n0_; (try clear hb); (try clear hb2); (try clear hk); (try clear hi); (try simp only [errW_none, errW_some])) | ((with_reducible refine gC (f := 29) rfl ?_); refine goesY_ (some 12) Try.func29 #[.int .u64 5, .int .i64 4] ?_; (with_reducible refine (lead_Show.calls k 5 4 t185 t186 _ A2.out).mono ?_); rintro e w11 ⟨rfl, hb⟩; refine ⟨_, rfl, ?_⟩; have n0_ := Aside0.mk (bS3 HB.out hb); clear HB; have HB := n0_; clear n0_; (try clear hb); (try clear hb2); (try clear hk); (try clear hi); (try simp only [errW_none, errW_some])))
          go_ret
          exact ⟨by first | rfl | (simp [errW_none, errW_some] <;> rfl) | (simp [*, errW_none, errW_some] <;> rfl), by repeat (first | (with_reducible first | exact HB.out | apply pA | apply pN | apply p1) | exact HB.out)⟩
      · have H1 : (some false) = some r := by rw [if_neg (show ¬ (some q187).isNone = true by simp)] at H; exact H
        clear H
        have H := H1
        clear H1
        try simp only [errW_none, errW_some]
        obtain rfl := Option.some.inj H
        go_enter Try.func25, Try.ntmps25
        go_wp2_with (first | ((with_reducible refine gC (f := 26) rfl ?_); refine goesY_ (some 7) Try.func26 #[.int .u64 14, .int .i64 4] ?_; (with_reducible refine (lead_Run.calls k 14 4 true t183 (some q187) _ A1.out).mono ?_); rintro e w12 ⟨rfl, hb⟩; refine ⟨_, rfl, ?_⟩; have n0_ := Aside0.mk (bS3 HB.out hb); clear HB; have HB := n0_; clear n0_; (try clear hb); (try clear hb2); (try clear hk); (try clear hi); (try simp only [errW_none, errW_some])) | ((with_reducible refine gC (f := 29) rfl ?_); refine goesY_ (some 12) Try.func29 #[.int .u64 5, .int .i64 4] ?_; (with_reducible refine (lead_Show.calls k 5 4 t185 t186 _ A2.out).mono ?_); rintro e w13 ⟨rfl, hb⟩; refine ⟨_, rfl, ?_⟩; have n0_ := Aside0.mk (bS3 HB.out hb); clear HB; have HB := n0_; clear n0_; (try clear hb); (try clear hb2); (try clear hk); (try clear hi); (try simp only [errW_none, errW_some])))
        go_ret
        exact ⟨by first | rfl | (simp [errW_none, errW_some] <;> rfl) | (simp [*, errW_none, errW_some] <;> rfl), by repeat (first | (with_reducible first | exact HB.out | apply pA | apply pN | apply p1) | exact HB.out)⟩
    · rw [if_neg c4] at H
      have c4b0 : (t183 == 3) = false := beq_eq_false_iff_ne.mpr c4
      have c4b1 : (t183 != 3) = true := bne_iff_ne.mpr c4
      obtain rfl := Option.some.inj H
      go_enter Try.func25, Try.ntmps25
      go_wp2_with (first | ((with_reducible refine gC (f := 26) rfl ?_); refine goesY_ (some 7) Try.func26 #[.int .u64 14, .int .i64 4] ?_; (with_reducible refine (lead_Run.calls k 14 4 true t183 t184 _ A1.out).mono ?_); rintro e w14 ⟨rfl, hb⟩; refine ⟨_, rfl, ?_⟩; have n0_ := Aside0.mk (bS3 HB.out hb); clear HB; have HB := n0_; clear n0_; (try clear hb); (try clear hb2); (try clear hk); (try clear hi); (try simp only [errW_none, errW_some])) | ((with_reducible refine gC (f := 29) rfl ?_); refine goesY_ (some 12) Try.func29 #[.int .u64 5, .int .i64 4] ?_; (with_reducible refine (lead_Show.calls k 5 4 t185 t186 _ A2.out).mono ?_); rintro e w15 ⟨rfl, hb⟩; refine ⟨_, rfl, ?_⟩; have n0_ := Aside0.mk (bS3 HB.out hb); clear HB; have HB := n0_; clear n0_; (try clear hb); (try clear hb2); (try clear hk); (try clear hi); (try simp only [errW_none, errW_some])))
      go_ret
      exact ⟨by first | rfl | (simp [errW_none, errW_some] <;> rfl) | (simp [*, errW_none, errW_some] <;> rfl), by repeat (first | (with_reducible first | exact HB.out | apply pA | apply pN | apply p1) | exact HB.out)⟩
  · replace c3 := Bool.eq_false_iff.mpr c3
    subst c3
    have H1 : (some false) = some r := by rw [if_neg (show ¬ (false = true) by decide)] at H; exact H
    clear H
    have H := H1
    clear H1
    obtain rfl := Option.some.inj H
    go_enter Try.func25, Try.ntmps25
    go_wp2_with (first | ((with_reducible refine gC (f := 26) rfl ?_); refine goesY_ (some 7) Try.func26 #[.int .u64 14, .int .i64 4] ?_; (with_reducible refine (lead_Run.calls k 14 4 false t183 t184 _ A1.out).mono ?_); rintro e w16 ⟨rfl, hb⟩; refine ⟨_, rfl, ?_⟩; have n0_ := Aside0.mk (bS3 HB.out hb); clear HB; have HB := n0_; clear n0_; (try clear hb); (try clear hb2); (try clear hk); (try clear hi); (try simp only [errW_none, errW_some])) | ((with_reducible refine gC (f := 29) rfl ?_); refine goesY_ (some 12) Try.func29 #[.int .u64 5, .int .i64 4] ?_; (with_reducible refine (lead_Show.calls k 5 4 t185 t186 _ A2.out).mono ?_); rintro e w17 ⟨rfl, hb⟩; refine ⟨_, rfl, ?_⟩; have n0_ := Aside0.mk (bS3 HB.out hb); clear HB; have HB := n0_; clear n0_; (try clear hb); (try clear hb2); (try clear hk); (try clear hi); (try simp only [errW_none, errW_some])))
    go_ret
    exact ⟨by first | rfl | (simp [errW_none, errW_some] <;> rfl) | (simp [*, errW_none, errW_some] <;> rfl), by repeat (first | (with_reducible first | exact HB.out | apply pA | apply pN | apply p1) | exact HB.out)⟩

end Go.Proofs.Ytjbcfiigafbobaa.F
