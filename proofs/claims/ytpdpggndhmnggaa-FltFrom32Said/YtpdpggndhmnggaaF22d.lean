/- Functions of the given program as plain Lean functions, and for each a proof that the program's call comes to just these answers; no further conditions. (Written by a program of this repo out of the translation.) -/
import Derived.Test.YtpdpggndhmnggaaF0d
namespace Go.Proofs.Ytpdpggndhmnggaa.F
open Go.RowKit Go.Proofs.YtpdpggndhmnggaaW.PrintWords Go.Proofs.YtpdpggndhmnggaaW.PrintLast Go.Proofs.YtpdpggndhmnggaaW.PrintMore
attribute [local go_sem high] xor_u64 xor_u32 eqErr25 neErr25 eqErrL25 neErrL25
attribute [local go_sem] max2_int min2_int max_two min_two max_three min_three max_four min_four   -- for this text's walks alone
set_option linter.unusedVariables false
set_option linter.unusedSimpArgs false
def vernierlaw00_further.f (a0 : Option Int) : Option (Int) := if a0.isNone = true then (some (-1)) else (if (a0.getD 0) = 13 then (some 13) else (if (a0.getD 0) = 14 then (some 14) else (if (a0.getD 0) = 15 then (some 15) else (if (a0.getD 0) = 16 then (some 16) else (if (a0.getD 0) = 17 then (some 17) else (if (a0.getD 0) = 18 then (some 18) else (if (a0.getD 0) = 19 then (some 19) else (if (a0.getD 0) = 20 then (some 20) else (if (a0.getD 0) = 21 then (some 21) else (if (a0.getD 0) = 22 then (some 22) else (if (a0.getD 0) = 23 then (some 23) else (if (a0.getD 0) = 24 then (some 24) else (some (-1))))))))))))))
set_option maxHeartbeats 8000000 in
set_option maxRecDepth 100000 in
theorem vernierlaw00_further.calls (a0 : Option Int) (r : Int) (w : World) (h : vernierlaw00_further.f a0 = some r) :
  Calls Try.prog 43 #[errW a0] w fun e w' => e = .returned (.int .i64 r) ∧ Drawn0 w w' := by
 have hu25 := Try.underlying25
 have hu40 := Try.underlying40
 have H : (if a0.isNone = true then (some (-1)) else (if (a0.getD 0) = 13 then (some 13) else (if (a0.getD 0) = 14 then (some 14) else (if (a0.getD 0) = 15 then (some 15) else (if (a0.getD 0) = 16 then (some 16) else (if (a0.getD 0) = 17 then (some 17) else (if (a0.getD 0) = 18 then (some 18) else (if (a0.getD 0) = 19 then (some 19) else (if (a0.getD 0) = 20 then (some 20) else (if (a0.getD 0) = 21 then (some 21) else (if (a0.getD 0) = 22 then (some 22) else (if (a0.getD 0) = 23 then (some 23) else (if (a0.getD 0) = 24 then (some 24) else (some (-1))))))))))))))) = some r := h
 clear h
 rcases a0 with _ | q482
 ·
  rw [if_pos (show (none : Option Int).isNone = true by rfl)] at H
  try simp only [Option.getD_some] at H
  simp only [errW_none, errW_some]
  obtain rfl := Option.some.inj H
  go_enter Try.func43, Try.ntmps43
  go_wp2
  go_ret
  exact ⟨by first | rfl | (simp; done) | (simp [*]; done), by repeat (first | exact Drawn0.refl _ | apply Drawn0.step)⟩
 ·
  rw [if_neg (show ¬ (some q482).isNone = true by simp)] at H
  try simp only [Option.getD_some] at H
  simp only [errW_none, errW_some]
  by_cases c2 : q482 = 13
  ·
   rw [if_pos c2] at H
   have c2b0 : (q482 == 13) = true := beq_iff_eq.mpr c2
   have c2b1 : (q482 != 13) = false := bne_eq_false_iff_eq.mpr c2
   clear c2
   obtain rfl := Option.some.inj H
   go_enter Try.func43, Try.ntmps43
   go_wp2
   go_ret
   exact ⟨by first | rfl | (simp; done) | (simp [*]; done), by repeat (first | exact Drawn0.refl _ | apply Drawn0.step)⟩
  ·
   rw [if_neg c2] at H
   have c2b0 : (q482 == 13) = false := beq_eq_false_iff_ne.mpr c2
   have c2b1 : (q482 != 13) = true := bne_iff_ne.mpr c2
   by_cases c3 : q482 = 14
   ·
    rw [if_pos c3] at H
    have c3b0 : (q482 == 14) = true := beq_iff_eq.mpr c3
    have c3b1 : (q482 != 14) = false := bne_eq_false_iff_eq.mpr c3
    clear c3
    obtain rfl := Option.some.inj H
    go_enter Try.func43, Try.ntmps43
    go_wp2
    go_ret
    exact ⟨by first | rfl | (simp; done) | (simp [*]; done), by repeat (first | exact Drawn0.refl _ | apply Drawn0.step)⟩
   ·
    rw [if_neg c3] at H
    have c3b0 : (q482 == 14) = false := beq_eq_false_iff_ne.mpr c3
    have c3b1 : (q482 != 14) = true := bne_iff_ne.mpr c3
    by_cases c4 : q482 = 15
    ·
     rw [if_pos c4] at H
     have c4b0 : (q482 == 15) = true := beq_iff_eq.mpr c4
     have c4b1 : (q482 != 15) = false := bne_eq_false_iff_eq.mpr c4
     clear c4
     obtain rfl := Option.some.inj H
     go_enter Try.func43, Try.ntmps43
     go_wp2
     go_ret
     exact ⟨by first | rfl | (simp; done) | (simp [*]; done), by repeat (first | exact Drawn0.refl _ | apply Drawn0.step)⟩
    ·
     rw [if_neg c4] at H
     have c4b0 : (q482 == 15) = false := beq_eq_false_iff_ne.mpr c4
     have c4b1 : (q482 != 15) = true := bne_iff_ne.mpr c4
     by_cases c5 : q482 = 16
     ·
      rw [if_pos c5] at H
      have c5b0 : (q482 == 16) = true := beq_iff_eq.mpr c5
      have c5b1 : (q482 != 16) = false := bne_eq_false_iff_eq.mpr c5
      clear c5
      obtain rfl := Option.some.inj H
      go_enter Try.func43, Try.ntmps43
      go_wp2
      go_ret
      exact ⟨by first | rfl | (simp; done) | (simp [*]; done), by repeat (first | exact Drawn0.refl _ | apply Drawn0.step)⟩
     ·
      rw [if_neg c5] at H
      have c5b0 : (q482 == 16) = false := beq_eq_false_iff_ne.mpr c5
      have c5b1 : (q482 != 16) = true := bne_iff_ne.mpr c5
      by_cases c6 : q482 = 17
      ·
       rw [if_pos c6] at H
       have c6b0 : (q482 == 17) = true := beq_iff_eq.mpr c6
       have c6b1 : (q482 != 17) = false := bne_eq_false_iff_eq.mpr c6
       clear c6
       obtain rfl := Option.some.inj H
       go_enter Try.func43, Try.ntmps43
       go_wp2
       go_ret
       exact ⟨by first | rfl | (simp; done) | (simp [*]; done), by repeat (first | exact Drawn0.refl _ | apply Drawn0.step)⟩
      ·
       rw [if_neg c6] at H
       have c6b0 : (q482 == 17) = false := beq_eq_false_iff_ne.mpr c6
       have c6b1 : (q482 != 17) = true := bne_iff_ne.mpr c6
       by_cases c7 : q482 = 18
       ·
        rw [if_pos c7] at H
        have c7b0 : (q482 == 18) = true := beq_iff_eq.mpr c7
        have c7b1 : (q482 != 18) = false := bne_eq_false_iff_eq.mpr c7
        clear c7
        obtain rfl := Option.some.inj H
        go_enter Try.func43, Try.ntmps43
        go_wp2
        go_ret
        exact ⟨by first | rfl | (simp; done) | (simp [*]; done), by repeat (first | exact Drawn0.refl _ | apply Drawn0.step)⟩
       ·
        rw [if_neg c7] at H
        have c7b0 : (q482 == 18) = false := beq_eq_false_iff_ne.mpr c7
        have c7b1 : (q482 != 18) = true := bne_iff_ne.mpr c7
        by_cases c8 : q482 = 19
        ·
         rw [if_pos c8] at H
         have c8b0 : (q482 == 19) = true := beq_iff_eq.mpr c8
         have c8b1 : (q482 != 19) = false := bne_eq_false_iff_eq.mpr c8
         clear c8
         obtain rfl := Option.some.inj H
         go_enter Try.func43, Try.ntmps43
         go_wp2
         go_ret
         exact ⟨by first | rfl | (simp; done) | (simp [*]; done), by repeat (first | exact Drawn0.refl _ | apply Drawn0.step)⟩
        ·
         rw [if_neg c8] at H
         have c8b0 : (q482 == 19) = false := beq_eq_false_iff_ne.mpr c8
         have c8b1 : (q482 != 19) = true := bne_iff_ne.mpr c8
         by_cases c9 : q482 = 20
         ·
          rw [if_pos c9] at H
          have c9b0 : (q482 == 20) = true := beq_iff_eq.mpr c9
          have c9b1 : (q482 != 20) = false := bne_eq_false_iff_eq.mpr c9
          clear c9
          obtain rfl := Option.some.inj H
          go_enter Try.func43, Try.ntmps43
          go_wp2
          go_ret
          exact ⟨by first | rfl | (simp; done) | (simp [*]; done), by repeat (first | exact Drawn0.refl _ | apply Drawn0.step)⟩
         ·
          rw [if_neg c9] at H
          have c9b0 : (q482 == 20) = false := beq_eq_false_iff_ne.mpr c9
          have c9b1 : (q482 != 20) = true := bne_iff_ne.mpr c9
          by_cases c10 : q482 = 21
          ·
           rw [if_pos c10] at H
           have c10b0 : (q482 == 21) = true := beq_iff_eq.mpr c10
           have c10b1 : (q482 != 21) = false := bne_eq_false_iff_eq.mpr c10
           clear c10
           obtain rfl := Option.some.inj H
           go_enter Try.func43, Try.ntmps43
           go_wp2
           go_ret
           exact ⟨by first | rfl | (simp; done) | (simp [*]; done), by repeat (first | exact Drawn0.refl _ | apply Drawn0.step)⟩
          ·
           rw [if_neg c10] at H
           have c10b0 : (q482 == 21) = false := beq_eq_false_iff_ne.mpr c10
           have c10b1 : (q482 != 21) = true := bne_iff_ne.mpr c10
           by_cases c11 : q482 = 22
           ·
            rw [if_pos c11] at H
            have c11b0 : (q482 == 22) = true := beq_iff_eq.mpr c11
            have c11b1 : (q482 != 22) = false := bne_eq_false_iff_eq.mpr c11
            clear c11
            obtain rfl := Option.some.inj H
            go_enter Try.func43, Try.ntmps43
            go_wp2
            go_ret
            exact ⟨by first | rfl | (simp; done) | (simp [*]; done), by repeat (first | exact Drawn0.refl _ | apply Drawn0.step)⟩
           ·
            rw [if_neg c11] at H
            have c11b0 : (q482 == 22) = false := beq_eq_false_iff_ne.mpr c11
            have c11b1 : (q482 != 22) = true := bne_iff_ne.mpr c11
            by_cases c12 : q482 = 23
            ·
             rw [if_pos c12] at H
             have c12b0 : (q482 == 23) = true := beq_iff_eq.mpr c12
             have c12b1 : (q482 != 23) = false := bne_eq_false_iff_eq.mpr c12
             clear c12
             obtain rfl := Option.some.inj H
             go_enter Try.func43, Try.ntmps43
             go_wp2
             go_ret
             exact ⟨by first | rfl | (simp; done) | (simp [*]; done), by repeat (first | exact Drawn0.refl _ | apply Drawn0.step)⟩
            ·
             rw [if_neg c12] at H
             have c12b0 : (q482 == 23) = false := beq_eq_false_iff_ne.mpr c12
             have c12b1 : (q482 != 23) = true := bne_iff_ne.mpr c12
             by_cases c13 : q482 = 24
             ·
              rw [if_pos c13] at H
              have c13b0 : (q482 == 24) = true := beq_iff_eq.mpr c13
              have c13b1 : (q482 != 24) = false := bne_eq_false_iff_eq.mpr c13
              clear c13
              obtain rfl := Option.some.inj H
              go_enter Try.func43, Try.ntmps43
              go_wp2
              go_ret
              exact ⟨by first | rfl | (simp; done) | (simp [*]; done), by repeat (first | exact Drawn0.refl _ | apply Drawn0.step)⟩
             ·
              rw [if_neg c13] at H
              have c13b0 : (q482 == 24) = false := beq_eq_false_iff_ne.mpr c13
              have c13b1 : (q482 != 24) = true := bne_iff_ne.mpr c13
              obtain rfl := Option.some.inj H
              go_enter Try.func43, Try.ntmps43
              go_wp2
              go_ret
              exact ⟨by first | rfl | (simp; done) | (simp [*]; done), by repeat (first | exact Drawn0.refl _ | apply Drawn0.step)⟩
def vernierlaw00_Code.f (a0 : Option Int) : Option (Int) := if a0.isNone = true then (some 0) else (if (a0.getD 0) = 1 then (some 1) else (if (a0.getD 0) = 2 then (some 2) else (if (a0.getD 0) = 3 then (some 3) else (if (a0.getD 0) = 4 then (some 4) else (if (a0.getD 0) = 5 then (some 5) else (if (a0.getD 0) = 6 then (some 6) else (if (a0.getD 0) = 7 then (some 7) else (if (a0.getD 0) = 8 then (some 8) else (if (a0.getD 0) = 9 then (some 9) else (if (a0.getD 0) = 10 then (some 10) else (if (a0.getD 0) = 11 then (some 11) else (if (a0.getD 0) = 12 then (some 12) else ((vernierlaw00_further.f (some (a0.getD 0))).bind fun t484 => (some t484))))))))))))))
set_option maxHeartbeats 8000000 in
set_option maxRecDepth 100000 in
theorem vernierlaw00_Code.calls (a0 : Option Int) (r : Int) (w : World) (h : vernierlaw00_Code.f a0 = some r) :
  Calls Try.prog 15 #[errW a0] w fun e w' => e = .returned (.int .i64 r) ∧ Drawn0 w w' := by
 have hu25 := Try.underlying25
 have hu40 := Try.underlying40
 have H : (if a0.isNone = true then (some 0) else (if (a0.getD 0) = 1 then (some 1) else (if (a0.getD 0) = 2 then (some 2) else (if (a0.getD 0) = 3 then (some 3) else (if (a0.getD 0) = 4 then (some 4) else (if (a0.getD 0) = 5 then (some 5) else (if (a0.getD 0) = 6 then (some 6) else (if (a0.getD 0) = 7 then (some 7) else (if (a0.getD 0) = 8 then (some 8) else (if (a0.getD 0) = 9 then (some 9) else (if (a0.getD 0) = 10 then (some 10) else (if (a0.getD 0) = 11 then (some 11) else (if (a0.getD 0) = 12 then (some 12) else ((vernierlaw00_further.f (some (a0.getD 0))).bind fun t484 => (some t484))))))))))))))) = some r := h
 clear h
 rcases a0 with _ | q483
 ·
  rw [if_pos (show (none : Option Int).isNone = true by rfl)] at H
  try simp only [Option.getD_some] at H
  simp only [errW_none, errW_some]
  obtain rfl := Option.some.inj H
  go_enter Try.func15, Try.ntmps15
  go_wp2
  go_ret
  exact ⟨by first | rfl | (simp; done) | (simp [*]; done), by repeat (first | exact Drawn0.refl _ | apply Drawn0.step)⟩
 ·
  rw [if_neg (show ¬ (some q483).isNone = true by simp)] at H
  try simp only [Option.getD_some] at H
  simp only [errW_none, errW_some]
  by_cases c2 : q483 = 1
  ·
   rw [if_pos c2] at H
   have c2b0 : (q483 == 1) = true := beq_iff_eq.mpr c2
   have c2b1 : (q483 != 1) = false := bne_eq_false_iff_eq.mpr c2
   clear c2
   obtain rfl := Option.some.inj H
   go_enter Try.func15, Try.ntmps15
   go_wp2
   go_ret
   exact ⟨by first | rfl | (simp; done) | (simp [*]; done), by repeat (first | exact Drawn0.refl _ | apply Drawn0.step)⟩
  ·
   rw [if_neg c2] at H
   have c2b0 : (q483 == 1) = false := beq_eq_false_iff_ne.mpr c2
   have c2b1 : (q483 != 1) = true := bne_iff_ne.mpr c2
   by_cases c3 : q483 = 2
   ·
    rw [if_pos c3] at H
    have c3b0 : (q483 == 2) = true := beq_iff_eq.mpr c3
    have c3b1 : (q483 != 2) = false := bne_eq_false_iff_eq.mpr c3
    clear c3
    obtain rfl := Option.some.inj H
    go_enter Try.func15, Try.ntmps15
    go_wp2
    go_ret
    exact ⟨by first | rfl | (simp; done) | (simp [*]; done), by repeat (first | exact Drawn0.refl _ | apply Drawn0.step)⟩
   ·
    rw [if_neg c3] at H
    have c3b0 : (q483 == 2) = false := beq_eq_false_iff_ne.mpr c3
    have c3b1 : (q483 != 2) = true := bne_iff_ne.mpr c3
    by_cases c4 : q483 = 3
    ·
     rw [if_pos c4] at H
     have c4b0 : (q483 == 3) = true := beq_iff_eq.mpr c4
     have c4b1 : (q483 != 3) = false := bne_eq_false_iff_eq.mpr c4
     clear c4
     obtain rfl := Option.some.inj H
     go_enter Try.func15, Try.ntmps15
     go_wp2
     go_ret
     exact ⟨by first | rfl | (simp; done) | (simp [*]; done), by repeat (first | exact Drawn0.refl _ | apply Drawn0.step)⟩
    ·
     rw [if_neg c4] at H
     have c4b0 : (q483 == 3) = false := beq_eq_false_iff_ne.mpr c4
     have c4b1 : (q483 != 3) = true := bne_iff_ne.mpr c4
     by_cases c5 : q483 = 4
     ·
      rw [if_pos c5] at H
      have c5b0 : (q483 == 4) = true := beq_iff_eq.mpr c5
      have c5b1 : (q483 != 4) = false := bne_eq_false_iff_eq.mpr c5
      clear c5
      obtain rfl := Option.some.inj H
      go_enter Try.func15, Try.ntmps15
      go_wp2
      go_ret
      exact ⟨by first | rfl | (simp; done) | (simp [*]; done), by repeat (first | exact Drawn0.refl _ | apply Drawn0.step)⟩
     ·
      rw [if_neg c5] at H
      have c5b0 : (q483 == 4) = false := beq_eq_false_iff_ne.mpr c5
      have c5b1 : (q483 != 4) = true := bne_iff_ne.mpr c5
      by_cases c6 : q483 = 5
      ·
       rw [if_pos c6] at H
       have c6b0 : (q483 == 5) = true := beq_iff_eq.mpr c6
       have c6b1 : (q483 != 5) = false := bne_eq_false_iff_eq.mpr c6
       clear c6
       obtain rfl := Option.some.inj H
       go_enter Try.func15, Try.ntmps15
       go_wp2
       go_ret
       exact ⟨by first | rfl | (simp; done) | (simp [*]; done), by repeat (first | exact Drawn0.refl _ | apply Drawn0.step)⟩
      ·
       rw [if_neg c6] at H
       have c6b0 : (q483 == 5) = false := beq_eq_false_iff_ne.mpr c6
       have c6b1 : (q483 != 5) = true := bne_iff_ne.mpr c6
       by_cases c7 : q483 = 6
       ·
        rw [if_pos c7] at H
        have c7b0 : (q483 == 6) = true := beq_iff_eq.mpr c7
        have c7b1 : (q483 != 6) = false := bne_eq_false_iff_eq.mpr c7
        clear c7
        obtain rfl := Option.some.inj H
        go_enter Try.func15, Try.ntmps15
        go_wp2
        go_ret
        exact ⟨by first | rfl | (simp; done) | (simp [*]; done), by repeat (first | exact Drawn0.refl _ | apply Drawn0.step)⟩
       ·
        rw [if_neg c7] at H
        have c7b0 : (q483 == 6) = false := beq_eq_false_iff_ne.mpr c7
        have c7b1 : (q483 != 6) = true := bne_iff_ne.mpr c7
        by_cases c8 : q483 = 7
        ·
         rw [if_pos c8] at H
         have c8b0 : (q483 == 7) = true := beq_iff_eq.mpr c8
         have c8b1 : (q483 != 7) = false := bne_eq_false_iff_eq.mpr c8
         clear c8
         obtain rfl := Option.some.inj H
         go_enter Try.func15, Try.ntmps15
         go_wp2
         go_ret
         exact ⟨by first | rfl | (simp; done) | (simp [*]; done), by repeat (first | exact Drawn0.refl _ | apply Drawn0.step)⟩
        ·
         rw [if_neg c8] at H
         have c8b0 : (q483 == 7) = false := beq_eq_false_iff_ne.mpr c8
         have c8b1 : (q483 != 7) = true := bne_iff_ne.mpr c8
         by_cases c9 : q483 = 8
         ·
          rw [if_pos c9] at H
          have c9b0 : (q483 == 8) = true := beq_iff_eq.mpr c9
          have c9b1 : (q483 != 8) = false := bne_eq_false_iff_eq.mpr c9
          clear c9
          obtain rfl := Option.some.inj H
          go_enter Try.func15, Try.ntmps15
          go_wp2
          go_ret
          exact ⟨by first | rfl | (simp; done) | (simp [*]; done), by repeat (first | exact Drawn0.refl _ | apply Drawn0.step)⟩
         ·
          rw [if_neg c9] at H
          have c9b0 : (q483 == 8) = false := beq_eq_false_iff_ne.mpr c9
          have c9b1 : (q483 != 8) = true := bne_iff_ne.mpr c9
          by_cases c10 : q483 = 9
          ·
           rw [if_pos c10] at H
           have c10b0 : (q483 == 9) = true := beq_iff_eq.mpr c10
           have c10b1 : (q483 != 9) = false := bne_eq_false_iff_eq.mpr c10
           clear c10
           obtain rfl := Option.some.inj H
           go_enter Try.func15, Try.ntmps15
           go_wp2
           go_ret
           exact ⟨by first | rfl | (simp; done) | (simp [*]; done), by repeat (first | exact Drawn0.refl _ | apply Drawn0.step)⟩
          ·
           rw [if_neg c10] at H
           have c10b0 : (q483 == 9) = false := beq_eq_false_iff_ne.mpr c10
           have c10b1 : (q483 != 9) = true := bne_iff_ne.mpr c10
           by_cases c11 : q483 = 10
           ·
            rw [if_pos c11] at H
            have c11b0 : (q483 == 10) = true := beq_iff_eq.mpr c11
            have c11b1 : (q483 != 10) = false := bne_eq_false_iff_eq.mpr c11
            clear c11
            obtain rfl := Option.some.inj H
            go_enter Try.func15, Try.ntmps15
            go_wp2
            go_ret
            exact ⟨by first | rfl | (simp; done) | (simp [*]; done), by repeat (first | exact Drawn0.refl _ | apply Drawn0.step)⟩
           ·
            rw [if_neg c11] at H
            have c11b0 : (q483 == 10) = false := beq_eq_false_iff_ne.mpr c11
            have c11b1 : (q483 != 10) = true := bne_iff_ne.mpr c11
            by_cases c12 : q483 = 11
            ·
             rw [if_pos c12] at H
             have c12b0 : (q483 == 11) = true := beq_iff_eq.mpr c12
             have c12b1 : (q483 != 11) = false := bne_eq_false_iff_eq.mpr c12
             clear c12
             obtain rfl := Option.some.inj H
             go_enter Try.func15, Try.ntmps15
             go_wp2
             go_ret
             exact ⟨by first | rfl | (simp; done) | (simp [*]; done), by repeat (first | exact Drawn0.refl _ | apply Drawn0.step)⟩
            ·
             rw [if_neg c12] at H
             have c12b0 : (q483 == 11) = false := beq_eq_false_iff_ne.mpr c12
             have c12b1 : (q483 != 11) = true := bne_iff_ne.mpr c12
             by_cases c13 : q483 = 12
             ·
              rw [if_pos c13] at H
              have c13b0 : (q483 == 12) = true := beq_iff_eq.mpr c13
              have c13b1 : (q483 != 12) = false := bne_eq_false_iff_eq.mpr c13
              clear c13
              obtain rfl := Option.some.inj H
              go_enter Try.func15, Try.ntmps15
              go_wp2
              go_ret
              exact ⟨by first | rfl | (simp; done) | (simp [*]; done), by repeat (first | exact Drawn0.refl _ | apply Drawn0.step)⟩
             ·
              rw [if_neg c13] at H
              have c13b0 : (q483 == 12) = false := beq_eq_false_iff_ne.mpr c13
              have c13b1 : (q483 != 12) = true := bne_iff_ne.mpr c13
              replace H := Option.bind_eq_some_iff.mp H
              obtain ⟨t484, A140, H⟩ := H
              try dsimp -simprocs only at H
              have A14 := Aside0.mk A140
              clear A140
              obtain rfl := Option.some.inj H
              have CA14 := fun W => vernierlaw00_further.calls (some q483) t484 W A14.out
              try simp only [errW_none, errW_some] at CA14
              go_enter Try.func15, Try.ntmps15
              go_wp2_with (first | (go_at_call 43; (with_reducible refine (CA14 _).mono ?_); rintro e w' ⟨rfl, ⟨nd, rfl⟩⟩))
              go_ret
              exact ⟨by first | rfl | (simp; done) | (simp [*]; done), by repeat (first | exact Drawn0.refl _ | apply Drawn0.step)⟩
end Go.Proofs.Ytpdpggndhmnggaa.F
