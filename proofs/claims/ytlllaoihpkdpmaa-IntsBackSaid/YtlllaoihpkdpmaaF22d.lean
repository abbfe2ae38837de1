/- Functions of the given program as plain Lean functions, and for each a proof that the program's call comes to just these answers; no further conditions. (Written by a program of this repo out of the translation.) -/
import Derived.Test.YtlllaoihpkdpmaaF0d
import Derived.Test.YtlllaoihpkdpmaaF9d
import Derived.Test.YtlllaoihpkdpmaaF11d
namespace Go.Proofs.Ytlllaoihpkdpmaa.F
open Go.RowKit Go.Proofs.YtlllaoihpkdpmaaW.PrintWords Go.Proofs.YtlllaoihpkdpmaaW.PrintLast Go.Proofs.YtlllaoihpkdpmaaW.PrintMore
attribute [local go_sem high] xor_u64 xor_u32 eqErr25 neErr25 eqErrL25 neErrL25
attribute [local go_sem] max2_int min2_int max_two min_two max_three min_three max_four min_four   -- for this text's walks alone
set_option linter.unusedVariables false
set_option linter.unusedSimpArgs false
def vernierlaw16_IntsBack.j0 : Nat → Int → Bool → Int → Int → Int → Option Int → Int → Option Int → Bool → Option (Bool)
  | 0, _, _, _, _, _, _, _, _, _ => none
  | k + 1, x1, x7, x8, x9, x10, x11, x12, x13, x59 => if x59 = true then (some false) else ((ints_ToInt.f k x8 x10 0).bind fun bt617 => (if bt617.2.isNone = true then (if bt617.1 = x12 then ((ints_ToUint.f k x8 x1 x9).bind fun bt620 => (if bt620.2.isNone = true then ((ints_FromUint.f k x8 bt620.1).bind fun bt623 => (if bt623.2.isNone = true then (if x11.isNone = true then (if bt623.1 = x10 then (if x7 = true then (if x13.isNone = true then (some true) else (if (x13.getD 0) = 9 then (some true) else (if (x13.getD 0) = 10 then (some true) else (some false)))) else (some false)) else (some false)) else (some false)) else (some false))) else (if x7 = true then (if x13.isNone = true then (if x11.isNone = true then (some true) else (some ((x11.getD 0) == 9))) else (if (x13.getD 0) = 9 then (if x11.isNone = true then (some true) else (some ((x11.getD 0) == 9))) else (if (x13.getD 0) = 10 then (if x11.isNone = true then (some true) else (some ((x11.getD 0) == 9))) else (some false)))) else (some false)))) else (some false)) else (some false)))
def vernierlaw16_IntsBack.f (k : Nat) (a0 : Int) (a1 : Int) (a2 : Int) : Option (Bool) := (vernierlaw16_shown.f k).bind fun t605 => ((vernierlaw16_width.f k a0).bind fun t606 => ((vernierlaw16_pick.f a2 4).bind fun t607 => ((ints_Whole.f k t606 a1 t607).bind fun bt608 => ((ints_ToInt.f k t606 a1 t607).bind fun bt610 => (if bt610.2.isNone = true then ((ints_FromInt.f k t606 bt610.1).bind fun bt613 => (if bt613.2.isNone = true then (if bt608.2.isNone = true then (vernierlaw16_IntsBack.j0 k a1 t605 t606 t607 bt608.1 none bt610.1 none (bt613.1 != bt608.1)) else (vernierlaw16_IntsBack.j0 k a1 t605 t606 t607 bt608.1 (some (bt608.2.getD 0)) bt610.1 none true)) else (vernierlaw16_IntsBack.j0 k a1 t605 t606 t607 bt608.1 bt608.2 bt610.1 none true))) else ((ints_ToUint.f k t606 a1 t607).bind fun bt632 => (if bt632.2.isNone = true then ((ints_FromUint.f k t606 bt632.1).bind fun bt635 => (if bt635.2.isNone = true then (if bt608.2.isNone = true then (if bt635.1 = bt608.1 then (if t605 = true then (if (bt610.2.getD 0) = 9 then (some true) else (if (bt610.2.getD 0) = 10 then (some true) else (some false))) else (some false)) else (some false)) else (some false)) else (some false))) else (if t605 = true then (if (bt610.2.getD 0) = 9 then (if bt608.2.isNone = true then (some true) else (some ((bt608.2.getD 0) == 9))) else (if (bt610.2.getD 0) = 10 then (if bt608.2.isNone = true then (some true) else (some ((bt608.2.getD 0) == 9))) else (some false))) else (some false)))))))))
set_option maxHeartbeats 8000000 in
set_option maxRecDepth 100000 in
theorem vernierlaw16_IntsBack.calls (k : Nat) (a0 : Int) (a1 : Int) (a2 : Int) (r : Bool) (w : World) (h : vernierlaw16_IntsBack.f k a0 a1 a2 = some r) :
    Calls Try.prog 5 #[.int .i64 a0, .int .u64 a1, .int .i64 a2] w fun e w' => e = .returned (.bool r) ∧ Below w.heap.size w w' := by
  have hu25 := Try.underlying25
  have hu43 := Try.underlying43
  have HB := Aside0.mk (Below.refl w.heap.size w)
  have H : ((vernierlaw16_shown.f k).bind fun t605 => ((vernierlaw16_width.f k a0).bind fun t606 => ((vernierlaw16_pick.f a2 4).bind fun t607 => ((ints_Whole.f k t606 a1 t607).bind fun bt608 => ((ints_ToInt.f k t606 a1 t607).bind fun bt610 => (if bt610.2.isNone = true then ((ints_FromInt.f k t606 bt610.1).bind fun bt613 => (if bt613.2.isNone = true then (if bt608.2.isNone = true then (vernierlaw16_IntsBack.j0 k a1 t605 t606 t607 bt608.1 none bt610.1 none (bt613.1 != bt608.1)) else (vernierlaw16_IntsBack.j0 k a1 t605 t606 t607 bt608.1 (some (bt608.2.getD 0)) bt610.1 none true)) else (vernierlaw16_IntsBack.j0 k a1 t605 t606 t607 bt608.1 bt608.2 bt610.1 none true))) else ((ints_ToUint.f k t606 a1 t607).bind fun bt632 => (if bt632.2.isNone = true then ((ints_FromUint.f k t606 bt632.1).bind fun bt635 => (if bt635.2.isNone = true then (if bt608.2.isNone = true then (if bt635.1 = bt608.1 then (if t605 = true then (if (bt610.2.getD 0) = 9 then (some true) else (if (bt610.2.getD 0) = 10 then (some true) else (some false))) else (some false)) else (some false)) else (some false)) else (some false))) else (if t605 = true then (if (bt610.2.getD 0) = 9 then (if bt608.2.isNone = true then (some true) else (some ((bt608.2.getD 0) == 9))) else (if (bt610.2.getD 0) = 10 then (if bt608.2.isNone = true then (some true) else (some ((bt608.2.getD 0) == 9))) else (some false))) else (some false)))))))))) = some r := h
  clear h
  replace H := Option.bind_eq_some_iff.mp H
  obtain ⟨t605, A40, H⟩ := H
  try dsimp -simprocs only at H
  have A4 := Aside0.mk A40
  clear A40
  replace H := Option.bind_eq_some_iff.mp H
  obtain ⟨t606, A50, H⟩ := H
  try dsimp -simprocs only at H
  have A5 := Aside0.mk A50
  clear A50
  replace H := Option.bind_eq_some_iff.mp H
  obtain ⟨t607, A60, H⟩ := H
  try dsimp -simprocs only at H
  have A6 := Aside0.mk A60
  clear A60
  replace H := Option.bind_eq_some_iff.mp H
  obtain ⟨⟨t608, t609⟩, A70, H⟩ := H
  try dsimp -simprocs only at H
  have A7 := Aside0.mk A70
  clear A70
  replace H := Option.bind_eq_some_iff.mp H
  obtain ⟨⟨t610, t611⟩, A80, H⟩ := H
  try dsimp -simprocs only at H
  have A8 := Aside0.mk A80
  clear A80
  rcases t611 with _ | q612
  · rw [if_pos (show (none : Option Int).isNone = true by rfl)] at H
    try simp only [Option.getD_some] at H
    try simp only [errW_none, errW_some]
    replace H := Option.bind_eq_some_iff.mp H
    obtain ⟨⟨t613, t614⟩, A90, H⟩ := H
    try dsimp -simprocs only at H
    have A9 := Aside0.mk A90
    clear A90
    have HC10 := Aside0.mk H
    clear H
    go_enter Try.func5, Try.ntmps5
    go_upto_region 8 with (first | ((with_reducible refine gC (f := 7) rfl ?_); (with_reducible refine gD (N := 22) rfl ?_); refine goesY_ (some 22) Try.func7 #[] ?_; (with_reducible refine (vernierlaw16_shown.calls k  t605 _ A4.out).mono ?_); rintro e w11 ⟨rfl, hb⟩; refine ⟨_, rfl, ?_⟩; have n0_ := Aside0.mk (bS3 HB.out hb); clear HB; have HB := n0_; clear n0_; (try clear hb); (try clear hb2); (try clear hk); (try clear hi)) | ((with_reducible refine gC (f := 17) rfl ?_); (with_reducible refine gD (N := 24) rfl ?_); refine goesY_ (some 24) Try.func17 #[.int .i64 a0] ?_; (with_reducible refine (vernierlaw16_width.calls k a0 t606 _ A5.out).mono ?_); rintro e w' ⟨rfl, ⟨nd, rfl⟩⟩; refine ⟨_, rfl, ?_⟩) | ((with_reducible refine gC (f := 18) rfl ?_); (with_reducible refine gD (N := 26) rfl ?_); refine goesY_ (some 26) Try.func18 #[.int .i64 a2, .int .i64 4] ?_; (with_reducible refine (vernierlaw16_pick.calls a2 4 t607 _ A6.out).mono ?_); rintro e w' ⟨rfl, ⟨nd, rfl⟩⟩; refine ⟨_, rfl, ?_⟩) | ((with_reducible refine gC (f := 19) rfl ?_); (with_reducible refine gD (N := 31) rfl ?_); refine goesY_ (some 31) Try.func19 #[.int .i64 t606, .int .u64 a1, .int .i64 t607] ?_; (with_reducible refine (ints_Whole.calls k t606 a1 t607 t608 t609 _ A7.out).mono ?_); rintro e w12 ⟨rfl, hb⟩; refine ⟨_, rfl, ?_⟩; have n0_ := Aside0.mk (bS3 HB.out hb); clear HB; have HB := n0_; clear n0_; (try clear hb); (try clear hb2); (try clear hk); (try clear hi); (try simp only [errW_none, errW_some])) | ((with_reducible refine gC (f := 13) rfl ?_); (with_reducible refine gD (N := 38) rfl ?_); refine goesY_ (some 38) Try.func13 #[.int .i64 t606, .int .u64 a1, .int .i64 t607] ?_; (with_reducible refine (ints_ToInt.calls k t606 a1 t607 t610 none _ A8.out).mono ?_); rintro e w13 ⟨rfl, hb⟩; refine ⟨_, rfl, ?_⟩; have n0_ := Aside0.mk (bS3 HB.out hb); clear HB; have HB := n0_; clear n0_; (try clear hb); (try clear hb2); (try clear hk); (try clear hi); (try simp only [errW_none, errW_some])) | ((with_reducible refine gC (f := 8) rfl ?_); (with_reducible refine gD (N := 46) rfl ?_); refine goesY_ (some 46) Try.func8 #[.int .i64 t606, .int .i64 t610] ?_; (with_reducible refine (ints_FromInt.calls k t606 t610 t613 t614 _ A9.out).mono ?_); rintro e w14 ⟨rfl, hb⟩; refine ⟨_, rfl, ?_⟩; have n0_ := Aside0.mk (bS3 HB.out hb); clear HB; have HB := n0_; clear n0_; (try clear hb); (try clear hb2); (try clear hk); (try clear hi); (try simp only [errW_none, errW_some])))
    (try simp only [Act.put, List.setIfInBounds_toArray, List.set_cons_zero, List.set_cons_succ])
    go_cut [59] (fun v59 wc => ∃ (kq : Nat) (x59_9 : Bool), v59 = .bool x59_9 ∧ Aside0 (vernierlaw16_IntsBack.j0 kq a1 t605 t606 t607 t608 t609 t610 none x59_9 = some r) ∧ Aside0 (kq ≤ k) ∧ Aside0 (Below w.heap.size w wc))
    case first =>
      have H := HC10.out
      clear HC10
      rcases t614 with _ | q615
      · rw [if_pos (show (none : Option Int).isNone = true by rfl)] at H
        try simp only [Option.getD_some] at H
        try simp only [errW_none, errW_some]
        rcases t609 with _ | q616
        · rw [if_pos (show (none : Option Int).isNone = true by rfl)] at H
          try simp only [Option.getD_some] at H
          try simp only [errW_none, errW_some]
          have H' := Aside0.mk H
          clear H
          go_wp2
          go_meet
          case rel => exact ⟨_, ((t613 != t608)), (by first | rfl | (simp; done) | (simp [*]; done)), H', ⟨by first | omega | exact Nat.le_refl _⟩, ⟨bR3 HB.out⟩⟩
        · rw [if_neg (show ¬ (some q616).isNone = true by simp)] at H
          try simp only [Option.getD_some] at H
          try simp only [errW_none, errW_some]
          have H' := Aside0.mk H
          clear H
          go_wp2
          go_meet
          case rel => exact ⟨_, (true), (by first | rfl | (simp; done) | (simp [*]; done)), H', ⟨by first | omega | exact Nat.le_refl _⟩, ⟨bR3 HB.out⟩⟩
      · rw [if_neg (show ¬ (some q615).isNone = true by simp)] at H
        try simp only [Option.getD_some] at H
        try simp only [errW_none, errW_some]
        have H' := Aside0.mk H
        clear H
        go_wp2
        go_meet
        case rel => exact ⟨_, (true), (by first | rfl | (simp; done) | (simp [*]; done)), H', ⟨by first | omega | exact Nat.le_refl _⟩, ⟨bR3 HB.out⟩⟩
    case rest =>
      clear HC10
      try clear c1
      try clear p2
      try clear c5
      try clear q6
      try clear c7
      try clear c8
      try clear c13
      try clear q612
      try clear q615
      try clear q616
      obtain ⟨kq, x59_9, rfl, HA, HJ9, HB⟩ := hcut
      cases kq with
      | zero => exact absurd HA.out (by simp [vernierlaw16_IntsBack.j0])
      | succ kj9 =>
        have H := HA.out
        clear HA
        simp only [vernierlaw16_IntsBack.j0] at H
        by_cases c15 : x59_9 = true
        · subst c15
          rw [if_pos rfl] at H
          obtain rfl := Option.some.inj H
          go_wp2
          go_ret
          exact ⟨eR3, bR3 HB.out⟩
        · replace c15 := Bool.eq_false_iff.mpr c15
          subst c15
          rw [if_neg (show ¬ (false = true) by decide)] at H
          replace H := Option.bind_eq_some_iff.mp H
          obtain ⟨⟨t617, t618⟩, A160, H⟩ := H
          try dsimp -simprocs only at H
          have A16 := Aside0.mk A160
          clear A160
          rcases t618 with _ | q619
          · rw [if_pos (show (none : Option Int).isNone = true by rfl)] at H
            try simp only [Option.getD_some] at H
            try simp only [errW_none, errW_some]
            by_cases c17 : t617 = t610
            · rw [if_pos c17] at H
              have c17b0 : (t617 == t610) = true := beq_iff_eq.mpr c17
              have c17b1 : (t617 != t610) = false := bne_eq_false_iff_eq.mpr c17
              clear c17
              replace H := Option.bind_eq_some_iff.mp H
              obtain ⟨⟨t620, t621⟩, A180, H⟩ := H
              try dsimp -simprocs only at H
              have A18 := Aside0.mk A180
              clear A180
              rcases t621 with _ | q622
              · rw [if_pos (show (none : Option Int).isNone = true by rfl)] at H
                try simp only [Option.getD_some] at H
                try simp only [errW_none, errW_some]
                replace H := Option.bind_eq_some_iff.mp H
                obtain ⟨⟨t623, t624⟩, A190, H⟩ := H
                try dsimp -simprocs only at H
                have A19 := Aside0.mk A190
                clear A190
                rcases t624 with _ | q625
                · rw [if_pos (show (none : Option Int).isNone = true by rfl)] at H
                  try simp only [Option.getD_some] at H
                  try simp only [errW_none, errW_some]
                  rcases t609 with _ | q626
                  · rw [if_pos (show (none : Option Int).isNone = true by rfl)] at H
                    try simp only [Option.getD_some] at H
                    try simp only [errW_none, errW_some]
                    by_cases c20 : t623 = t608
                    · rw [if_pos c20] at H
                      have c20b0 : (t623 == t608) = true := beq_iff_eq.mpr c20
                      have c20b1 : (t623 != t608) = false := bne_eq_false_iff_eq.mpr c20
                      clear c20
                      by_cases c21 : t605 = true
                      · subst c21
                        rw [if_pos rfl] at H
                        rcases hn_ : (none : Option Int) with _ | q627
                        · clear hn_
                          rw [if_pos (show (none : Option Int).isNone = true by rfl)] at H
                          try simp only [Option.getD_some] at H
                          try simp only [errW_none, errW_some]
                          obtain rfl := Option.some.inj H
                          go_wp2_with (first | ((with_reducible refine gC (f := 13) rfl ?_); (with_reducible refine gD (N := 63) rfl ?_); refine goesY_ (some 63) Try.func13 #[.int .i64 t606, .int .u64 t608, .int .i64 0] ?_; (with_reducible refine (ints_ToInt.calls kj9 t606 t608 0 t617 none _ A16.out).mono ?_); rintro e w22 ⟨rfl, hb⟩; refine ⟨_, rfl, ?_⟩; have n0_ := Aside0.mk (bS3 HB.out hb); clear HB; have HB := n0_; clear n0_; (try clear hb); (try clear hb2); (try clear hk); (try clear hi); (try simp only [errW_none, errW_some])) | ((with_reducible refine gC (f := 14) rfl ?_); (with_reducible refine gD (N := 77) rfl ?_); refine goesY_ (some 77) Try.func14 #[.int .i64 t606, .int .u64 a1, .int .i64 t607] ?_; (with_reducible refine (ints_ToUint.calls kj9 t606 a1 t607 t620 none _ A18.out).mono ?_); rintro e w23 ⟨rfl, hb⟩; refine ⟨_, rfl, ?_⟩; have n0_ := Aside0.mk (bS3 HB.out hb); clear HB; have HB := n0_; clear n0_; (try clear hb); (try clear hb2); (try clear hk); (try clear hi); (try simp only [errW_none, errW_some])) | ((with_reducible refine gC (f := 9) rfl ?_); (with_reducible refine gD (N := 85) rfl ?_); refine goesY_ (some 85) Try.func9 #[.int .i64 t606, .int .u64 t620] ?_; (with_reducible refine (ints_FromUint.calls kj9 t606 t620 t623 none _ A19.out).mono ?_); rintro e w24 ⟨rfl, hb⟩; refine ⟨_, rfl, ?_⟩; have n0_ := Aside0.mk (bS3 HB.out hb); clear HB; have HB := n0_; clear n0_; (try clear hb); (try clear hb2); (try clear hk); (try clear hi); (try simp only [errW_none, errW_some])))
                          go_ret
                          exact ⟨eR3, bR3 HB.out⟩
                        · cases hn_
                      · replace c21 := Bool.eq_false_iff.mpr c21
                        subst c21
                        rw [if_neg (show ¬ (false = true) by decide)] at H
                        obtain rfl := Option.some.inj H
                        go_wp2_with (first | ((with_reducible refine gC (f := 13) rfl ?_); (with_reducible refine gD (N := 63) rfl ?_); refine goesY_ (some 63) Try.func13 #[.int .i64 t606, .int .u64 t608, .int .i64 0] ?_; (with_reducible refine (ints_ToInt.calls kj9 t606 t608 0 t617 none _ A16.out).mono ?_); rintro e w36 ⟨rfl, hb⟩; refine ⟨_, rfl, ?_⟩; have n0_ := Aside0.mk (bS3 HB.out hb); clear HB; have HB := n0_; clear n0_; (try clear hb); (try clear hb2); (try clear hk); (try clear hi); (try simp only [errW_none, errW_some])) | ((with_reducible refine gC (f := 14) rfl ?_); (with_reducible refine gD (N := 77) rfl ?_); refine goesY_ (some 77) Try.func14 #[.int .i64 t606, .int .u64 a1, .int .i64 t607] ?_; (with_reducible refine (ints_ToUint.calls kj9 t606 a1 t607 t620 none _ A18.out).mono ?_); rintro e w37 ⟨rfl, hb⟩; refine ⟨_, rfl, ?_⟩; have n0_ := Aside0.mk (bS3 HB.out hb); clear HB; have HB := n0_; clear n0_; (try clear hb); (try clear hb2); (try clear hk); (try clear hi); (try simp only [errW_none, errW_some])) | ((with_reducible refine gC (f := 9) rfl ?_); (with_reducible refine gD (N := 85) rfl ?_); refine goesY_ (some 85) Try.func9 #[.int .i64 t606, .int .u64 t620] ?_; (with_reducible refine (ints_FromUint.calls kj9 t606 t620 t623 none _ A19.out).mono ?_); rintro e w38 ⟨rfl, hb⟩; refine ⟨_, rfl, ?_⟩; have n0_ := Aside0.mk (bS3 HB.out hb); clear HB; have HB := n0_; clear n0_; (try clear hb); (try clear hb2); (try clear hk); (try clear hi); (try simp only [errW_none, errW_some])))
                        go_ret
                        exact ⟨eR3, bR3 HB.out⟩
                    · rw [if_neg c20] at H
                      have c20b0 : (t623 == t608) = false := beq_eq_false_iff_ne.mpr c20
                      have c20b1 : (t623 != t608) = true := bne_iff_ne.mpr c20
                      obtain rfl := Option.some.inj H
                      go_wp2_with (first | ((with_reducible refine gC (f := 13) rfl ?_); (with_reducible refine gD (N := 63) rfl ?_); refine goesY_ (some 63) Try.func13 #[.int .i64 t606, .int .u64 t608, .int .i64 0] ?_; (with_reducible refine (ints_ToInt.calls kj9 t606 t608 0 t617 none _ A16.out).mono ?_); rintro e w39 ⟨rfl, hb⟩; refine ⟨_, rfl, ?_⟩; have n0_ := Aside0.mk (bS3 HB.out hb); clear HB; have HB := n0_; clear n0_; (try clear hb); (try clear hb2); (try clear hk); (try clear hi); (try simp only [errW_none, errW_some])) | ((with_reducible refine gC (f := 14) rfl ?_); (with_reducible refine gD (N := 77) rfl ?_); refine goesY_ (some 77) Try.func14 #[.int .i64 t606, .int .u64 a1, .int .i64 t607] ?_; (with_reducible refine (ints_ToUint.calls kj9 t606 a1 t607 t620 none _ A18.out).mono ?_); rintro e w40 ⟨rfl, hb⟩; refine ⟨_, rfl, ?_⟩; have n0_ := Aside0.mk (bS3 HB.out hb); clear HB; have HB := n0_; clear n0_; (try clear hb); (try clear hb2); (try clear hk); (try clear hi); (try simp only [errW_none, errW_some])) | ((with_reducible refine gC (f := 9) rfl ?_); (with_reducible refine gD (N := 85) rfl ?_); refine goesY_ (some 85) Try.func9 #[.int .i64 t606, .int .u64 t620] ?_; (with_reducible refine (ints_FromUint.calls kj9 t606 t620 t623 none _ A19.out).mono ?_); rintro e w41 ⟨rfl, hb⟩; refine ⟨_, rfl, ?_⟩; have n0_ := Aside0.mk (bS3 HB.out hb); clear HB; have HB := n0_; clear n0_; (try clear hb); (try clear hb2); (try clear hk); (try clear hi); (try simp only [errW_none, errW_some])))
                      go_ret
                      exact ⟨eR3, bR3 HB.out⟩
                  · rw [if_neg (show ¬ (some q626).isNone = true by simp)] at H
                    try simp only [Option.getD_some] at H
                    try simp only [errW_none, errW_some]
                    obtain rfl := Option.some.inj H
                    go_wp2_with (first | ((with_reducible refine gC (f := 13) rfl ?_); (with_reducible refine gD (N := 63) rfl ?_); refine goesY_ (some 63) Try.func13 #[.int .i64 t606, .int .u64 t608, .int .i64 0] ?_; (with_reducible refine (ints_ToInt.calls kj9 t606 t608 0 t617 none _ A16.out).mono ?_); rintro e w42 ⟨rfl, hb⟩; refine ⟨_, rfl, ?_⟩; have n0_ := Aside0.mk (bS3 HB.out hb); clear HB; have HB := n0_; clear n0_; (try clear hb); (try clear hb2); (try clear hk); (try clear hi); (try simp only [errW_none, errW_some])) | ((with_reducible refine gC (f := 14) rfl ?_); (with_reducible refine gD (N := 77) rfl ?_); refine goesY_ (some 77) Try.func14 #[.int .i64 t606, .int .u64 a1, .int .i64 t607] ?_; (with_reducible refine (ints_ToUint.calls kj9 t606 a1 t607 t620 none _ A18.out).mono ?_); rintro e w43 ⟨rfl, hb⟩; refine ⟨_, rfl, ?_⟩; have n0_ := Aside0.mk (bS3 HB.out hb); clear HB; have HB := n0_; clear n0_; (try clear hb); (try clear hb2); (try clear hk); (try clear hi); (try simp only [errW_none, errW_some])) | ((with_reducible refine gC (f := 9) rfl ?_); (with_reducible refine gD (N := 85) rfl ?_); refine goesY_ (some 85) Try.func9 #[.int .i64 t606, .int .u64 t620] ?_; (with_reducible refine (ints_FromUint.calls kj9 t606 t620 t623 none _ A19.out).mono ?_); rintro e w44 ⟨rfl, hb⟩; refine ⟨_, rfl, ?_⟩; have n0_ := Aside0.mk (bS3 HB.out hb); clear HB; have HB := n0_; clear n0_; (try clear hb); (try clear hb2); (try clear hk); (try clear hi); (try simp only [errW_none, errW_some])))
                    go_ret
                    exact ⟨eR3, bR3 HB.out⟩
                · rw [if_neg (show ¬ (some q625).isNone = true by simp)] at H
                  try simp only [Option.getD_some] at H
                  try simp only [errW_none, errW_some]
                  obtain rfl := Option.some.inj H
                  go_wp2_with (first | ((with_reducible refine gC (f := 13) rfl ?_); (with_reducible refine gD (N := 63) rfl ?_); refine goesY_ (some 63) Try.func13 #[.int .i64 t606, .int .u64 t608, .int .i64 0] ?_; (with_reducible refine (ints_ToInt.calls kj9 t606 t608 0 t617 none _ A16.out).mono ?_); rintro e w45 ⟨rfl, hb⟩; refine ⟨_, rfl, ?_⟩; have n0_ := Aside0.mk (bS3 HB.out hb); clear HB; have HB := n0_; clear n0_; (try clear hb); (try clear hb2); (try clear hk); (try clear hi); (try simp only [errW_none, errW_some])) | ((with_reducible refine gC (f := 14) rfl ?_); (with_reducible refine gD (N := 77) rfl ?_); refine goesY_ (some 77) Try.func14 #[.int .i64 t606, .int .u64 a1, .int .i64 t607] ?_; (with_reducible refine (ints_ToUint.calls kj9 t606 a1 t607 t620 none _ A18.out).mono ?_); rintro e w46 ⟨rfl, hb⟩; refine ⟨_, rfl, ?_⟩; have n0_ := Aside0.mk (bS3 HB.out hb); clear HB; have HB := n0_; clear n0_; (try clear hb); (try clear hb2); (try clear hk); (try clear hi); (try simp only [errW_none, errW_some])) | ((with_reducible refine gC (f := 9) rfl ?_); (with_reducible refine gD (N := 85) rfl ?_); refine goesY_ (some 85) Try.func9 #[.int .i64 t606, .int .u64 t620] ?_; (with_reducible refine (ints_FromUint.calls kj9 t606 t620 t623 (some q625) _ A19.out).mono ?_); rintro e w47 ⟨rfl, hb⟩; refine ⟨_, rfl, ?_⟩; have n0_ := Aside0.mk (bS3 HB.out hb); clear HB; have HB := n0_; clear n0_; (try clear hb); (try clear hb2); (try clear hk); (try clear hi); (try simp only [errW_none, errW_some])))
                  go_ret
                  exact ⟨eR3, bR3 HB.out⟩
              · rw [if_neg (show ¬ (some q622).isNone = true by simp)] at H
                try simp only [Option.getD_some] at H
                try simp only [errW_none, errW_some]
                by_cases c48 : t605 = true
                · subst c48
                  rw [if_pos rfl] at H
                  rcases hn_ : (none : Option Int) with _ | q628
                  · clear hn_
                    rw [if_pos (show (none : Option Int).isNone = true by rfl)] at H
                    try simp only [Option.getD_some] at H
                    try simp only [errW_none, errW_some]
                    rcases t609 with _ | q629
                    · rw [if_pos (show (none : Option Int).isNone = true by rfl)] at H
                      try simp only [Option.getD_some] at H
                      try simp only [errW_none, errW_some]
                      obtain rfl := Option.some.inj H
                      go_wp2_with (first | ((with_reducible refine gC (f := 13) rfl ?_); (with_reducible refine gD (N := 63) rfl ?_); refine goesY_ (some 63) Try.func13 #[.int .i64 t606, .int .u64 t608, .int .i64 0] ?_; (with_reducible refine (ints_ToInt.calls kj9 t606 t608 0 t617 none _ A16.out).mono ?_); rintro e w49 ⟨rfl, hb⟩; refine ⟨_, rfl, ?_⟩; have n0_ := Aside0.mk (bS3 HB.out hb); clear HB; have HB := n0_; clear n0_; (try clear hb); (try clear hb2); (try clear hk); (try clear hi); (try simp only [errW_none, errW_some])) | ((with_reducible refine gC (f := 14) rfl ?_); (with_reducible refine gD (N := 77) rfl ?_); refine goesY_ (some 77) Try.func14 #[.int .i64 t606, .int .u64 a1, .int .i64 t607] ?_; (with_reducible refine (ints_ToUint.calls kj9 t606 a1 t607 t620 (some q622) _ A18.out).mono ?_); rintro e w50 ⟨rfl, hb⟩; refine ⟨_, rfl, ?_⟩; have n0_ := Aside0.mk (bS3 HB.out hb); clear HB; have HB := n0_; clear n0_; (try clear hb); (try clear hb2); (try clear hk); (try clear hi); (try simp only [errW_none, errW_some])))
                      go_ret
                      exact ⟨eR3, bR3 HB.out⟩
                    · rw [if_neg (show ¬ (some q629).isNone = true by simp)] at H
                      try simp only [Option.getD_some] at H
                      try simp only [errW_none, errW_some]
                      obtain rfl := Option.some.inj H
                      go_wp2_with (first | ((with_reducible refine gC (f := 13) rfl ?_); (with_reducible refine gD (N := 63) rfl ?_); refine goesY_ (some 63) Try.func13 #[.int .i64 t606, .int .u64 t608, .int .i64 0] ?_; (with_reducible refine (ints_ToInt.calls kj9 t606 t608 0 t617 none _ A16.out).mono ?_); rintro e w51 ⟨rfl, hb⟩; refine ⟨_, rfl, ?_⟩; have n0_ := Aside0.mk (bS3 HB.out hb); clear HB; have HB := n0_; clear n0_; (try clear hb); (try clear hb2); (try clear hk); (try clear hi); (try simp only [errW_none, errW_some])) | ((with_reducible refine gC (f := 14) rfl ?_); (with_reducible refine gD (N := 77) rfl ?_); refine goesY_ (some 77) Try.func14 #[.int .i64 t606, .int .u64 a1, .int .i64 t607] ?_; (with_reducible refine (ints_ToUint.calls kj9 t606 a1 t607 t620 (some q622) _ A18.out).mono ?_); rintro e w52 ⟨rfl, hb⟩; refine ⟨_, rfl, ?_⟩; have n0_ := Aside0.mk (bS3 HB.out hb); clear HB; have HB := n0_; clear n0_; (try clear hb); (try clear hb2); (try clear hk); (try clear hi); (try simp only [errW_none, errW_some])))
                      go_ret
                      exact ⟨eR3, bR3 HB.out⟩
                  · cases hn_
                · replace c48 := Bool.eq_false_iff.mpr c48
                  subst c48
                  rw [if_neg (show ¬ (false = true) by decide)] at H
                  obtain rfl := Option.some.inj H
                  go_wp2_with (first | ((with_reducible refine gC (f := 13) rfl ?_); (with_reducible refine gD (N := 63) rfl ?_); refine goesY_ (some 63) Try.func13 #[.int .i64 t606, .int .u64 t608, .int .i64 0] ?_; (with_reducible refine (ints_ToInt.calls kj9 t606 t608 0 t617 none _ A16.out).mono ?_); rintro e w65 ⟨rfl, hb⟩; refine ⟨_, rfl, ?_⟩; have n0_ := Aside0.mk (bS3 HB.out hb); clear HB; have HB := n0_; clear n0_; (try clear hb); (try clear hb2); (try clear hk); (try clear hi); (try simp only [errW_none, errW_some])) | ((with_reducible refine gC (f := 14) rfl ?_); (with_reducible refine gD (N := 77) rfl ?_); refine goesY_ (some 77) Try.func14 #[.int .i64 t606, .int .u64 a1, .int .i64 t607] ?_; (with_reducible refine (ints_ToUint.calls kj9 t606 a1 t607 t620 (some q622) _ A18.out).mono ?_); rintro e w66 ⟨rfl, hb⟩; refine ⟨_, rfl, ?_⟩; have n0_ := Aside0.mk (bS3 HB.out hb); clear HB; have HB := n0_; clear n0_; (try clear hb); (try clear hb2); (try clear hk); (try clear hi); (try simp only [errW_none, errW_some])))
                  go_ret
                  exact ⟨eR3, bR3 HB.out⟩
            · rw [if_neg c17] at H
              have c17b0 : (t617 == t610) = false := beq_eq_false_iff_ne.mpr c17
              have c17b1 : (t617 != t610) = true := bne_iff_ne.mpr c17
              obtain rfl := Option.some.inj H
              go_wp2_with (first | ((with_reducible refine gC (f := 13) rfl ?_); (with_reducible refine gD (N := 63) rfl ?_); refine goesY_ (some 63) Try.func13 #[.int .i64 t606, .int .u64 t608, .int .i64 0] ?_; (with_reducible refine (ints_ToInt.calls kj9 t606 t608 0 t617 none _ A16.out).mono ?_); rintro e w67 ⟨rfl, hb⟩; refine ⟨_, rfl, ?_⟩; have n0_ := Aside0.mk (bS3 HB.out hb); clear HB; have HB := n0_; clear n0_; (try clear hb); (try clear hb2); (try clear hk); (try clear hi); (try simp only [errW_none, errW_some])))
              go_ret
              exact ⟨eR3, bR3 HB.out⟩
          · rw [if_neg (show ¬ (some q619).isNone = true by simp)] at H
            try simp only [Option.getD_some] at H
            try simp only [errW_none, errW_some]
            obtain rfl := Option.some.inj H
            go_wp2_with (first | ((with_reducible refine gC (f := 13) rfl ?_); (with_reducible refine gD (N := 63) rfl ?_); refine goesY_ (some 63) Try.func13 #[.int .i64 t606, .int .u64 t608, .int .i64 0] ?_; (with_reducible refine (ints_ToInt.calls kj9 t606 t608 0 t617 (some q619) _ A16.out).mono ?_); rintro e w68 ⟨rfl, hb⟩; refine ⟨_, rfl, ?_⟩; have n0_ := Aside0.mk (bS3 HB.out hb); clear HB; have HB := n0_; clear n0_; (try clear hb); (try clear hb2); (try clear hk); (try clear hi); (try simp only [errW_none, errW_some])))
            go_ret
            exact ⟨eR3, bR3 HB.out⟩
  · rw [if_neg (show ¬ (some q612).isNone = true by simp)] at H
    try simp only [Option.getD_some] at H
    try simp only [errW_none, errW_some]
    replace H := Option.bind_eq_some_iff.mp H
    obtain ⟨⟨t632, t633⟩, A690, H⟩ := H
    try dsimp -simprocs only at H
    have A69 := Aside0.mk A690
    clear A690
    rcases t633 with _ | q634
    · rw [if_pos (show (none : Option Int).isNone = true by rfl)] at H
      try simp only [Option.getD_some] at H
      try simp only [errW_none, errW_some]
      replace H := Option.bind_eq_some_iff.mp H
      obtain ⟨⟨t635, t636⟩, A700, H⟩ := H
      try dsimp -simprocs only at H
      have A70 := Aside0.mk A700
      clear A700
      rcases t636 with _ | q637
      · rw [if_pos (show (none : Option Int).isNone = true by rfl)] at H
        try simp only [Option.getD_some] at H
        try simp only [errW_none, errW_some]
        rcases t609 with _ | q638
        · rw [if_pos (show (none : Option Int).isNone = true by rfl)] at H
          try simp only [Option.getD_some] at H
          try simp only [errW_none, errW_some]
          by_cases c71 : t635 = t608
          · rw [if_pos c71] at H
            have c71b0 : (t635 == t608) = true := beq_iff_eq.mpr c71
            have c71b1 : (t635 != t608) = false := bne_eq_false_iff_eq.mpr c71
            clear c71
            by_cases c72 : t605 = true
            · subst c72
              rw [if_pos rfl] at H
              by_cases c73 : q612 = 9
              · rw [if_pos c73] at H
                have c73b0 : (q612 == 9) = true := beq_iff_eq.mpr c73
                have c73b1 : (q612 != 9) = false := bne_eq_false_iff_eq.mpr c73
                clear c73
                obtain rfl := Option.some.inj H
                go_enter Try.func5, Try.ntmps5
                go_wp2_with (first | ((with_reducible refine gC (f := 7) rfl ?_); (with_reducible refine gD (N := 22) rfl ?_); refine goesY_ (some 22) Try.func7 #[] ?_; (with_reducible refine (vernierlaw16_shown.calls k  true _ A4.out).mono ?_); rintro e w74 ⟨rfl, hb⟩; refine ⟨_, rfl, ?_⟩; have n0_ := Aside0.mk (bS3 HB.out hb); clear HB; have HB := n0_; clear n0_; (try clear hb); (try clear hb2); (try clear hk); (try clear hi)) | ((with_reducible refine gC (f := 17) rfl ?_); (with_reducible refine gD (N := 24) rfl ?_); refine goesY_ (some 24) Try.func17 #[.int .i64 a0] ?_; (with_reducible refine (vernierlaw16_width.calls k a0 t606 _ A5.out).mono ?_); rintro e w' ⟨rfl, ⟨nd, rfl⟩⟩; refine ⟨_, rfl, ?_⟩) | ((with_reducible refine gC (f := 18) rfl ?_); (with_reducible refine gD (N := 26) rfl ?_); refine goesY_ (some 26) Try.func18 #[.int .i64 a2, .int .i64 4] ?_; (with_reducible refine (vernierlaw16_pick.calls a2 4 t607 _ A6.out).mono ?_); rintro e w' ⟨rfl, ⟨nd, rfl⟩⟩; refine ⟨_, rfl, ?_⟩) | ((with_reducible refine gC (f := 19) rfl ?_); (with_reducible refine gD (N := 31) rfl ?_); refine goesY_ (some 31) Try.func19 #[.int .i64 t606, .int .u64 a1, .int .i64 t607] ?_; (with_reducible refine (ints_Whole.calls k t606 a1 t607 t608 none _ A7.out).mono ?_); rintro e w75 ⟨rfl, hb⟩; refine ⟨_, rfl, ?_⟩; have n0_ := Aside0.mk (bS3 HB.out hb); clear HB; have HB := n0_; clear n0_; (try clear hb); (try clear hb2); (try clear hk); (try clear hi); (try simp only [errW_none, errW_some])) | ((with_reducible refine gC (f := 13) rfl ?_); (with_reducible refine gD (N := 38) rfl ?_); refine goesY_ (some 38) Try.func13 #[.int .i64 t606, .int .u64 a1, .int .i64 t607] ?_; (with_reducible refine (ints_ToInt.calls k t606 a1 t607 t610 (some q612) _ A8.out).mono ?_); rintro e w76 ⟨rfl, hb⟩; refine ⟨_, rfl, ?_⟩; have n0_ := Aside0.mk (bS3 HB.out hb); clear HB; have HB := n0_; clear n0_; (try clear hb); (try clear hb2); (try clear hk); (try clear hi); (try simp only [errW_none, errW_some])) | ((with_reducible refine gC (f := 14) rfl ?_); (with_reducible refine gD (N := 77) rfl ?_); refine goesY_ (some 77) Try.func14 #[.int .i64 t606, .int .u64 a1, .int .i64 t607] ?_; (with_reducible refine (ints_ToUint.calls k t606 a1 t607 t632 none _ A69.out).mono ?_); rintro e w77 ⟨rfl, hb⟩; refine ⟨_, rfl, ?_⟩; have n0_ := Aside0.mk (bS3 HB.out hb); clear HB; have HB := n0_; clear n0_; (try clear hb); (try clear hb2); (try clear hk); (try clear hi); (try simp only [errW_none, errW_some])) | ((with_reducible refine gC (f := 9) rfl ?_); (with_reducible refine gD (N := 85) rfl ?_); refine goesY_ (some 85) Try.func9 #[.int .i64 t606, .int .u64 t632] ?_; (with_reducible refine (ints_FromUint.calls k t606 t632 t635 none _ A70.out).mono ?_); rintro e w78 ⟨rfl, hb⟩; refine ⟨_, rfl, ?_⟩; have n0_ := Aside0.mk (bS3 HB.out hb); clear HB; have HB := n0_; clear n0_; (try clear hb); (try clear hb2); (try clear hk); (try clear hi); (try simp only [errW_none, errW_some])))
                go_ret
                exact ⟨eR3, bR3 HB.out⟩
              · rw [if_neg c73] at H
                have c73b0 : (q612 == 9) = false := beq_eq_false_iff_ne.mpr c73
                have c73b1 : (q612 != 9) = true := bne_iff_ne.mpr c73
                by_cases c79 : q612 = 10
                · rw [if_pos c79] at H
                  have c79b0 : (q612 == 10) = true := beq_iff_eq.mpr c79
                  have c79b1 : (q612 != 10) = false := bne_eq_false_iff_eq.mpr c79
                  clear c79
                  obtain rfl := Option.some.inj H
                  go_enter Try.func5, Try.ntmps5
                  go_wp2_with (first | ((with_reducible refine gC (f := 7) rfl ?_); (with_reducible refine gD (N := 22) rfl ?_); refine goesY_ (some 22) Try.func7 #[] ?_; (with_reducible refine (vernierlaw16_shown.calls k  true _ A4.out).mono ?_); rintro e w80 ⟨rfl, hb⟩; refine ⟨_, rfl, ?_⟩; have n0_ := Aside0.mk (bS3 HB.out hb); clear HB; have HB := n0_; clear n0_; (try clear hb); (try clear hb2); (try clear hk); (try clear hi)) | ((with_reducible refine gC (f := 17) rfl ?_); (with_reducible refine gD (N := 24) rfl ?_); refine goesY_ (some 24) Try.func17 #[.int .i64 a0] ?_; (with_reducible refine (vernierlaw16_width.calls k a0 t606 _ A5.out).mono ?_); rintro e w' ⟨rfl, ⟨nd, rfl⟩⟩; refine ⟨_, rfl, ?_⟩) | ((with_reducible refine gC (f := 18) rfl ?_); (with_reducible refine gD (N := 26) rfl ?_); refine goesY_ (some 26) Try.func18 #[.int .i64 a2, .int .i64 4] ?_; (with_reducible refine (vernierlaw16_pick.calls a2 4 t607 _ A6.out).mono ?_); rintro e w' ⟨rfl, ⟨nd, rfl⟩⟩; refine ⟨_, rfl, ?_⟩) | ((with_reducible refine gC (f := 19) rfl ?_); (with_reducible refine gD (N := 31) rfl ?_); refine goesY_ (some 31) Try.func19 #[.int .i64 t606, .int .u64 a1, .int .i64 t607] ?_; (with_reducible refine (ints_Whole.calls k t606 a1 t607 t608 none _ A7.out).mono ?_); rintro e w81 ⟨rfl, hb⟩; refine ⟨_, rfl, ?_⟩; have n0_ := Aside0.mk (bS3 HB.out hb); clear HB; have HB := n0_; clear n0_; (try clear hb); (try clear hb2); (try clear hk); (try clear hi); (try simp only [errW_none, errW_some])) | ((with_reducible refine gC (f := 13) rfl ?_); (with_reducible refine gD (N := 38) rfl ?_); refine goesY_ (some 38) Try.func13 #[.int .i64 t606, .int .u64 a1, .int .i64 t607] ?_; (with_reducible refine (ints_ToInt.calls k t606 a1 t607 t610 (some q612) _ A8.out).mono ?_); rintro e w82 ⟨rfl, hb⟩; refine ⟨_, rfl, ?_⟩; have n0_ := Aside0.mk (bS3 HB.out hb); clear HB; have HB := n0_; clear n0_; (try clear hb); (try clear hb2); (try clear hk); (try clear hi); (try simp only [errW_none, errW_some])) | ((with_reducible refine gC (f := 14) rfl ?_); (with_reducible refine gD (N := 77) rfl ?_); refine goesY_ (some 77) Try.func14 #[.int .i64 t606, .int .u64 a1, .int .i64 t607] ?_; (with_reducible refine (ints_ToUint.calls k t606 a1 t607 t632 none _ A69.out).mono ?_); rintro e w83 ⟨rfl, hb⟩; refine ⟨_, rfl, ?_⟩; have n0_ := Aside0.mk (bS3 HB.out hb); clear HB; have HB := n0_; clear n0_; (try clear hb); (try clear hb2); (try clear hk); (try clear hi); (try simp only [errW_none, errW_some])) | ((with_reducible refine gC (f := 9) rfl ?_); (with_reducible refine gD (N := 85) rfl ?_); refine goesY_ (some 85) Try.func9 #[.int .i64 t606, .int .u64 t632] ?_; (with_reducible refine (ints_FromUint.calls k t606 t632 t635 none _ A70.out).mono ?_); rintro e w84 ⟨rfl, hb⟩; refine ⟨_, rfl, ?_⟩; have n0_ := Aside0.mk (bS3 HB.out hb); clear HB; have HB := n0_; clear n0_; (try clear hb); (try clear hb2); (try clear hk); (try clear hi); (try simp only [errW_none, errW_some])))
                  go_ret
                  exact ⟨eR3, bR3 HB.out⟩
                · rw [if_neg c79] at H
                  have c79b0 : (q612 == 10) = false := beq_eq_false_iff_ne.mpr c79
                  have c79b1 : (q612 != 10) = true := bne_iff_ne.mpr c79
                  obtain rfl := Option.some.inj H
                  go_enter Try.func5, Try.ntmps5
                  go_wp2_with (first | ((with_reducible refine gC (f := 7) rfl ?_); (with_reducible refine gD (N := 22) rfl ?_); refine goesY_ (some 22) Try.func7 #[] ?_; (with_reducible refine (vernierlaw16_shown.calls k  true _ A4.out).mono ?_); rintro e w85 ⟨rfl, hb⟩; refine ⟨_, rfl, ?_⟩; have n0_ := Aside0.mk (bS3 HB.out hb); clear HB; have HB := n0_; clear n0_; (try clear hb); (try clear hb2); (try clear hk); (try clear hi)) | ((with_reducible refine gC (f := 17) rfl ?_); (with_reducible refine gD (N := 24) rfl ?_); refine goesY_ (some 24) Try.func17 #[.int .i64 a0] ?_; (with_reducible refine (vernierlaw16_width.calls k a0 t606 _ A5.out).mono ?_); rintro e w' ⟨rfl, ⟨nd, rfl⟩⟩; refine ⟨_, rfl, ?_⟩) | ((with_reducible refine gC (f := 18) rfl ?_); (with_reducible refine gD (N := 26) rfl ?_); refine goesY_ (some 26) Try.func18 #[.int .i64 a2, .int .i64 4] ?_; (with_reducible refine (vernierlaw16_pick.calls a2 4 t607 _ A6.out).mono ?_); rintro e w' ⟨rfl, ⟨nd, rfl⟩⟩; refine ⟨_, rfl, ?_⟩) | ((with_reducible refine gC (f := 19) rfl ?_); (with_reducible refine gD (N := 31) rfl ?_); refine goesY_ (some 31) Try.func19 #[.int .i64 t606, .int .u64 a1, .int .i64 t607] ?_; (with_reducible refine (ints_Whole.calls k t606 a1 t607 t608 none _ A7.out).mono ?_); rintro e w86 ⟨rfl, hb⟩; refine ⟨_, rfl, ?_⟩; have n0_ := Aside0.mk (bS3 HB.out hb); clear HB; have HB := n0_; clear n0_; (try clear hb); (try clear hb2); (try clear hk); (try clear hi); (try simp only [errW_none, errW_some])) | ((with_reducible refine gC (f := 13) rfl ?_); (with_reducible refine gD (N := 38) rfl ?_); refine goesY_ (some 38) Try.func13 #[.int .i64 t606, .int .u64 a1, .int .i64 t607] ?_; (with_reducible refine (ints_ToInt.calls k t606 a1 t607 t610 (some q612) _ A8.out).mono ?_); rintro e w87 ⟨rfl, hb⟩; refine ⟨_, rfl, ?_⟩; have n0_ := Aside0.mk (bS3 HB.out hb); clear HB; have HB := n0_; clear n0_; (try clear hb); (try clear hb2); (try clear hk); (try clear hi); (try simp only [errW_none, errW_some])) | ((with_reducible refine gC (f := 14) rfl ?_); (with_reducible refine gD (N := 77) rfl ?_); refine goesY_ (some 77) Try.func14 #[.int .i64 t606, .int .u64 a1, .int .i64 t607] ?_; (with_reducible refine (ints_ToUint.calls k t606 a1 t607 t632 none _ A69.out).mono ?_); rintro e w88 ⟨rfl, hb⟩; refine ⟨_, rfl, ?_⟩; have n0_ := Aside0.mk (bS3 HB.out hb); clear HB; have HB := n0_; clear n0_; (try clear hb); (try clear hb2); (try clear hk); (try clear hi); (try simp only [errW_none, errW_some])) | ((with_reducible refine gC (f := 9) rfl ?_); (with_reducible refine gD (N := 85) rfl ?_); refine goesY_ (some 85) Try.func9 #[.int .i64 t606, .int .u64 t632] ?_; (with_reducible refine (ints_FromUint.calls k t606 t632 t635 none _ A70.out).mono ?_); rintro e w89 ⟨rfl, hb⟩; refine ⟨_, rfl, ?_⟩; have n0_ := Aside0.mk (bS3 HB.out hb); clear HB; have HB := n0_; clear n0_; (try clear hb); (try clear hb2); (try clear hk); (try clear hi); (try simp only [errW_none, errW_some])))
                  go_ret
                  exact ⟨eR3, bR3 HB.out⟩
            · replace c72 := Bool.eq_false_iff.mpr c72
              subst c72
              rw [if_neg (show ¬ (false = true) by decide)] at H
              obtain rfl := Option.some.inj H
              go_enter Try.func5, Try.ntmps5
              go_wp2_with (first | ((with_reducible refine gC (f := 7) rfl ?_); (with_reducible refine gD (N := 22) rfl ?_); refine goesY_ (some 22) Try.func7 #[] ?_; (with_reducible refine (vernierlaw16_shown.calls k  false _ A4.out).mono ?_); rintro e w90 ⟨rfl, hb⟩; refine ⟨_, rfl, ?_⟩; have n0_ := Aside0.mk (bS3 HB.out hb); clear HB; have HB := n0_; clear n0_; (try clear hb); (try clear hb2); (try clear hk); (try clear hi)) | ((with_reducible refine gC (f := 17) rfl ?_); (with_reducible refine gD (N := 24) rfl ?_); refine goesY_ (some 24) Try.func17 #[.int .i64 a0] ?_; (with_reducible refine (vernierlaw16_width.calls k a0 t606 _ A5.out).mono ?_); rintro e w' ⟨rfl, ⟨nd, rfl⟩⟩; refine ⟨_, rfl, ?_⟩) | ((with_reducible refine gC (f := 18) rfl ?_); (with_reducible refine gD (N := 26) rfl ?_); refine goesY_ (some 26) Try.func18 #[.int .i64 a2, .int .i64 4] ?_; (with_reducible refine (vernierlaw16_pick.calls a2 4 t607 _ A6.out).mono ?_); rintro e w' ⟨rfl, ⟨nd, rfl⟩⟩; refine ⟨_, rfl, ?_⟩) | ((with_reducible refine gC (f := 19) rfl ?_); (with_reducible refine gD (N := 31) rfl ?_); refine goesY_ (some 31) Try.func19 #[.int .i64 t606, .int .u64 a1, .int .i64 t607] ?_; (with_reducible refine (ints_Whole.calls k t606 a1 t607 t608 none _ A7.out).mono ?_); rintro e w91 ⟨rfl, hb⟩; refine ⟨_, rfl, ?_⟩; have n0_ := Aside0.mk (bS3 HB.out hb); clear HB; have HB := n0_; clear n0_; (try clear hb); (try clear hb2); (try clear hk); (try clear hi); (try simp only [errW_none, errW_some])) | ((with_reducible refine gC (f := 13) rfl ?_); (with_reducible refine gD (N := 38) rfl ?_); refine goesY_ (some 38) Try.func13 #[.int .i64 t606, .int .u64 a1, .int .i64 t607] ?_; (with_reducible refine (ints_ToInt.calls k t606 a1 t607 t610 (some q612) _ A8.out).mono ?_); rintro e w92 ⟨rfl, hb⟩; refine ⟨_, rfl, ?_⟩; have n0_ := Aside0.mk (bS3 HB.out hb); clear HB; have HB := n0_; clear n0_; (try clear hb); (try clear hb2); (try clear hk); (try clear hi); (try simp only [errW_none, errW_some])) | ((with_reducible refine gC (f := 14) rfl ?_); (with_reducible refine gD (N := 77) rfl ?_); refine goesY_ (some 77) Try.func14 #[.int .i64 t606, .int .u64 a1, .int .i64 t607] ?_; (with_reducible refine (ints_ToUint.calls k t606 a1 t607 t632 none _ A69.out).mono ?_); rintro e w93 ⟨rfl, hb⟩; refine ⟨_, rfl, ?_⟩; have n0_ := Aside0.mk (bS3 HB.out hb); clear HB; have HB := n0_; clear n0_; (try clear hb); (try clear hb2); (try clear hk); (try clear hi); (try simp only [errW_none, errW_some])) | ((with_reducible refine gC (f := 9) rfl ?_); (with_reducible refine gD (N := 85) rfl ?_); refine goesY_ (some 85) Try.func9 #[.int .i64 t606, .int .u64 t632] ?_; (with_reducible refine (ints_FromUint.calls k t606 t632 t635 none _ A70.out).mono ?_); rintro e w94 ⟨rfl, hb⟩; refine ⟨_, rfl, ?_⟩; have n0_ := Aside0.mk (bS3 HB.out hb); clear HB; have HB := n0_; clear n0_; (try clear hb); (try clear hb2); (try clear hk); (try clear hi); (try simp only [errW_none, errW_some])))
              go_ret
              exact ⟨eR3, bR3 HB.out⟩
          · rw [if_neg c71] at H
            have c71b0 : (t635 == t608) = false := beq_eq_false_iff_ne.mpr c71
            have c71b1 : (t635 != t608) = true := bne_iff_ne.mpr c71
            obtain rfl := Option.some.inj H
            go_enter Try.func5, Try.ntmps5
            go_wp2_with (first | ((with_reducible refine gC (f := 7) rfl ?_); (with_reducible refine gD (N := 22) rfl ?_); refine goesY_ (some 22) Try.func7 #[] ?_; (with_reducible refine (vernierlaw16_shown.calls k  t605 _ A4.out).mono ?_); rintro e w95 ⟨rfl, hb⟩; refine ⟨_, rfl, ?_⟩; have n0_ := Aside0.mk (bS3 HB.out hb); clear HB; have HB := n0_; clear n0_; (try clear hb); (try clear hb2); (try clear hk); (try clear hi)) | ((with_reducible refine gC (f := 17) rfl ?_); (with_reducible refine gD (N := 24) rfl ?_); refine goesY_ (some 24) Try.func17 #[.int .i64 a0] ?_; (with_reducible refine (vernierlaw16_width.calls k a0 t606 _ A5.out).mono ?_); rintro e w' ⟨rfl, ⟨nd, rfl⟩⟩; refine ⟨_, rfl, ?_⟩) | ((with_reducible refine gC (f := 18) rfl ?_); (with_reducible refine gD (N := 26) rfl ?_); refine goesY_ (some 26) Try.func18 #[.int .i64 a2, .int .i64 4] ?_; (with_reducible refine (vernierlaw16_pick.calls a2 4 t607 _ A6.out).mono ?_); rintro e w' ⟨rfl, ⟨nd, rfl⟩⟩; refine ⟨_, rfl, ?_⟩) | ((with_reducible refine gC (f := 19) rfl ?_); (with_reducible refine gD (N := 31) rfl ?_); refine goesY_ (some 31) Try.func19 #[.int .i64 t606, .int .u64 a1, .int .i64 t607] ?_; (with_reducible refine (ints_Whole.calls k t606 a1 t607 t608 none _ A7.out).mono ?_); rintro e w96 ⟨rfl, hb⟩; refine ⟨_, rfl, ?_⟩; have n0_ := Aside0.mk (bS3 HB.out hb); clear HB; have HB := n0_; clear n0_; (try clear hb); (try clear hb2); (try clear hk); (try clear hi); (try simp only [errW_none, errW_some])) | ((with_reducible refine gC (f := 13) rfl ?_); (with_reducible refine gD (N := 38) rfl ?_); refine goesY_ (some 38) Try.func13 #[.int .i64 t606, .int .u64 a1, .int .i64 t607] ?_; (with_reducible refine (ints_ToInt.calls k t606 a1 t607 t610 (some q612) _ A8.out).mono ?_); rintro e w97 ⟨rfl, hb⟩; refine ⟨_, rfl, ?_⟩; have n0_ := Aside0.mk (bS3 HB.out hb); clear HB; have HB := n0_; clear n0_; (try clear hb); (try clear hb2); (try clear hk); (try clear hi); (try simp only [errW_none, errW_some])) | ((with_reducible refine gC (f := 14) rfl ?_); (with_reducible refine gD (N := 77) rfl ?_); refine goesY_ (some 77) Try.func14 #[.int .i64 t606, .int .u64 a1, .int .i64 t607] ?_; (with_reducible refine (ints_ToUint.calls k t606 a1 t607 t632 none _ A69.out).mono ?_); rintro e w98 ⟨rfl, hb⟩; refine ⟨_, rfl, ?_⟩; have n0_ := Aside0.mk (bS3 HB.out hb); clear HB; have HB := n0_; clear n0_; (try clear hb); (try clear hb2); (try clear hk); (try clear hi); (try simp only [errW_none, errW_some])) | ((with_reducible refine gC (f := 9) rfl ?_); (with_reducible refine gD (N := 85) rfl ?_); refine goesY_ (some 85) Try.func9 #[.int .i64 t606, .int .u64 t632] ?_; (with_reducible refine (ints_FromUint.calls k t606 t632 t635 none _ A70.out).mono ?_); rintro e w99 ⟨rfl, hb⟩; refine ⟨_, rfl, ?_⟩; have n0_ := Aside0.mk (bS3 HB.out hb); clear HB; have HB := n0_; clear n0_; (try clear hb); (try clear hb2); (try clear hk); (try clear hi); (try simp only [errW_none, errW_some])))
            go_ret
            exact ⟨eR3, bR3 HB.out⟩
        · rw [if_neg (show ¬ (some q638).isNone = true by simp)] at H
          try simp only [Option.getD_some] at H
          try simp only [errW_none, errW_some]
          obtain rfl := Option.some.inj H
          go_enter Try.func5, Try.ntmps5
          go_wp2_with (first | ((with_reducible refine gC (f := 7) rfl ?_); (with_reducible refine gD (N := 22) rfl ?_); refine goesY_ (some 22) Try.func7 #[] ?_; (with_reducible refine (vernierlaw16_shown.calls k  t605 _ A4.out).mono ?_); rintro e w100 ⟨rfl, hb⟩; refine ⟨_, rfl, ?_⟩; have n0_ := Aside0.mk (bS3 HB.out hb); clear HB; have HB := n0_; clear n0_; (try clear hb); (try clear hb2); (try clear hk); (try clear hi)) | ((with_reducible refine gC (f := 17) rfl ?_); (with_reducible refine gD (N := 24) rfl ?_); refine goesY_ (some 24) Try.func17 #[.int .i64 a0] ?_; (with_reducible refine (vernierlaw16_width.calls k a0 t606 _ A5.out).mono ?_); rintro e w' ⟨rfl, ⟨nd, rfl⟩⟩; refine ⟨_, rfl, ?_⟩) | ((with_reducible refine gC (f := 18) rfl ?_); (with_reducible refine gD (N := 26) rfl ?_); refine goesY_ (some 26) Try.func18 #[.int .i64 a2, .int .i64 4] ?_; (with_reducible refine (vernierlaw16_pick.calls a2 4 t607 _ A6.out).mono ?_); rintro e w' ⟨rfl, ⟨nd, rfl⟩⟩; refine ⟨_, rfl, ?_⟩) | ((with_reducible refine gC (f := 19) rfl ?_); (with_reducible refine gD (N := 31) rfl ?_); refine goesY_ (some 31) Try.func19 #[.int .i64 t606, .int .u64 a1, .int .i64 t607] ?_; (with_reducible refine (ints_Whole.calls k t606 a1 t607 t608 (some q638) _ A7.out).mono ?_); rintro e w101 ⟨rfl, hb⟩; refine ⟨_, rfl, ?_⟩; have n0_ := Aside0.mk (bS3 HB.out hb); clear HB; have HB := n0_; clear n0_; (try clear hb); (try clear hb2); (try clear hk); (try clear hi); (try simp only [errW_none, errW_some])) | ((with_reducible refine gC (f := 13) rfl ?_); (with_reducible refine gD (N := 38) rfl ?_); refine goesY_ (some 38) Try.func13 #[.int .i64 t606, .int .u64 a1, .int .i64 t607] ?_; (with_reducible refine (ints_ToInt.calls k t606 a1 t607 t610 (some q612) _ A8.out).mono ?_); rintro e w102 ⟨rfl, hb⟩; refine ⟨_, rfl, ?_⟩; have n0_ := Aside0.mk (bS3 HB.out hb); clear HB; have HB := n0_; clear n0_; (try clear hb); (try clear hb2); (try clear hk); (try clear hi); (try simp only [errW_none, errW_some])) | ((with_reducible refine gC (f := 14) rfl ?_); (with_reducible refine gD (N := 77) rfl ?_); refine goesY_ (some 77) Try.func14 #[.int .i64 t606, .int .u64 a1, .int .i64 t607] ?_; (with_reducible refine (ints_ToUint.calls k t606 a1 t607 t632 none _ A69.out).mono ?_); rintro e w103 ⟨rfl, hb⟩; refine ⟨_, rfl, ?_⟩; have n0_ := Aside0.mk (bS3 HB.out hb); clear HB; have HB := n0_; clear n0_; (try clear hb); (try clear hb2); (try clear hk); (try clear hi); (try simp only [errW_none, errW_some])) | ((with_reducible refine gC (f := 9) rfl ?_); (with_reducible refine gD (N := 85) rfl ?_); refine goesY_ (some 85) Try.func9 #[.int .i64 t606, .int .u64 t632] ?_; (with_reducible refine (ints_FromUint.calls k t606 t632 t635 none _ A70.out).mono ?_); rintro e w104 ⟨rfl, hb⟩; refine ⟨_, rfl, ?_⟩; have n0_ := Aside0.mk (bS3 HB.out hb); clear HB; have HB := n0_; clear n0_; (try clear hb); (try clear hb2); (try clear hk); (try clear hi); (try simp only [errW_none, errW_some])))
          go_ret
          exact ⟨eR3, bR3 HB.out⟩
      · rw [if_neg (show ¬ (some q637).isNone = true by simp)] at H
        try simp only [Option.getD_some] at H
        try simp only [errW_none, errW_some]
        obtain rfl := Option.some.inj H
        go_enter Try.func5, Try.ntmps5
        go_wp2_with (first | ((with_reducible refine gC (f := 7) rfl ?_); (with_reducible refine gD (N := 22) rfl ?_); refine goesY_ (some 22) Try.func7 #[] ?_; (with_reducible refine (vernierlaw16_shown.calls k  t605 _ A4.out).mono ?_); rintro e w105 ⟨rfl, hb⟩; refine ⟨_, rfl, ?_⟩; have n0_ := Aside0.mk (bS3 HB.out hb); clear HB; have HB := n0_; clear n0_; (try clear hb); (try clear hb2); (try clear hk); (try clear hi)) | ((with_reducible refine gC (f := 17) rfl ?_); (with_reducible refine gD (N := 24) rfl ?_); refine goesY_ (some 24) Try.func17 #[.int .i64 a0] ?_; (with_reducible refine (vernierlaw16_width.calls k a0 t606 _ A5.out).mono ?_); rintro e w' ⟨rfl, ⟨nd, rfl⟩⟩; refine ⟨_, rfl, ?_⟩) | ((with_reducible refine gC (f := 18) rfl ?_); (with_reducible refine gD (N := 26) rfl ?_); refine goesY_ (some 26) Try.func18 #[.int .i64 a2, .int .i64 4] ?_; (with_reducible refine (vernierlaw16_pick.calls a2 4 t607 _ A6.out).mono ?_); rintro e w' ⟨rfl, ⟨nd, rfl⟩⟩; refine ⟨_, rfl, ?_⟩) | ((with_reducible refine gC (f := 19) rfl ?_); (with_reducible refine gD (N := 31) rfl ?_); refine goesY_ (some 31) Try.func19 #[.int .i64 t606, .int .u64 a1, .int .i64 t607] ?_; (with_reducible refine (ints_Whole.calls k t606 a1 t607 t608 t609 _ A7.out).mono ?_); rintro e w106 ⟨rfl, hb⟩; refine ⟨_, rfl, ?_⟩; have n0_ := Aside0.mk (bS3 HB.out hb); clear HB; have HB := n0_; clear n0_; (try clear hb); (try clear hb2); (try clear hk); (try clear hi); (try simp only [errW_none, errW_some])) | ((with_reducible refine gC (f := 13) rfl ?_); (with_reducible refine gD (N := 38) rfl ?_); refine goesY_ (some 38) Try.func13 #[.int .i64 t606, .int .u64 a1, .int .i64 t607] ?_; (with_reducible refine (ints_ToInt.calls k t606 a1 t607 t610 (some q612) _ A8.out).mono ?_); rintro e w107 ⟨rfl, hb⟩; refine ⟨_, rfl, ?_⟩; have n0_ := Aside0.mk (bS3 HB.out hb); clear HB; have HB := n0_; clear n0_; (try clear hb); (try clear hb2); (try clear hk); (try clear hi); (try simp only [errW_none, errW_some])) | ((with_reducible refine gC (f := 14) rfl ?_); (with_reducible refine gD (N := 77) rfl ?_); refine goesY_ (some 77) Try.func14 #[.int .i64 t606, .int .u64 a1, .int .i64 t607] ?_; (with_reducible refine (ints_ToUint.calls k t606 a1 t607 t632 none _ A69.out).mono ?_); rintro e w108 ⟨rfl, hb⟩; refine ⟨_, rfl, ?_⟩; have n0_ := Aside0.mk (bS3 HB.out hb); clear HB; have HB := n0_; clear n0_; (try clear hb); (try clear hb2); (try clear hk); (try clear hi); (try simp only [errW_none, errW_some])) | ((with_reducible refine gC (f := 9) rfl ?_); (with_reducible refine gD (N := 85) rfl ?_); refine goesY_ (some 85) Try.func9 #[.int .i64 t606, .int .u64 t632] ?_; (with_reducible refine (ints_FromUint.calls k t606 t632 t635 (some q637) _ A70.out).mono ?_); rintro e w109 ⟨rfl, hb⟩; refine ⟨_, rfl, ?_⟩; have n0_ := Aside0.mk (bS3 HB.out hb); clear HB; have HB := n0_; clear n0_; (try clear hb); (try clear hb2); (try clear hk); (try clear hi); (try simp only [errW_none, errW_some])))
        go_ret
        exact ⟨eR3, bR3 HB.out⟩
    · rw [if_neg (show ¬ (some q634).isNone = true by simp)] at H
      try simp only [Option.getD_some] at H
      try simp only [errW_none, errW_some]
      by_cases c110 : t605 = true
      · subst c110
        rw [if_pos rfl] at H
        by_cases c111 : q612 = 9
        · rw [if_pos c111] at H
          have c111b0 : (q612 == 9) = true := beq_iff_eq.mpr c111
          have c111b1 : (q612 != 9) = false := bne_eq_false_iff_eq.mpr c111
          clear c111
          rcases t609 with _ | q639
          · rw [if_pos (show (none : Option Int).isNone = true by rfl)] at H
            try simp only [Option.getD_some] at H
            try simp only [errW_none, errW_some]
            obtain rfl := Option.some.inj H
            go_enter Try.func5, Try.ntmps5
            go_wp2_with (first | ((with_reducible refine gC (f := 7) rfl ?_); (with_reducible refine gD (N := 22) rfl ?_); refine goesY_ (some 22) Try.func7 #[] ?_; (with_reducible refine (vernierlaw16_shown.calls k  true _ A4.out).mono ?_); rintro e w112 ⟨rfl, hb⟩; refine ⟨_, rfl, ?_⟩; have n0_ := Aside0.mk (bS3 HB.out hb); clear HB; have HB := n0_; clear n0_; (try clear hb); (try clear hb2); (try clear hk); (try clear hi)) | ((with_reducible refine gC (f := 17) rfl ?_); (with_reducible refine gD (N := 24) rfl ?_); refine goesY_ (some 24) Try.func17 #[.int .i64 a0] ?_; (with_reducible refine (vernierlaw16_width.calls k a0 t606 _ A5.out).mono ?_); rintro e w' ⟨rfl, ⟨nd, rfl⟩⟩; refine ⟨_, rfl, ?_⟩) | ((with_reducible refine gC (f := 18) rfl ?_); (with_reducible refine gD (N := 26) rfl ?_); refine goesY_ (some 26) Try.func18 #[.int .i64 a2, .int .i64 4] ?_; (with_reducible refine (vernierlaw16_pick.calls a2 4 t607 _ A6.out).mono ?_); rintro e w' ⟨rfl, ⟨nd, rfl⟩⟩; refine ⟨_, rfl, ?_⟩) | ((with_reducible refine gC (f := 19) rfl ?_); (with_reducible refine gD (N := 31) rfl ?_); refine goesY_ (some 31) Try.func19 #[.int .i64 t606, .int .u64 a1, .int .i64 t607] ?_; (with_reducible refine (ints_Whole.calls k t606 a1 t607 t608 none _ A7.out).mono ?_); rintro e w113 ⟨rfl, hb⟩; refine ⟨_, rfl, ?_⟩; have n0_ := Aside0.mk (bS3 HB.out hb); clear HB; have HB := n0_; clear n0_; (try clear hb); (try clear hb2); (try clear hk); (try clear hi); (try simp only [errW_none, errW_some])) | ((with_reducible refine gC (f := 13) rfl ?_); (with_reducible refine gD (N := 38) rfl ?_); refine goesY_ (some 38) Try.func13 #[.int .i64 t606, .int .u64 a1, .int .i64 t607] ?_; (with_reducible refine (ints_ToInt.calls k t606 a1 t607 t610 (some q612) _ A8.out).mono ?_); rintro e w114 ⟨rfl, hb⟩; refine ⟨_, rfl, ?_⟩; have n0_ := Aside0.mk (bS3 HB.out hb); clear HB; have HB := n0_; clear n0_; (try clear hb); (try clear hb2); (try clear hk); (try clear hi); (try simp only [errW_none, errW_some])) | ((with_reducible refine gC (f := 14) rfl ?_); (with_reducible refine gD (N := 77) rfl ?_); refine goesY_ (some 77) Try.func14 #[.int .i64 t606, .int .u64 a1, .int .i64 t607] ?_; (with_reducible refine (ints_ToUint.calls k t606 a1 t607 t632 (some q634) _ A69.out).mono ?_); rintro e w115 ⟨rfl, hb⟩; refine ⟨_, rfl, ?_⟩; have n0_ := Aside0.mk (bS3 HB.out hb); clear HB; have HB := n0_; clear n0_; (try clear hb); (try clear hb2); (try clear hk); (try clear hi); (try simp only [errW_none, errW_some])))
            go_ret
            exact ⟨eR3, bR3 HB.out⟩
          · rw [if_neg (show ¬ (some q639).isNone = true by simp)] at H
            try simp only [Option.getD_some] at H
            try simp only [errW_none, errW_some]
            obtain rfl := Option.some.inj H
            go_enter Try.func5, Try.ntmps5
            go_wp2_with (first | ((with_reducible refine gC (f := 7) rfl ?_); (with_reducible refine gD (N := 22) rfl ?_); refine goesY_ (some 22) Try.func7 #[] ?_; (with_reducible refine (vernierlaw16_shown.calls k  true _ A4.out).mono ?_); rintro e w116 ⟨rfl, hb⟩; refine ⟨_, rfl, ?_⟩; have n0_ := Aside0.mk (bS3 HB.out hb); clear HB; have HB := n0_; clear n0_; (try clear hb); (try clear hb2); (try clear hk); (try clear hi)) | ((with_reducible refine gC (f := 17) rfl ?_); (with_reducible refine gD (N := 24) rfl ?_); refine goesY_ (some 24) Try.func17 #[.int .i64 a0] ?_; (with_reducible refine (vernierlaw16_width.calls k a0 t606 _ A5.out).mono ?_); rintro e w' ⟨rfl, ⟨nd, rfl⟩⟩; refine ⟨_, rfl, ?_⟩) | ((with_reducible refine gC (f := 18) rfl ?_); (with_reducible refine gD (N := 26) rfl ?_); refine goesY_ (some 26) Try.func18 #[.int .i64 a2, .int .i64 4] ?_; (with_reducible refine (vernierlaw16_pick.calls a2 4 t607 _ A6.out).mono ?_); rintro e w' ⟨rfl, ⟨nd, rfl⟩⟩; refine ⟨_, rfl, ?_⟩) | ((with_reducible refine gC (f := 19) rfl ?_); (with_reducible refine gD (N := 31) rfl ?_); refine goesY_ (some 31) Try.func19 #[.int .i64 t606, .int .u64 a1, .int .i64 t607] ?_; (with_reducible refine (ints_Whole.calls k t606 a1 t607 t608 (some q639) _ A7.out).mono ?_); rintro e w117 ⟨rfl, hb⟩; refine ⟨_, rfl, ?_⟩; have n0_ := Aside0.mk (bS3 HB.out hb); clear HB; have HB := n0_; clear n0_; (try clear hb); (try clear hb2); (try clear hk); (try clear hi); (try simp only [errW_none, errW_some])) | ((with_reducible refine gC (f := 13) rfl ?_); (with_reducible refine gD (N := 38) rfl ?_); refine goesY_ (some 38) Try.func13 #[.int .i64 t606, .int .u64 a1, .int .i64 t607] ?_; (with_reducible refine (ints_ToInt.calls k t606 a1 t607 t610 (some q612) _ A8.out).mono ?_); rintro e w118 ⟨rfl, hb⟩; refine ⟨_, rfl, ?_⟩; have n0_ := Aside0.mk (bS3 HB.out hb); clear HB; have HB := n0_; clear n0_; (try clear hb); (try clear hb2); (try clear hk); (try clear hi); (try simp only [errW_none, errW_some])) | ((with_reducible refine gC (f := 14) rfl ?_); (with_reducible refine gD (N := 77) rfl ?_); refine goesY_ (some 77) Try.func14 #[.int .i64 t606, .int .u64 a1, .int .i64 t607] ?_; (with_reducible refine (ints_ToUint.calls k t606 a1 t607 t632 (some q634) _ A69.out).mono ?_); rintro e w119 ⟨rfl, hb⟩; refine ⟨_, rfl, ?_⟩; have n0_ := Aside0.mk (bS3 HB.out hb); clear HB; have HB := n0_; clear n0_; (try clear hb); (try clear hb2); (try clear hk); (try clear hi); (try simp only [errW_none, errW_some])))
            go_ret
            exact ⟨eR3, bR3 HB.out⟩
        · rw [if_neg c111] at H
          have c111b0 : (q612 == 9) = false := beq_eq_false_iff_ne.mpr c111
          have c111b1 : (q612 != 9) = true := bne_iff_ne.mpr c111
          by_cases c120 : q612 = 10
          · rw [if_pos c120] at H
            have c120b0 : (q612 == 10) = true := beq_iff_eq.mpr c120
            have c120b1 : (q612 != 10) = false := bne_eq_false_iff_eq.mpr c120
            clear c120
            rcases t609 with _ | q640
            · rw [if_pos (show (none : Option Int).isNone = true by rfl)] at H
              try simp only [Option.getD_some] at H
              try simp only [errW_none, errW_some]
              obtain rfl := Option.some.inj H
              go_enter Try.func5, Try.ntmps5
              go_wp2_with (first | ((with_reducible refine gC (f := 7) rfl ?_); (with_reducible refine gD (N := 22) rfl ?_); refine goesY_ (some 22) Try.func7 #[] ?_; (with_reducible refine (vernierlaw16_shown.calls k  true _ A4.out).mono ?_); rintro e w121 ⟨rfl, hb⟩; refine ⟨_, rfl, ?_⟩; have n0_ := Aside0.mk (bS3 HB.out hb); clear HB; have HB := n0_; clear n0_; (try clear hb); (try clear hb2); (try clear hk); (try clear hi)) | ((with_reducible refine gC (f := 17) rfl ?_); (with_reducible refine gD (N := 24) rfl ?_); refine goesY_ (some 24) Try.func17 #[.int .i64 a0] ?_; (with_reducible refine (vernierlaw16_width.calls k a0 t606 _ A5.out).mono ?_); rintro e w' ⟨rfl, ⟨nd, rfl⟩⟩; refine ⟨_, rfl, ?_⟩) | ((with_reducible refine gC (f := 18) rfl ?_); (with_reducible refine gD (N := 26) rfl ?_); refine goesY_ (some 26) Try.func18 #[.int .i64 a2, .int .i64 4] ?_; (with_reducible refine (vernierlaw16_pick.calls a2 4 t607 _ A6.out).mono ?_); rintro e w' ⟨rfl, ⟨nd, rfl⟩⟩; refine ⟨_, rfl, ?_⟩) | ((with_reducible refine gC (f := 19) rfl ?_); (with_reducible refine gD (N := 31) rfl ?_); refine goesY_ (some 31) Try.func19 #[.int .i64 t606, .int .u64 a1, .int .i64 t607] ?_; (with_reducible refine (ints_Whole.calls k t606 a1 t607 t608 none _ A7.out).mono ?_); rintro e w122 ⟨rfl, hb⟩; refine ⟨_, rfl, ?_⟩; have n0_ := Aside0.mk (bS3 HB.out hb); clear HB; have HB := n0_; clear n0_; (try clear hb); (try clear hb2); (try clear hk); (try clear hi); (try simp only [errW_none, errW_some])) | ((with_reducible refine gC (f := 13) rfl ?_); (with_reducible refine gD (N := 38) rfl ?_); refine goesY_ (some 38) Try.func13 #[.int .i64 t606, .int .u64 a1, .int .i64 t607] ?_; (with_reducible refine (ints_ToInt.calls k t606 a1 t607 t610 (some q612) _ A8.out).mono ?_); rintro e w123 ⟨rfl, hb⟩; refine ⟨_, rfl, ?_⟩; have n0_ := Aside0.mk (bS3 HB.out hb); clear HB; have HB := n0_; clear n0_; (try clear hb); (try clear hb2); (try clear hk); (try clear hi); (try simp only [errW_none, errW_some])) | ((with_reducible refine gC (f := 14) rfl ?_); (with_reducible refine gD (N := 77) rfl ?_); refine goesY_ (some 77) Try.func14 #[.int .i64 t606, .int .u64 a1, .int .i64 t607] ?_; (with_reducible refine (ints_ToUint.calls k t606 a1 t607 t632 (some q634) _ A69.out).mono ?_); rintro e w124 ⟨rfl, hb⟩; refine ⟨_, rfl, ?_⟩; have n0_ := Aside0.mk (bS3 HB.out hb); clear HB; have HB := n0_; clear n0_; (try clear hb); (try clear hb2); (try clear hk); (try clear hi); (try simp only [errW_none, errW_some])))
              go_ret
              exact ⟨eR3, bR3 HB.out⟩
            · rw [if_neg (show ¬ (some q640).isNone = true by simp)] at H
              try simp only [Option.getD_some] at H
              try simp only [errW_none, errW_some]
              obtain rfl := Option.some.inj H
              go_enter Try.func5, Try.ntmps5
              go_wp2_with (first | ((with_reducible refine gC (f := 7) rfl ?_); (with_reducible refine gD (N := 22) rfl ?_); refine goesY_ (some 22) Try.func7 #[] ?_; (with_reducible refine (vernierlaw16_shown.calls k  true _ A4.out).mono ?_); rintro e w125 ⟨rfl, hb⟩; refine ⟨_, rfl, ?_⟩; have n0_ := Aside0.mk (bS3 HB.out hb); clear HB; have HB := n0_; clear n0_; (try clear hb); (try clear hb2); (try clear hk); (try clear hi)) | ((with_reducible refine gC (f := 17) rfl ?_); (with_reducible refine gD (N := 24) rfl ?_); refine goesY_ (some 24) Try.func17 #[.int .i64 a0] ?_; (with_reducible refine (vernierlaw16_width.calls k a0 t606 _ A5.out).mono ?_); rintro e w' ⟨rfl, ⟨nd, rfl⟩⟩; refine ⟨_, rfl, ?_⟩) | ((with_reducible refine gC (f := 18) rfl ?_); (with_reducible refine gD (N := 26) rfl ?_); refine goesY_ (some 26) Try.func18 #[.int .i64 a2, .int .i64 4] ?_; (with_reducible refine (vernierlaw16_pick.calls a2 4 t607 _ A6.out).mono ?_); rintro e w' ⟨rfl, ⟨nd, rfl⟩⟩; refine ⟨_, rfl, ?_⟩) | ((with_reducible refine gC (f := 19) rfl ?_); (with_reducible refine gD (N := 31) rfl ?_); refine goesY_ (some 31) Try.func19 #[.int .i64 t606, .int .u64 a1, .int .i64 t607] ?_; (with_reducible refine (ints_Whole.calls k t606 a1 t607 t608 (some q640) _ A7.out).mono ?_); rintro e w126 ⟨rfl, hb⟩; refine ⟨_, rfl, ?_⟩; have n0_ := Aside0.mk (bS3 HB.out hb); clear HB; have HB := n0_; clear n0_; (try clear hb); (try clear hb2); (try clear hk); (try clear hi); (try simp only [errW_none, errW_some])) | ((with_reducible refine gC (f := 13) rfl ?_); (with_reducible refine gD (N := 38) rfl ?_); refine goesY_ (some 38) Try.func13 #[.int .i64 t606, .int .u64 a1, .int .i64 t607] ?_; (with_reducible refine (ints_ToInt.calls k t606 a1 t607 t610 (some q612) _ A8.out).mono ?_); rintro e w127 ⟨rfl, hb⟩; refine ⟨_, rfl, ?_⟩; have n0_ := Aside0.mk (bS3 HB.out hb); clear HB; have HB := n0_; clear n0_; (try clear hb); (try clear hb2); (try clear hk); (try clear hi); (try simp only [errW_none, errW_some])) | ((with_reducible refine gC (f := 14) rfl ?_); (with_reducible refine gD (N := 77) rfl ?_); refine goesY_ (some 77) Try.func14 #[.int .i64 t606, .int .u64 a1, .int .i64 t607] ?_; (with_reducible refine (ints_ToUint.calls k t606 a1 t607 t632 (some q634) _ A69.out).mono ?_); rintro e w128 ⟨rfl, hb⟩; refine ⟨_, rfl, ?_⟩; have n0_ := Aside0.mk (bS3 HB.out hb); clear HB; have HB := n0_; clear n0_; (try clear hb); (try clear hb2); (try clear hk); (try clear hi); (try simp only [errW_none, errW_some])))
              go_ret
              exact ⟨eR3, bR3 HB.out⟩
          · rw [if_neg c120] at H
            have c120b0 : (q612 == 10) = false := beq_eq_false_iff_ne.mpr c120
            have c120b1 : (q612 != 10) = true := bne_iff_ne.mpr c120
            obtain rfl := Option.some.inj H
            go_enter Try.func5, Try.ntmps5
            go_wp2_with (first | ((with_reducible refine gC (f := 7) rfl ?_); (with_reducible refine gD (N := 22) rfl ?_); refine goesY_ (some 22) Try.func7 #[] ?_; (with_reducible refine (vernierlaw16_shown.calls k  true _ A4.out).mono ?_); rintro e w129 ⟨rfl, hb⟩; refine ⟨_, rfl, ?_⟩; have n0_ := Aside0.mk (bS3 HB.out hb); clear HB; have HB := n0_; clear n0_; (try clear hb); (try clear hb2); (try clear hk); (try clear hi)) | ((with_reducible refine gC (f := 17) rfl ?_); (with_reducible refine gD (N := 24) rfl ?_); refine goesY_ (some 24) Try.func17 #[.int .i64 a0] ?_; (with_reducible refine (vernierlaw16_width.calls k a0 t606 _ A5.out).mono ?_); rintro e w' ⟨rfl, ⟨nd, rfl⟩⟩; refine ⟨_, rfl, ?_⟩) | ((with_reducible refine gC (f := 18) rfl ?_); (with_reducible refine gD (N := 26) rfl ?_); refine goesY_ (some 26) Try.func18 #[.int .i64 a2, .int .i64 4] ?_; (with_reducible refine (vernierlaw16_pick.calls a2 4 t607 _ A6.out).mono ?_); rintro e w' ⟨rfl, ⟨nd, rfl⟩⟩; refine ⟨_, rfl, ?_⟩) | ((with_reducible refine gC (f := 19) rfl ?_); (with_reducible refine gD (N := 31) rfl ?_); refine goesY_ (some 31) Try.func19 #[.int .i64 t606, .int .u64 a1, .int .i64 t607] ?_; (with_reducible refine (ints_Whole.calls k t606 a1 t607 t608 t609 _ A7.out).mono ?_); rintro e w130 ⟨rfl, hb⟩; refine ⟨_, rfl, ?_⟩; have n0_ := Aside0.mk (bS3 HB.out hb); clear HB; have HB := n0_; clear n0_; (try clear hb); (try clear hb2); (try clear hk); (try clear hi); (try simp only [errW_none, errW_some])) | ((with_reducible refine gC (f := 13) rfl ?_); (with_reducible refine gD (N := 38) rfl ?_); refine goesY_ (some 38) Try.func13 #[.int .i64 t606, .int .u64 a1, .int .i64 t607] ?_; (with_reducible refine (ints_ToInt.calls k t606 a1 t607 t610 (some q612) _ A8.out).mono ?_); rintro e w131 ⟨rfl, hb⟩; refine ⟨_, rfl, ?_⟩; have n0_ := Aside0.mk (bS3 HB.out hb); clear HB; have HB := n0_; clear n0_; (try clear hb); (try clear hb2); (try clear hk); (try clear hi); (try simp only [errW_none, errW_some])) | ((with_reducible refine gC (f := 14) rfl ?_); (with_reducible refine gD (N := 77) rfl ?_); refine goesY_ (some 77) Try.func14 #[.int .i64 t606, .int .u64 a1, .int .i64 t607] ?_; (with_reducible refine (ints_ToUint.calls k t606 a1 t607 t632 (some q634) _ A69.out).mono ?_); rintro e w132 ⟨rfl, hb⟩; refine ⟨_, rfl, ?_⟩; have n0_ := Aside0.mk (bS3 HB.out hb); clear HB; have HB := n0_; clear n0_; (try clear hb); (try clear hb2); (try clear hk); (try clear hi); (try simp only [errW_none, errW_some])))
            go_ret
            exact ⟨eR3, bR3 HB.out⟩
      · replace c110 := Bool.eq_false_iff.mpr c110
        subst c110
        rw [if_neg (show ¬ (false = true) by decide)] at H
        obtain rfl := Option.some.inj H
        go_enter Try.func5, Try.ntmps5
        go_wp2_with (first | ((with_reducible refine gC (f := 7) rfl ?_); (with_reducible refine gD (N := 22) rfl ?_); refine goesY_ (some 22) Try.func7 #[] ?_; (with_reducible refine (vernierlaw16_shown.calls k  false _ A4.out).mono ?_); rintro e w133 ⟨rfl, hb⟩; refine ⟨_, rfl, ?_⟩; have n0_ := Aside0.mk (bS3 HB.out hb); clear HB; have HB := n0_; clear n0_; (try clear hb); (try clear hb2); (try clear hk); (try clear hi)) | ((with_reducible refine gC (f := 17) rfl ?_); (with_reducible refine gD (N := 24) rfl ?_); refine goesY_ (some 24) Try.func17 #[.int .i64 a0] ?_; (with_reducible refine (vernierlaw16_width.calls k a0 t606 _ A5.out).mono ?_); rintro e w' ⟨rfl, ⟨nd, rfl⟩⟩; refine ⟨_, rfl, ?_⟩) | ((with_reducible refine gC (f := 18) rfl ?_); (with_reducible refine gD (N := 26) rfl ?_); refine goesY_ (some 26) Try.func18 #[.int .i64 a2, .int .i64 4] ?_; (with_reducible refine (vernierlaw16_pick.calls a2 4 t607 _ A6.out).mono ?_); rintro e w' ⟨rfl, ⟨nd, rfl⟩⟩; refine ⟨_, rfl, ?_⟩) | ((with_reducible refine gC (f := 19) rfl ?_); (with_reducible refine gD (N := 31) rfl ?_); refine goesY_ (some 31) Try.func19 #[.int .i64 t606, .int .u64 a1, .int .i64 t607] ?_; (with_reducible refine (ints_Whole.calls k t606 a1 t607 t608 t609 _ A7.out).mono ?_); rintro e w134 ⟨rfl, hb⟩; refine ⟨_, rfl, ?_⟩; have n0_ := Aside0.mk (bS3 HB.out hb); clear HB; have HB := n0_; clear n0_; (try clear hb); (try clear hb2); (try clear hk); (try clear hi); (try simp only [errW_none, errW_some])) | ((with_reducible refine gC (f := 13) rfl ?_); (with_reducible refine gD (N := 38) rfl ?_); refine goesY_ (some 38) Try.func13 #[.int .i64 t606, .int .u64 a1, .int .i64 t607] ?_; (with_reducible refine (ints_ToInt.calls k t606 a1 t607 t610 (some q612) _ A8.out).mono ?_); rintro e w135 ⟨rfl, hb⟩; refine ⟨_, rfl, ?_⟩; have n0_ := Aside0.mk (bS3 HB.out hb); clear HB; have HB := n0_; clear n0_; (try clear hb); (try clear hb2); (try clear hk); (try clear hi); (try simp only [errW_none, errW_some])) | ((with_reducible refine gC (f := 14) rfl ?_); (with_reducible refine gD (N := 77) rfl ?_); refine goesY_ (some 77) Try.func14 #[.int .i64 t606, .int .u64 a1, .int .i64 t607] ?_; (with_reducible refine (ints_ToUint.calls k t606 a1 t607 t632 (some q634) _ A69.out).mono ?_); rintro e w136 ⟨rfl, hb⟩; refine ⟨_, rfl, ?_⟩; have n0_ := Aside0.mk (bS3 HB.out hb); clear HB; have HB := n0_; clear n0_; (try clear hb); (try clear hb2); (try clear hk); (try clear hi); (try simp only [errW_none, errW_some])))
        go_ret
        exact ⟨eR3, bR3 HB.out⟩
/-- THE ONE PURE STATEMENT of vernierlaw16_IntsBack: yours. -/
def vernierlaw16_IntsBack.Pure : Prop := ∀ (a0 : Int) (a1 : Int) (a2 : Int), (Lit.int .i64 a0).wf = true → (Lit.int .u64 a1).wf = true → (Lit.int .i64 a2).wf = true → ∃ k, vernierlaw16_IntsBack.f k a0 a1 a2 = some true
theorem vernierlaw16_IntsBack.walk (P : vernierlaw16_IntsBack.Pure) (a0 : Int) (a1 : Int) (a2 : Int) (w : World) (w0 : (Lit.int .i64 a0).wf = true) (w1 : (Lit.int .u64 a1).wf = true) (w2 : (Lit.int .i64 a2).wf = true) :
    Calls Try.prog 5 #[.int .i64 a0, .int .u64 a1, .int .i64 a2] w fun e w' => e = .returned (.bool true) ∧ Below w.heap.size w w' := by
  obtain ⟨k, h⟩ := P a0 a1 a2 w0 w1 w2
  refine (vernierlaw16_IntsBack.calls k a0 a1 a2 true w h).mono ?_
  rintro e w' ⟨rfl, hd⟩
  exact ⟨rfl, hd⟩
end Go.Proofs.Ytlllaoihpkdpmaa.F
