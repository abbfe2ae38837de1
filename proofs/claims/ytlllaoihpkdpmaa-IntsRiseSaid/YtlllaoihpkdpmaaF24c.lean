/- Functions of the given program as plain Lean functions, and for each a proof that the program's call comes to just these answers; no further conditions. (Written by a program of this repo out of the translation.) -/
import Derived.Test.YtlllaoihpkdpmaaF0c
import Derived.Test.YtlllaoihpkdpmaaF9c
import Derived.Test.YtlllaoihpkdpmaaF11c
import Derived.Test.YtlllaoihpkdpmaaF23c
namespace Go.Proofs.Ytlllaoihpkdpmaa.F
open Go.RowKit Go.Proofs.YtlllaoihpkdpmaaW.PrintWords Go.Proofs.YtlllaoihpkdpmaaW.PrintLast Go.Proofs.YtlllaoihpkdpmaaW.PrintMore
attribute [local go_sem high] xor_u64 xor_u32 eqErr25 neErr25 eqErrL25 neErrL25
attribute [local go_sem] max2_int min2_int max_two min_two max_three min_three max_four min_four   -- for this text's walks alone
set_option linter.unusedVariables false
set_option linter.unusedSimpArgs false
mutual
def vernierlaw16_IntsRise.j0 : Nat → Int → Int → Bool → Int → Option (Bool)
  | 0, _, _, _, _ => none
  | k + 1, x1, x2, x7, x8 => (ints_FromInt.f k x8 x1).bind fun bt655 => ((ints_FromInt.f k x8 x2).bind fun bt657 => ((order_Cmp.f x8 bt655.1 bt657.1).bind fun bt659 => (if bt655.2.isNone = true then (if bt657.2.isNone = true then (if bt659.2.isNone = true then (vernierlaw16_IntsRise.j1 k x1 x7 x8 bt655.1 (decide (bt659.1 > 0))) else (vernierlaw16_IntsRise.j1 k x1 x7 x8 bt655.1 true)) else (vernierlaw16_IntsRise.j1 k x1 x7 x8 bt655.1 true)) else (vernierlaw16_IntsRise.j1 k x1 x7 x8 bt655.1 true))))
def vernierlaw16_IntsRise.j1 : Nat → Int → Bool → Int → Int → Bool → Option (Bool)
  | 0, _, _, _, _, _ => none
  | k + 1, x1, x7, x8, x10, x63 => if x63 = true then (some false) else (if x1 = (-9223372036854775808) then (some x7) else ((ints_FromInt.f k x8 (wrap64 (-x1))).bind fun bt664 => ((order_Neg.f x8 x10).bind fun bt666 => ((order_Sign.f x8 x10).bind fun bt668 => (if x7 = true then (if bt664.2.isNone = true then (if bt666.2.isNone = true then (if bt668.2.isNone = true then (if bt664.1 = bt666.1 then (if ((bt668.1 == 0) == (x1 == 0)) = true then (some ((decide (bt668.1 < 0)) == (decide (x1 < 0)))) else (some false)) else (some false)) else (some false)) else (some false)) else (some false)) else (some false))))))
end
def vernierlaw16_IntsRise.f (k : Nat) (a0 : Int) (a1 : Int) (a2 : Int) : Option (Bool) := (vernierlaw16_shown.f k).bind fun t653 => ((vernierlaw16_width.f k a0).bind fun t654 => (if a1 > a2 then (vernierlaw16_IntsRise.j0 k a2 a1 t653 t654) else (vernierlaw16_IntsRise.j0 k a1 a2 t653 t654)))
set_option maxHeartbeats 8000000 in
set_option maxRecDepth 100000 in
theorem vernierlaw16_IntsRise.calls (k : Nat) (a0 : Int) (a1 : Int) (a2 : Int) (r : Bool) (w : World) (h : vernierlaw16_IntsRise.f k a0 a1 a2 = some r) :
    Calls Try.prog 6 #[.int .i64 a0, .int .i64 a1, .int .i64 a2] w fun e w' => e = .returned (.bool r) ∧ Below w.heap.size w w' := by
  have hu25 := Try.underlying25
  have hu43 := Try.underlying43
  have HB := Aside0.mk (Below.refl w.heap.size w)
  have H : ((vernierlaw16_shown.f k).bind fun t653 => ((vernierlaw16_width.f k a0).bind fun t654 => (if a1 > a2 then (vernierlaw16_IntsRise.j0 k a2 a1 t653 t654) else (vernierlaw16_IntsRise.j0 k a1 a2 t653 t654)))) = some r := h
  clear h
  replace H := Option.bind_eq_some_iff.mp H
  obtain ⟨t653, A40, H⟩ := H
  try dsimp -simprocs only at H
  have A4 := Aside0.mk A40
  clear A40
  replace H := Option.bind_eq_some_iff.mp H
  obtain ⟨t654, A50, H⟩ := H
  try dsimp -simprocs only at H
  have A5 := Aside0.mk A50
  clear A50
  have HC6 := Aside0.mk H
  clear H
  go_enter Try.func6, Try.ntmps6
  go_upto_if 27 with (first | ((with_reducible refine gC (f := 7) rfl ?_); (with_reducible refine gD (N := 22) rfl ?_); refine goesY_ (some 22) Try.func7 #[] ?_; (with_reducible refine (vernierlaw16_shown.calls k  t653 _ A4.out).mono ?_); rintro e w7 ⟨rfl, hb⟩; refine ⟨_, rfl, ?_⟩; have n0_ := Aside0.mk (bS3 HB.out hb); clear HB; have HB := n0_; clear n0_; (try clear hb); (try clear hb2); (try clear hk); (try clear hi)) | ((with_reducible refine gC (f := 17) rfl ?_); (with_reducible refine gD (N := 24) rfl ?_); refine goesY_ (some 24) Try.func17 #[.int .i64 a0] ?_; (with_reducible refine (vernierlaw16_width.calls k a0 t654 _ A5.out).mono ?_); rintro e w' ⟨rfl, ⟨nd, rfl⟩⟩; refine ⟨_, rfl, ?_⟩))
  (try simp only [Act.put, List.setIfInBounds_toArray, List.set_cons_zero, List.set_cons_succ])
  go_cut [1, 2] (fun v1 v2 wc => ∃ (kq : Nat) (x1_5 : Int) (x2_5 : Int), v1 = .int .i64 x1_5 ∧ v2 = .int .i64 x2_5 ∧ Aside0 (vernierlaw16_IntsRise.j0 kq x1_5 x2_5 t653 t654 = some r) ∧ Aside0 (kq ≤ k) ∧ Aside0 (Below w.heap.size w wc))
  case first =>
    have H := HC6.out
    clear HC6
    by_cases c8 : a1 > a2
    · rw [if_pos c8] at H
      have c8b0 : decide (a2 < a1) = true := decide_eq_true c8
      clear c8
      (first | rw [c8b0] | (simp only [i64_w, i32_w]; rw [c8b0]) | skip)
      have H' := Aside0.mk H
      clear H
      go_wp2
      go_meet
      case rel => exact ⟨_, (a2), (a1), (by first | rfl | (simp; done) | (simp [*]; done)), (by first | rfl | (simp; done) | (simp [*]; done)), H', ⟨by first | omega | exact Nat.le_refl _⟩, ⟨bR3 HB.out⟩⟩
    · rw [if_neg c8] at H
      have c8b0 : decide (a2 < a1) = false := decide_eq_false c8
      clear c8
      (first | rw [c8b0] | (simp only [i64_w, i32_w]; rw [c8b0]) | skip)
      have H' := Aside0.mk H
      clear H
      go_wp2
      go_meet
      case rel => exact ⟨_, (a1), (a2), (by first | rfl | (simp; done) | (simp [*]; done)), (by first | rfl | (simp; done) | (simp [*]; done)), H', ⟨by first | omega | exact Nat.le_refl _⟩, ⟨bR3 HB.out⟩⟩
  case rest =>
    clear HC6
    try clear c1
    try clear p2
    try clear c6
    try clear c7
    try clear c8
    try clear c8b0
    obtain ⟨kq, x1_5, x2_5, rfl, rfl, HA, HJ5, HB⟩ := hcut
    cases kq with
    | zero => exact absurd HA.out (by simp [vernierlaw16_IntsRise.j0])
    | succ kj5 =>
      have H := HA.out
      clear HA
      simp only [vernierlaw16_IntsRise.j0] at H
      replace H := Option.bind_eq_some_iff.mp H
      obtain ⟨⟨t655, t656⟩, A90, H⟩ := H
      try dsimp -simprocs only at H
      have A9 := Aside0.mk A90
      clear A90
      replace H := Option.bind_eq_some_iff.mp H
      obtain ⟨⟨t657, t658⟩, A100, H⟩ := H
      try dsimp -simprocs only at H
      have A10 := Aside0.mk A100
      clear A100
      replace H := Option.bind_eq_some_iff.mp H
      obtain ⟨⟨t659, t660⟩, A110, H⟩ := H
      try dsimp -simprocs only at H
      have A11 := Aside0.mk A110
      clear A110
      have HC12 := Aside0.mk H
      clear H
      go_upto_region 10 with (first | ((with_reducible refine gC (f := 8) rfl ?_); (with_reducible refine gD (N := 34) rfl ?_); refine goesY_ (some 34) Try.func8 #[.int .i64 t654, .int .i64 x1_5] ?_; (with_reducible refine (ints_FromInt.calls kj5 t654 x1_5 t655 t656 _ A9.out).mono ?_); rintro e w13 ⟨rfl, hb⟩; refine ⟨_, rfl, ?_⟩; have n0_ := Aside0.mk (bS3 HB.out hb); clear HB; have HB := n0_; clear n0_; (try clear hb); (try clear hb2); (try clear hk); (try clear hi); (try simp only [errW_none, errW_some])) | ((with_reducible refine gC (f := 8) rfl ?_); (with_reducible refine gD (N := 40) rfl ?_); refine goesY_ (some 40) Try.func8 #[.int .i64 t654, .int .i64 x2_5] ?_; (with_reducible refine (ints_FromInt.calls kj5 t654 x2_5 t657 t658 _ A10.out).mono ?_); rintro e w14 ⟨rfl, hb⟩; refine ⟨_, rfl, ?_⟩; have n0_ := Aside0.mk (bS3 HB.out hb); clear HB; have HB := n0_; clear n0_; (try clear hb); (try clear hb2); (try clear hk); (try clear hi); (try simp only [errW_none, errW_some])) | ((with_reducible refine gC (f := 20) rfl ?_); (with_reducible refine gD (N := 47) rfl ?_); refine goesY_ (some 47) Try.func20 #[.int .i64 t654, .int .u64 t655, .int .u64 t657] ?_; (with_reducible refine (order_Cmp.calls t654 t655 t657 t659 t660 _ A11.out).mono ?_); rintro e w' ⟨rfl, ⟨nd, rfl⟩⟩; refine ⟨_, rfl, ?_⟩; (try simp only [errW_none, errW_some])))
      (try simp only [Act.put, List.setIfInBounds_toArray, List.set_cons_zero, List.set_cons_succ])
      go_cut [63] (fun v63 wc => ∃ (kq : Nat) (x63_11 : Bool), v63 = .bool x63_11 ∧ Aside0 (vernierlaw16_IntsRise.j1 kq x1_5 t653 t654 t655 x63_11 = some r) ∧ Aside0 (kq ≤ kj5) ∧ Aside0 (Below w.heap.size w wc))
      case first =>
        have H := HC12.out
        clear HC12
        rcases t656 with _ | q661
        · rw [if_pos (show (none : Option Int).isNone = true by rfl)] at H
          try simp only [Option.getD_some] at H
          try simp only [errW_none, errW_some]
          rcases t658 with _ | q662
          · rw [if_pos (show (none : Option Int).isNone = true by rfl)] at H
            try simp only [Option.getD_some] at H
            try simp only [errW_none, errW_some]
            rcases t660 with _ | q663
            · rw [if_pos (show (none : Option Int).isNone = true by rfl)] at H
              try simp only [Option.getD_some] at H
              try simp only [errW_none, errW_some]
              have H' := Aside0.mk H
              clear H
              go_wp2
              go_meet
              case rel => exact ⟨_, (decide (t659 > 0)), (by first | rfl | (simp; done) | (simp [*]; done)), H', ⟨by have := HJ5.out; first | omega | exact Nat.le_refl _⟩, ⟨bR3 HB.out⟩⟩
            · rw [if_neg (show ¬ (some q663).isNone = true by simp)] at H
              try simp only [Option.getD_some] at H
              try simp only [errW_none, errW_some]
              have H' := Aside0.mk H
              clear H
              go_wp2
              go_meet
              case rel => exact ⟨_, (true), (by first | rfl | (simp; done) | (simp [*]; done)), H', ⟨by have := HJ5.out; first | omega | exact Nat.le_refl _⟩, ⟨bR3 HB.out⟩⟩
          · rw [if_neg (show ¬ (some q662).isNone = true by simp)] at H
            try simp only [Option.getD_some] at H
            try simp only [errW_none, errW_some]
            have H' := Aside0.mk H
            clear H
            go_wp2
            go_meet
            case rel => exact ⟨_, (true), (by first | rfl | (simp; done) | (simp [*]; done)), H', ⟨by have := HJ5.out; first | omega | exact Nat.le_refl _⟩, ⟨bR3 HB.out⟩⟩
        · rw [if_neg (show ¬ (some q661).isNone = true by simp)] at H
          try simp only [Option.getD_some] at H
          try simp only [errW_none, errW_some]
          have H' := Aside0.mk H
          clear H
          go_wp2
          go_meet
          case rel => exact ⟨_, (true), (by first | rfl | (simp; done) | (simp [*]; done)), H', ⟨by have := HJ5.out; first | omega | exact Nat.le_refl _⟩, ⟨bR3 HB.out⟩⟩
      case rest =>
        clear HC12
        try clear c1
        try clear c2
        try clear p2
        try clear c6
        try clear q6
        try clear c7
        try clear c8
        try clear c8b0
        try clear p2
        try clear q661
        try clear q662
        try clear q663
        obtain ⟨kq, x63_11, rfl, HA, HJ11, HB⟩ := hcut
        cases kq with
        | zero => exact absurd HA.out (by simp [vernierlaw16_IntsRise.j1])
        | succ kj11 =>
          have H := HA.out
          clear HA
          simp only [vernierlaw16_IntsRise.j1] at H
          by_cases c15 : x63_11 = true
          · subst c15
            rw [if_pos rfl] at H
            obtain rfl := Option.some.inj H
            go_wp2
            go_ret
            exact ⟨eR3, bR3 HB.out⟩
          · replace c15 := Bool.eq_false_iff.mpr c15
            subst c15
            rw [if_neg (show ¬ (false = true) by decide)] at H
            by_cases c16 : x1_5 = (-9223372036854775808)
            · rw [if_pos c16] at H
              have c16b0 : (x1_5 == (-9223372036854775808)) = true := beq_iff_eq.mpr c16
              have c16b1 : (x1_5 != (-9223372036854775808)) = false := bne_eq_false_iff_eq.mpr c16
              clear c16
              obtain rfl := Option.some.inj H
              go_wp2
              go_ret
              exact ⟨eR3, bR3 HB.out⟩
            · rw [if_neg c16] at H
              have c16b0 : (x1_5 == (-9223372036854775808)) = false := beq_eq_false_iff_ne.mpr c16
              have c16b1 : (x1_5 != (-9223372036854775808)) = true := bne_iff_ne.mpr c16
              replace H := Option.bind_eq_some_iff.mp H
              obtain ⟨⟨t664, t665⟩, A170, H⟩ := H
              try dsimp -simprocs only at H
              have A17 := Aside0.mk A170
              clear A170
              replace H := Option.bind_eq_some_iff.mp H
              obtain ⟨⟨t666, t667⟩, A180, H⟩ := H
              try dsimp -simprocs only at H
              have A18 := Aside0.mk A180
              clear A180
              replace H := Option.bind_eq_some_iff.mp H
              obtain ⟨⟨t668, t669⟩, A190, H⟩ := H
              try dsimp -simprocs only at H
              have A19 := Aside0.mk A190
              clear A190
              by_cases c20 : t653 = true
              · subst c20
                rw [if_pos rfl] at H
                rcases t665 with _ | q670
                · rw [if_pos (show (none : Option Int).isNone = true by rfl)] at H
                  try simp only [Option.getD_some] at H
                  try simp only [errW_none, errW_some]
                  rcases t667 with _ | q671
                  · rw [if_pos (show (none : Option Int).isNone = true by rfl)] at H
                    try simp only [Option.getD_some] at H
                    try simp only [errW_none, errW_some]
                    rcases t669 with _ | q672
                    · rw [if_pos (show (none : Option Int).isNone = true by rfl)] at H
                      try simp only [Option.getD_some] at H
                      try simp only [errW_none, errW_some]
                      by_cases c21 : t664 = t666
                      · rw [if_pos c21] at H
                        have c21b0 : (t664 == t666) = true := beq_iff_eq.mpr c21
                        have c21b1 : (t664 != t666) = false := bne_eq_false_iff_eq.mpr c21
                        clear c21
                        by_cases c22 : ((t668 == 0) == (x1_5 == 0)) = true
                        · rw [if_pos c22] at H
                          have c22b0 : ((t668 == 0) == (x1_5 == 0)) = true := c22
                          (try (have c22b1 : decide ((t668 == 0) = (x1_5 == 0)) = true := by simpa using c22))
                          (try (have c22b2 : ((t668 == 0) == (x1_5 == 0)) = true := by simpa using c22))
                          clear c22
                          obtain rfl := Option.some.inj H
                          go_wp2_with (first | ((with_reducible refine gC (f := 8) rfl ?_); (with_reducible refine gD (N := 71) rfl ?_); refine goesY_ (some 71) Try.func8 #[.int .i64 t654, .int .i64 (wrap64 (-x1_5))] ?_; (with_reducible refine (ints_FromInt.calls kj11 t654 (wrap64 (-x1_5)) t664 none _ A17.out).mono ?_); rintro e w23 ⟨rfl, hb⟩; refine ⟨_, rfl, ?_⟩; have n0_ := Aside0.mk (bS3 HB.out hb); clear HB; have HB := n0_; clear n0_; (try clear hb); (try clear hb2); (try clear hk); (try clear hi); (try simp only [errW_none, errW_some])) | ((with_reducible refine gC (f := 21) rfl ?_); (with_reducible refine gD (N := 77) rfl ?_); refine goesY_ (some 77) Try.func21 #[.int .i64 t654, .int .u64 t655] ?_; (with_reducible refine (order_Neg.calls t654 t655 t666 none _ A18.out).mono ?_); rintro e w' ⟨rfl, ⟨nd, rfl⟩⟩; refine ⟨_, rfl, ?_⟩; (try simp only [errW_none, errW_some])) | ((with_reducible refine gC (f := 22) rfl ?_); (with_reducible refine gD (N := 83) rfl ?_); refine goesY_ (some 83) Try.func22 #[.int .i64 t654, .int .u64 t655] ?_; (with_reducible refine (order_Sign.calls t654 t655 t668 none _ A19.out).mono ?_); rintro e w' ⟨rfl, ⟨nd, rfl⟩⟩; refine ⟨_, rfl, ?_⟩; (try simp only [errW_none, errW_some])))
                          go_ret
                          exact ⟨eR3, bR3 HB.out⟩
                        · rw [if_neg c22] at H
                          have c22b0 : ((t668 == 0) == (x1_5 == 0)) = false := by simpa using c22
                          (try (have c22b1 : decide ((t668 == 0) = (x1_5 == 0)) = false := by simpa using c22))
                          (try (have c22b2 : ((t668 == 0) == (x1_5 == 0)) = false := by simpa using c22))
                          (try (have c22b3 : ¬ ((t668 == 0) = (x1_5 == 0)) := by simpa using c22))
                          clear c22
                          obtain rfl := Option.some.inj H
                          go_wp2_with (first | ((with_reducible refine gC (f := 8) rfl ?_); (with_reducible refine gD (N := 71) rfl ?_); refine goesY_ (some 71) Try.func8 #[.int .i64 t654, .int .i64 (wrap64 (-x1_5))] ?_; (with_reducible refine (ints_FromInt.calls kj11 t654 (wrap64 (-x1_5)) t664 none _ A17.out).mono ?_); rintro e w24 ⟨rfl, hb⟩; refine ⟨_, rfl, ?_⟩; have n0_ := Aside0.mk (bS3 HB.out hb); clear HB; have HB := n0_; clear n0_; (try clear hb); (try clear hb2); (try clear hk); (try clear hi); (try simp only [errW_none, errW_some])) | ((with_reducible refine gC (f := 21) rfl ?_); (with_reducible refine gD (N := 77) rfl ?_); refine goesY_ (some 77) Try.func21 #[.int .i64 t654, .int .u64 t655] ?_; (with_reducible refine (order_Neg.calls t654 t655 t666 none _ A18.out).mono ?_); rintro e w' ⟨rfl, ⟨nd, rfl⟩⟩; refine ⟨_, rfl, ?_⟩; (try simp only [errW_none, errW_some])) | ((with_reducible refine gC (f := 22) rfl ?_); (with_reducible refine gD (N := 83) rfl ?_); refine goesY_ (some 83) Try.func22 #[.int .i64 t654, .int .u64 t655] ?_; (with_reducible refine (order_Sign.calls t654 t655 t668 none _ A19.out).mono ?_); rintro e w' ⟨rfl, ⟨nd, rfl⟩⟩; refine ⟨_, rfl, ?_⟩; (try simp only [errW_none, errW_some])))
                          go_ret
                          exact ⟨eR3, bR3 HB.out⟩
                      · rw [if_neg c21] at H
                        have c21b0 : (t664 == t666) = false := beq_eq_false_iff_ne.mpr c21
                        have c21b1 : (t664 != t666) = true := bne_iff_ne.mpr c21
                        obtain rfl := Option.some.inj H
                        go_wp2_with (first | ((with_reducible refine gC (f := 8) rfl ?_); (with_reducible refine gD (N := 71) rfl ?_); refine goesY_ (some 71) Try.func8 #[.int .i64 t654, .int .i64 (wrap64 (-x1_5))] ?_; (with_reducible refine (ints_FromInt.calls kj11 t654 (wrap64 (-x1_5)) t664 none _ A17.out).mono ?_); rintro e w25 ⟨rfl, hb⟩; refine ⟨_, rfl, ?_⟩; have n0_ := Aside0.mk (bS3 HB.out hb); clear HB; have HB := n0_; clear n0_; (try clear hb); (try clear hb2); (try clear hk); (try clear hi); (try simp only [errW_none, errW_some])) | ((with_reducible refine gC (f := 21) rfl ?_); (with_reducible refine gD (N := 77) rfl ?_); refine goesY_ (some 77) Try.func21 #[.int .i64 t654, .int .u64 t655] ?_; (with_reducible refine (order_Neg.calls t654 t655 t666 none _ A18.out).mono ?_); rintro e w' ⟨rfl, ⟨nd, rfl⟩⟩; refine ⟨_, rfl, ?_⟩; (try simp only [errW_none, errW_some])) | ((with_reducible refine gC (f := 22) rfl ?_); (with_reducible refine gD (N := 83) rfl ?_); refine goesY_ (some 83) Try.func22 #[.int .i64 t654, .int .u64 t655] ?_; (with_reducible refine (order_Sign.calls t654 t655 t668 none _ A19.out).mono ?_); rintro e w' ⟨rfl, ⟨nd, rfl⟩⟩; refine ⟨_, rfl, ?_⟩; (try simp only [errW_none, errW_some])))
                        go_ret
                        exact ⟨eR3, bR3 HB.out⟩
                    · rw [if_neg (show ¬ (some q672).isNone = true by simp)] at H
                      try simp only [Option.getD_some] at H
                      try simp only [errW_none, errW_some]
                      obtain rfl := Option.some.inj H
                      go_wp2_with (first | ((with_reducible refine gC (f := 8) rfl ?_); (with_reducible refine gD (N := 71) rfl ?_); refine goesY_ (some 71) Try.func8 #[.int .i64 t654, .int .i64 (wrap64 (-x1_5))] ?_; (with_reducible refine (ints_FromInt.calls kj11 t654 (wrap64 (-x1_5)) t664 none _ A17.out).mono ?_); rintro e w26 ⟨rfl, hb⟩; refine ⟨_, rfl, ?_⟩; have n0_ := Aside0.mk (bS3 HB.out hb); clear HB; have HB := n0_; clear n0_; (try clear hb); (try clear hb2); (try clear hk); (try clear hi); (try simp only [errW_none, errW_some])) | ((with_reducible refine gC (f := 21) rfl ?_); (with_reducible refine gD (N := 77) rfl ?_); refine goesY_ (some 77) Try.func21 #[.int .i64 t654, .int .u64 t655] ?_; (with_reducible refine (order_Neg.calls t654 t655 t666 none _ A18.out).mono ?_); rintro e w' ⟨rfl, ⟨nd, rfl⟩⟩; refine ⟨_, rfl, ?_⟩; (try simp only [errW_none, errW_some])) | ((with_reducible refine gC (f := 22) rfl ?_); (with_reducible refine gD (N := 83) rfl ?_); refine goesY_ (some 83) Try.func22 #[.int .i64 t654, .int .u64 t655] ?_; (with_reducible refine (order_Sign.calls t654 t655 t668 (some q672) _ A19.out).mono ?_); rintro e w' ⟨rfl, ⟨nd, rfl⟩⟩; refine ⟨_, rfl, ?_⟩; (try simp only [errW_none, errW_some])))
                      go_ret
                      exact ⟨eR3, bR3 HB.out⟩
                  · rw [if_neg (show ¬ (some q671).isNone = true by simp)] at H
                    try simp only [Option.getD_some] at H
                    try simp only [errW_none, errW_some]
                    obtain rfl := Option.some.inj H
                    go_wp2_with (first | ((with_reducible refine gC (f := 8) rfl ?_); (with_reducible refine gD (N := 71) rfl ?_); refine goesY_ (some 71) Try.func8 #[.int .i64 t654, .int .i64 (wrap64 (-x1_5))] ?_; (with_reducible refine (ints_FromInt.calls kj11 t654 (wrap64 (-x1_5)) t664 none _ A17.out).mono ?_); rintro e w27 ⟨rfl, hb⟩; refine ⟨_, rfl, ?_⟩; have n0_ := Aside0.mk (bS3 HB.out hb); clear HB; have HB := n0_; clear n0_; (try clear hb); (try clear hb2); (try clear hk); (try clear hi); (try simp only [errW_none, errW_some])) | ((with_reducible refine gC (f := 21) rfl ?_); (with_reducible refine gD (N := 77) rfl ?_); refine goesY_ (some 77) Try.func21 #[.int .i64 t654, .int .u64 t655] ?_; (with_reducible refine (order_Neg.calls t654 t655 t666 (some q671) _ A18.out).mono ?_); rintro e w' ⟨rfl, ⟨nd, rfl⟩⟩; refine ⟨_, rfl, ?_⟩; (try simp only [errW_none, errW_some])) | ((with_reducible refine gC (f := 22) rfl ?_); (with_reducible refine gD (N := 83) rfl ?_); refine goesY_ (some 83) Try.func22 #[.int .i64 t654, .int .u64 t655] ?_; (with_reducible refine (order_Sign.calls t654 t655 t668 t669 _ A19.out).mono ?_); rintro e w' ⟨rfl, ⟨nd, rfl⟩⟩; refine ⟨_, rfl, ?_⟩; (try simp only [errW_none, errW_some])))
                    go_ret
                    exact ⟨eR3, bR3 HB.out⟩
                · rw [if_neg (show ¬ (some q670).isNone = true by simp)] at H
                  try simp only [Option.getD_some] at H
                  try simp only [errW_none, errW_some]
                  obtain rfl := Option.some.inj H
                  go_wp2_with (first | ((with_reducible refine gC (f := 8) rfl ?_); (with_reducible refine gD (N := 71) rfl ?_); refine goesY_ (some 71) Try.func8 #[.int .i64 t654, .int .i64 (wrap64 (-x1_5))] ?_; (with_reducible refine (ints_FromInt.calls kj11 t654 (wrap64 (-x1_5)) t664 (some q670) _ A17.out).mono ?_); rintro e w28 ⟨rfl, hb⟩; refine ⟨_, rfl, ?_⟩; have n0_ := Aside0.mk (bS3 HB.out hb); clear HB; have HB := n0_; clear n0_; (try clear hb); (try clear hb2); (try clear hk); (try clear hi); (try simp only [errW_none, errW_some])) | ((with_reducible refine gC (f := 21) rfl ?_); (with_reducible refine gD (N := 77) rfl ?_); refine goesY_ (some 77) Try.func21 #[.int .i64 t654, .int .u64 t655] ?_; (with_reducible refine (order_Neg.calls t654 t655 t666 t667 _ A18.out).mono ?_); rintro e w' ⟨rfl, ⟨nd, rfl⟩⟩; refine ⟨_, rfl, ?_⟩; (try simp only [errW_none, errW_some])) | ((with_reducible refine gC (f := 22) rfl ?_); (with_reducible refine gD (N := 83) rfl ?_); refine goesY_ (some 83) Try.func22 #[.int .i64 t654, .int .u64 t655] ?_; (with_reducible refine (order_Sign.calls t654 t655 t668 t669 _ A19.out).mono ?_); rintro e w' ⟨rfl, ⟨nd, rfl⟩⟩; refine ⟨_, rfl, ?_⟩; (try simp only [errW_none, errW_some])))
                  go_ret
                  exact ⟨eR3, bR3 HB.out⟩
              · replace c20 := Bool.eq_false_iff.mpr c20
                subst c20
                rw [if_neg (show ¬ (false = true) by decide)] at H
                obtain rfl := Option.some.inj H
                go_wp2_with (first | ((with_reducible refine gC (f := 8) rfl ?_); (with_reducible refine gD (N := 71) rfl ?_); refine goesY_ (some 71) Try.func8 #[.int .i64 t654, .int .i64 (wrap64 (-x1_5))] ?_; (with_reducible refine (ints_FromInt.calls kj11 t654 (wrap64 (-x1_5)) t664 t665 _ A17.out).mono ?_); rintro e w29 ⟨rfl, hb⟩; refine ⟨_, rfl, ?_⟩; have n0_ := Aside0.mk (bS3 HB.out hb); clear HB; have HB := n0_; clear n0_; (try clear hb); (try clear hb2); (try clear hk); (try clear hi); (try simp only [errW_none, errW_some])) | ((with_reducible refine gC (f := 21) rfl ?_); (with_reducible refine gD (N := 77) rfl ?_); refine goesY_ (some 77) Try.func21 #[.int .i64 t654, .int .u64 t655] ?_; (with_reducible refine (order_Neg.calls t654 t655 t666 t667 _ A18.out).mono ?_); rintro e w' ⟨rfl, ⟨nd, rfl⟩⟩; refine ⟨_, rfl, ?_⟩; (try simp only [errW_none, errW_some])) | ((with_reducible refine gC (f := 22) rfl ?_); (with_reducible refine gD (N := 83) rfl ?_); refine goesY_ (some 83) Try.func22 #[.int .i64 t654, .int .u64 t655] ?_; (with_reducible refine (order_Sign.calls t654 t655 t668 t669 _ A19.out).mono ?_); rintro e w' ⟨rfl, ⟨nd, rfl⟩⟩; refine ⟨_, rfl, ?_⟩; (try simp only [errW_none, errW_some])))
                go_ret
                exact ⟨eR3, bR3 HB.out⟩
/-- THE ONE PURE STATEMENT of vernierlaw16_IntsRise: yours. -/
def vernierlaw16_IntsRise.Pure : Prop := ∀ (a0 : Int) (a1 : Int) (a2 : Int), (Lit.int .i64 a0).wf = true → (Lit.int .i64 a1).wf = true → (Lit.int .i64 a2).wf = true → ∃ k, vernierlaw16_IntsRise.f k a0 a1 a2 = some true
theorem vernierlaw16_IntsRise.walk (P : vernierlaw16_IntsRise.Pure) (a0 : Int) (a1 : Int) (a2 : Int) (w : World) (w0 : (Lit.int .i64 a0).wf = true) (w1 : (Lit.int .i64 a1).wf = true) (w2 : (Lit.int .i64 a2).wf = true) :
    Calls Try.prog 6 #[.int .i64 a0, .int .i64 a1, .int .i64 a2] w fun e w' => e = .returned (.bool true) ∧ Below w.heap.size w w' := by
  obtain ⟨k, h⟩ := P a0 a1 a2 w0 w1 w2
  refine (vernierlaw16_IntsRise.calls k a0 a1 a2 true w h).mono ?_
  rintro e w' ⟨rfl, hd⟩
  exact ⟨rfl, hd⟩
end Go.Proofs.Ytlllaoihpkdpmaa.F
