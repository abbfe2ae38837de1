/- Functions of the given program as plain Lean functions, and for each a proof that the program's call comes to just these answers; no further conditions. (Written by a program of this repo out of the translation.) -/
import Derived.Test.YtikbelfghkfnnaaF0a
import Derived.Test.YtikbelfghkfnnaaF3a
import Derived.Test.YtikbelfghkfnnaaF4a
namespace Go.Proofs.Ytikbelfghkfnnaa.F
open Go.RowKit Go.Proofs.YtikbelfghkfnnaaW.PrintWords Go.Proofs.YtikbelfghkfnnaaW.PrintLast Go.Proofs.YtikbelfghkfnnaaW.PrintMore
attribute [local go_sem high] xor_u64 xor_u32 eqErr25 neErr25 eqErrL25 neErrL25
attribute [local go_sem] max2_int min2_int max_two min_two max_three min_three max_four min_four   -- for this text's walks alone
set_option linter.unusedVariables false
set_option linter.unusedSimpArgs false
mutual
def vernierlaw08_OrderChain.j0 : Nat → Int → Int → Int → Int → Int → Int → Bool → Option (Bool)
  | 0, _, _, _, _, _, _, _ => none
  | k + 1, x0, x1, x2, x8, x10, x12, x112 => if x112 = true then (some false) else ((order_Cmp.f x0 x1 x10).bind fun bt204 => (if x12 = 1 then (if bt204.1 = 0 then (if bt204.2.isNone = true then (vernierlaw08_OrderChain.j1 k x0 x1 x2 x8 false) else (vernierlaw08_OrderChain.j1 k x0 x1 x2 x8 true)) else (vernierlaw08_OrderChain.j1 k x0 x1 x2 x8 true)) else (if bt204.2.isNone = true then (vernierlaw08_OrderChain.j1 k x0 x1 x2 x8 false) else (vernierlaw08_OrderChain.j1 k x0 x1 x2 x8 true))))
def vernierlaw08_OrderChain.j1 : Nat → Int → Int → Int → Int → Bool → Option (Bool)
  | 0, _, _, _, _, _ => none
  | k + 1, x0, x1, x2, x8, x129 => if x129 = true then (some false) else ((order_Min.f x0 x1 x2).bind fun bt208 => ((order_Max.f x0 x1 x2).bind fun bt210 => ((order_Steps.f x0 bt208.1 bt210.1).bind fun bt212 => ((order_Steps.f x0 x2 x1).bind fun bt214 => ((order_Clamp.f k x0 x8 bt208.1 bt210.1).bind fun bt216 => ((order_Cmp.f x0 bt216.1 bt208.1).bind fun bt218 => ((order_Cmp.f x0 bt210.1 bt216.1).bind fun bt220 => (if bt208.2.isNone = true then (if bt210.2.isNone = true then (if bt212.2.isNone = true then (if bt214.2.isNone = true then (if bt218.2.isNone = true then (if bt220.2.isNone = true then (if bt212.1 = bt214.1 then (if bt216.2.isNone = true then (if bt218.1 ≥ 0 then (some (decide (bt220.1 ≥ 0))) else (some false)) else (if (bt216.2.getD 0) = 9 then (some true) else (some false))) else (some false)) else (some false)) else (some false)) else (some false)) else (some false)) else (some false)) else (some false)))))))))
end
def vernierlaw08_OrderChain.f (k : Nat) (a0 : Int) (a1 : Int) (a2 : Int) : Option (Bool) := (vernierlaw08_up.f).bind fun t191 => ((order_Next.f a0 a1).bind fun bt192 => ((order_Prev.f a0 bt192.1).bind fun bt194 => ((order_Steps.f a0 a1 bt192.1).bind fun bt196 => (if bt192.2.isNone = true then ((order_Cmp.f a0 a1 bt192.1).bind fun bt199 => (if t191 = true then (if bt194.2.isNone = true then (if bt196.2.isNone = true then (if bt199.2.isNone = true then (if bt199.1 > 0 then (vernierlaw08_OrderChain.j0 k a0 a1 a2 bt192.1 bt194.1 bt196.1 true) else (if bt196.1 > 1 then (vernierlaw08_OrderChain.j0 k a0 a1 a2 bt192.1 bt194.1 bt196.1 true) else (vernierlaw08_OrderChain.j0 k a0 a1 a2 bt192.1 bt194.1 bt196.1 ((bt199.1 == 0) != (bt196.1 == 0))))) else (vernierlaw08_OrderChain.j0 k a0 a1 a2 bt192.1 bt194.1 bt196.1 true)) else (vernierlaw08_OrderChain.j0 k a0 a1 a2 bt192.1 bt194.1 bt196.1 true)) else (vernierlaw08_OrderChain.j0 k a0 a1 a2 bt192.1 bt194.1 bt196.1 true)) else (vernierlaw08_OrderChain.j0 k a0 a1 a2 bt192.1 bt194.1 bt196.1 true))) else (if t191 = true then (if bt194.2.isNone = true then (some false) else (if (bt194.2.getD 0) = 2 then (if bt196.2.isNone = true then (some false) else (if (bt196.2.getD 0) = 2 then (if bt192.1 = 0 then (if bt194.1 = 0 then (some (bt196.1 == 0)) else (some false)) else (some false)) else (some false))) else (some false))) else (some false))))))
set_option maxHeartbeats 8000000 in
set_option maxRecDepth 100000 in
theorem vernierlaw08_OrderChain.calls (k : Nat) (a0 : Int) (a1 : Int) (a2 : Int) (r : Bool) (w : World) (h : vernierlaw08_OrderChain.f k a0 a1 a2 = some r) :
    Calls Try.prog 3 #[.int .i64 a0, .int .u64 a1, .int .u64 a2] w fun e w' => e = .returned (.bool r) ∧ Below w.heap.size w w' := by
  have hu25 := Try.underlying25
  have hu29 := Try.underlying29
  have HB := Aside0.mk (Below.refl w.heap.size w)
  have H : ((vernierlaw08_up.f).bind fun t191 => ((order_Next.f a0 a1).bind fun bt192 => ((order_Prev.f a0 bt192.1).bind fun bt194 => ((order_Steps.f a0 a1 bt192.1).bind fun bt196 => (if bt192.2.isNone = true then ((order_Cmp.f a0 a1 bt192.1).bind fun bt199 => (if t191 = true then (if bt194.2.isNone = true then (if bt196.2.isNone = true then (if bt199.2.isNone = true then (if bt199.1 > 0 then (vernierlaw08_OrderChain.j0 k a0 a1 a2 bt192.1 bt194.1 bt196.1 true) else (if bt196.1 > 1 then (vernierlaw08_OrderChain.j0 k a0 a1 a2 bt192.1 bt194.1 bt196.1 true) else (vernierlaw08_OrderChain.j0 k a0 a1 a2 bt192.1 bt194.1 bt196.1 ((bt199.1 == 0) != (bt196.1 == 0))))) else (vernierlaw08_OrderChain.j0 k a0 a1 a2 bt192.1 bt194.1 bt196.1 true)) else (vernierlaw08_OrderChain.j0 k a0 a1 a2 bt192.1 bt194.1 bt196.1 true)) else (vernierlaw08_OrderChain.j0 k a0 a1 a2 bt192.1 bt194.1 bt196.1 true)) else (vernierlaw08_OrderChain.j0 k a0 a1 a2 bt192.1 bt194.1 bt196.1 true))) else (if t191 = true then (if bt194.2.isNone = true then (some false) else (if (bt194.2.getD 0) = 2 then (if bt196.2.isNone = true then (some false) else (if (bt196.2.getD 0) = 2 then (if bt192.1 = 0 then (if bt194.1 = 0 then (some (bt196.1 == 0)) else (some false)) else (some false)) else (some false))) else (some false))) else (some false))))))) = some r := h
  clear h
  replace H := Option.bind_eq_some_iff.mp H
  obtain ⟨t191, A40, H⟩ := H
  try dsimp -simprocs only at H
  have A4 := Aside0.mk A40
  clear A40
  replace H := Option.bind_eq_some_iff.mp H
  obtain ⟨⟨t192, t193⟩, A50, H⟩ := H
  try dsimp -simprocs only at H
  have A5 := Aside0.mk A50
  clear A50
  replace H := Option.bind_eq_some_iff.mp H
  obtain ⟨⟨t194, t195⟩, A60, H⟩ := H
  try dsimp -simprocs only at H
  have A6 := Aside0.mk A60
  clear A60
  replace H := Option.bind_eq_some_iff.mp H
  obtain ⟨⟨t196, t197⟩, A70, H⟩ := H
  try dsimp -simprocs only at H
  have A7 := Aside0.mk A70
  clear A70
  rcases t193 with _ | q198
  · rw [if_pos (show (none : Option Int).isNone = true by rfl)] at H
    try simp only [Option.getD_some] at H
    try simp only [errW_none, errW_some]
    replace H := Option.bind_eq_some_iff.mp H
    obtain ⟨⟨t199, t200⟩, A80, H⟩ := H
    try dsimp -simprocs only at H
    have A8 := Aside0.mk A80
    clear A80
    have HC9 := Aside0.mk H
    clear H
    go_enter Try.func3, Try.ntmps3
    go_upto_region 8 with (first | ((with_reducible refine gC (f := 4) rfl ?_); (with_reducible refine gD (N := 32) rfl ?_); refine goesY_ (some 32) Try.func4 #[] ?_; (with_reducible refine (vernierlaw08_up.calls  t191 _ A4.out).mono ?_); rintro e w10 ⟨rfl, hb⟩; refine ⟨_, rfl, ?_⟩; have n0_ := Aside0.mk (bS3 HB.out hb); clear HB; have HB := n0_; clear n0_; (try clear hb); (try clear hb2); (try clear hk); (try clear hi)) | ((with_reducible refine gC (f := 5) rfl ?_); (with_reducible refine gD (N := 36) rfl ?_); refine goesY_ (some 36) Try.func5 #[.int .i64 a0, .int .u64 a1] ?_; (with_reducible refine (order_Next.calls a0 a1 t192 none _ A5.out).mono ?_); rintro e w11 ⟨rfl, hb⟩; refine ⟨_, rfl, ?_⟩; have n0_ := Aside0.mk (bS3 HB.out hb); clear HB; have HB := n0_; clear n0_; (try clear hb); (try clear hb2); (try clear hk); (try clear hi); (try simp only [errW_none, errW_some])) | ((with_reducible refine gC (f := 6) rfl ?_); (with_reducible refine gD (N := 42) rfl ?_); refine goesY_ (some 42) Try.func6 #[.int .i64 a0, .int .u64 t192] ?_; (with_reducible refine (order_Prev.calls a0 t192 t194 t195 _ A6.out).mono ?_); rintro e w12 ⟨rfl, hb⟩; refine ⟨_, rfl, ?_⟩; have n0_ := Aside0.mk (bS3 HB.out hb); clear HB; have HB := n0_; clear n0_; (try clear hb); (try clear hb2); (try clear hk); (try clear hi); (try simp only [errW_none, errW_some])) | ((with_reducible refine gC (f := 7) rfl ?_); (with_reducible refine gD (N := 49) rfl ?_); refine goesY_ (some 49) Try.func7 #[.int .i64 a0, .int .u64 a1, .int .u64 t192] ?_; (with_reducible refine (order_Steps.calls a0 a1 t192 t196 t197 _ A7.out).mono ?_); rintro e w' ⟨rfl, ⟨nd, rfl⟩⟩; refine ⟨_, rfl, ?_⟩; (try simp only [errW_none, errW_some])) | ((with_reducible refine gC (f := 8) rfl ?_); (with_reducible refine gD (N := 81) rfl ?_); refine goesY_ (some 81) Try.func8 #[.int .i64 a0, .int .u64 a1, .int .u64 t192] ?_; (with_reducible refine (order_Cmp.calls a0 a1 t192 t199 t200 _ A8.out).mono ?_); rintro e w' ⟨rfl, ⟨nd, rfl⟩⟩; refine ⟨_, rfl, ?_⟩; (try simp only [errW_none, errW_some])))
    (try simp only [Act.put, List.setIfInBounds_toArray, List.set_cons_zero, List.set_cons_succ])
    go_cut [112] (fun v112 wc => ∃ (kq : Nat) (x112_8 : Bool), v112 = .bool x112_8 ∧ Aside0 (vernierlaw08_OrderChain.j0 kq a0 a1 a2 t192 t194 t196 x112_8 = some r) ∧ Aside0 (kq ≤ k) ∧ Aside0 (Below w.heap.size w wc))
    case first =>
      have H := HC9.out
      clear HC9
      by_cases c13 : t191 = true
      · subst c13
        rw [if_pos rfl] at H
        rcases t195 with _ | q201
        · rw [if_pos (show (none : Option Int).isNone = true by rfl)] at H
          try simp only [Option.getD_some] at H
          try simp only [errW_none, errW_some]
          rcases t197 with _ | q202
          · rw [if_pos (show (none : Option Int).isNone = true by rfl)] at H
            try simp only [Option.getD_some] at H
            try simp only [errW_none, errW_some]
            rcases t200 with _ | q203
            · rw [if_pos (show (none : Option Int).isNone = true by rfl)] at H
              try simp only [Option.getD_some] at H
              try simp only [errW_none, errW_some]
              by_cases c14 : t199 > 0
              · rw [if_pos c14] at H
                have c14b0 : decide (0 < t199) = true := decide_eq_true c14
                clear c14
                (first | rw [c14b0] | (simp only [i64_w, i32_w]; rw [c14b0]) | skip)
                have H' := Aside0.mk H
                clear H
                as_aux_lemma =>
                  go_wp2
                  go_meet
                  case rel => exact ⟨_, (true), (by first | rfl | (simp; done) | (simp [*]; done)), H', ⟨by first | omega | exact Nat.le_refl _⟩, ⟨bR3 HB.out⟩⟩
              · rw [if_neg c14] at H
                have c14b0 : decide (0 < t199) = false := decide_eq_false c14
                clear c14
                (first | rw [c14b0] | (simp only [i64_w, i32_w]; rw [c14b0]) | skip)
                by_cases c15 : t196 > 1
                · rw [if_pos c15] at H
                  have c15b0 : decide (1 < t196) = true := decide_eq_true c15
                  clear c15
                  have H' := Aside0.mk H
                  clear H
                  as_aux_lemma =>
                    go_wp2
                    go_meet
                    case rel => exact ⟨_, (true), (by first | rfl | (simp; done) | (simp [*]; done)), H', ⟨by first | omega | exact Nat.le_refl _⟩, ⟨bR3 HB.out⟩⟩
                · rw [if_neg c15] at H
                  have c15b0 : decide (1 < t196) = false := decide_eq_false c15
                  clear c15
                  have H' := Aside0.mk H
                  clear H
                  as_aux_lemma =>
                    go_wp2
                    go_meet
                    case rel => exact ⟨_, (((t199 == 0) != (t196 == 0))), (by first | rfl | (simp; done) | (simp [*]; done)), H', ⟨by first | omega | exact Nat.le_refl _⟩, ⟨bR3 HB.out⟩⟩
            · rw [if_neg (show ¬ (some q203).isNone = true by simp)] at H
              try simp only [Option.getD_some] at H
              try simp only [errW_none, errW_some]
              have H' := Aside0.mk H
              clear H
              as_aux_lemma =>
                go_wp2
                go_meet
                case rel => exact ⟨_, (true), (by first | rfl | (simp; done) | (simp [*]; done)), H', ⟨by first | omega | exact Nat.le_refl _⟩, ⟨bR3 HB.out⟩⟩
          · rw [if_neg (show ¬ (some q202).isNone = true by simp)] at H
            try simp only [Option.getD_some] at H
            try simp only [errW_none, errW_some]
            have H' := Aside0.mk H
            clear H
            as_aux_lemma =>
              go_wp2
              go_meet
              case rel => exact ⟨_, (true), (by first | rfl | (simp; done) | (simp [*]; done)), H', ⟨by first | omega | exact Nat.le_refl _⟩, ⟨bR3 HB.out⟩⟩
        · rw [if_neg (show ¬ (some q201).isNone = true by simp)] at H
          try simp only [Option.getD_some] at H
          try simp only [errW_none, errW_some]
          have H' := Aside0.mk H
          clear H
          as_aux_lemma =>
            go_wp2
            go_meet
            case rel => exact ⟨_, (true), (by first | rfl | (simp; done) | (simp [*]; done)), H', ⟨by first | omega | exact Nat.le_refl _⟩, ⟨bR3 HB.out⟩⟩
      · replace c13 := Bool.eq_false_iff.mpr c13
        subst c13
        rw [if_neg (show ¬ (false = true) by decide)] at H
        have H' := Aside0.mk H
        clear H
        as_aux_lemma =>
          go_wp2
          go_meet
          case rel => exact ⟨_, (true), (by first | rfl | (simp; done) | (simp [*]; done)), H', ⟨by first | omega | exact Nat.le_refl _⟩, ⟨bR3 HB.out⟩⟩
    case rest =>
      clear HC9
      try clear c1
      try clear q1
      try clear p2
      try clear q2
      try clear c3
      try clear c4
      try clear c5
      try clear c6
      try clear c7
      try clear c8
      try clear c13
      try clear c14
      try clear c14b0
      try clear c15
      try clear c15b0
      try clear q198
      try clear q201
      try clear q202
      try clear q203
      obtain ⟨kq, x112_8, rfl, HA, HJ8, HB⟩ := hcut
      cases kq with
      | zero => exact absurd HA.out (by simp [vernierlaw08_OrderChain.j0])
      | succ kj8 =>
        have H := HA.out
        clear HA
        simp only [vernierlaw08_OrderChain.j0] at H
        by_cases c16 : x112_8 = true
        · subst c16
          rw [if_pos rfl] at H
          obtain rfl := Option.some.inj H
          as_aux_lemma =>
            go_wp2
            go_ret
            exact ⟨eR3, bR3 HB.out⟩
        · replace c16 := Bool.eq_false_iff.mpr c16
          subst c16
          rw [if_neg (show ¬ (false = true) by decide)] at H
          replace H := Option.bind_eq_some_iff.mp H
          obtain ⟨⟨t204, t205⟩, A170, H⟩ := H
          try dsimp -simprocs only at H
          have A17 := Aside0.mk A170
          clear A170
          have HC18 := Aside0.mk H
          clear H
          go_upto_region 11 with (first | ((with_reducible refine gC (f := 8) rfl ?_); (with_reducible refine gD (N := 117) rfl ?_); refine goesY_ (some 117) Try.func8 #[.int .i64 a0, .int .u64 a1, .int .u64 t194] ?_; (with_reducible refine (order_Cmp.calls a0 a1 t194 t204 t205 _ A17.out).mono ?_); rintro e w' ⟨rfl, ⟨nd, rfl⟩⟩; refine ⟨_, rfl, ?_⟩; (try simp only [errW_none, errW_some])))
          (try simp only [Act.put, List.setIfInBounds_toArray, List.set_cons_zero, List.set_cons_succ])
          go_cut [129] (fun v129 wc => ∃ (kq : Nat) (x129_17 : Bool), v129 = .bool x129_17 ∧ Aside0 (vernierlaw08_OrderChain.j1 kq a0 a1 a2 t192 x129_17 = some r) ∧ Aside0 (kq ≤ kj8) ∧ Aside0 (Below w.heap.size w wc))
          case first =>
            have H := HC18.out
            clear HC18
            by_cases c19 : t196 = 1
            · rw [if_pos c19] at H
              have c19b0 : (t196 == 1) = true := beq_iff_eq.mpr c19
              have c19b1 : (t196 != 1) = false := bne_eq_false_iff_eq.mpr c19
              clear c19
              (first | rw [c19b0] | (simp only [i64_w, i32_w]; rw [c19b0]) | skip)
              by_cases c20 : t204 = 0
              · rw [if_pos c20] at H
                have c20b0 : (t204 == 0) = true := beq_iff_eq.mpr c20
                have c20b1 : (t204 != 0) = false := bne_eq_false_iff_eq.mpr c20
                clear c20
                rcases t205 with _ | q206
                · rw [if_pos (show (none : Option Int).isNone = true by rfl)] at H
                  try simp only [Option.getD_some] at H
                  try simp only [errW_none, errW_some]
                  have H' := Aside0.mk H
                  clear H
                  as_aux_lemma =>
                    go_wp2
                    go_meet
                    case rel => exact ⟨_, (false), (by first | rfl | (simp; done) | (simp [*]; done)), H', ⟨by have := HJ8.out; first | omega | exact Nat.le_refl _⟩, ⟨bR3 HB.out⟩⟩
                · rw [if_neg (show ¬ (some q206).isNone = true by simp)] at H
                  try simp only [Option.getD_some] at H
                  try simp only [errW_none, errW_some]
                  have H' := Aside0.mk H
                  clear H
                  as_aux_lemma =>
                    go_wp2
                    go_meet
                    case rel => exact ⟨_, (true), (by first | rfl | (simp; done) | (simp [*]; done)), H', ⟨by have := HJ8.out; first | omega | exact Nat.le_refl _⟩, ⟨bR3 HB.out⟩⟩
              · rw [if_neg c20] at H
                have c20b0 : (t204 == 0) = false := beq_eq_false_iff_ne.mpr c20
                have c20b1 : (t204 != 0) = true := bne_iff_ne.mpr c20
                have H' := Aside0.mk H
                clear H
                as_aux_lemma =>
                  go_wp2
                  go_meet
                  case rel => exact ⟨_, (true), (by first | rfl | (simp; done) | (simp [*]; done)), H', ⟨by have := HJ8.out; first | omega | exact Nat.le_refl _⟩, ⟨bR3 HB.out⟩⟩
            · rw [if_neg c19] at H
              have c19b0 : (t196 == 1) = false := beq_eq_false_iff_ne.mpr c19
              have c19b1 : (t196 != 1) = true := bne_iff_ne.mpr c19
              (first | rw [c19b0] | (simp only [i64_w, i32_w]; rw [c19b0]) | skip)
              rcases t205 with _ | q207
              · rw [if_pos (show (none : Option Int).isNone = true by rfl)] at H
                try simp only [Option.getD_some] at H
                try simp only [errW_none, errW_some]
                have H' := Aside0.mk H
                clear H
                as_aux_lemma =>
                  go_wp2
                  go_meet
                  case rel => exact ⟨_, (false), (by first | rfl | (simp; done) | (simp [*]; done)), H', ⟨by have := HJ8.out; first | omega | exact Nat.le_refl _⟩, ⟨bR3 HB.out⟩⟩
              · rw [if_neg (show ¬ (some q207).isNone = true by simp)] at H
                try simp only [Option.getD_some] at H
                try simp only [errW_none, errW_some]
                have H' := Aside0.mk H
                clear H
                as_aux_lemma =>
                  go_wp2
                  go_meet
                  case rel => exact ⟨_, (true), (by first | rfl | (simp; done) | (simp [*]; done)), H', ⟨by have := HJ8.out; first | omega | exact Nat.le_refl _⟩, ⟨bR3 HB.out⟩⟩
          case rest =>
            clear HC18
            try clear c1
            try clear q1
            try clear c2
            try clear p2
            try clear q2
            try clear c3
            try clear c4
            try clear c5
            try clear c6
            try clear c7
            try clear c8
            try clear c13
            try clear c14
            try clear c14b0
            try clear c15
            try clear c15b0
            try clear c16
            try clear c19
            try clear c19b0
            try clear c19b1
            try clear q19
            try clear c20
            try clear c20b0
            try clear c20b1
            try clear q20
            try clear p2
            try clear q1
            try clear q198
            try clear q2
            try clear q201
            try clear q202
            try clear q203
            try clear q206
            try clear q207
            obtain ⟨kq, x129_17, rfl, HA, HJ17, HB⟩ := hcut
            cases kq with
            | zero => exact absurd HA.out (by simp [vernierlaw08_OrderChain.j1])
            | succ kj17 =>
              have H := HA.out
              clear HA
              simp only [vernierlaw08_OrderChain.j1] at H
              by_cases c21 : x129_17 = true
              · subst c21
                rw [if_pos rfl] at H
                obtain rfl := Option.some.inj H
                as_aux_lemma =>
                  go_wp2
                  go_ret
                  exact ⟨eR3, bR3 HB.out⟩
              · replace c21 := Bool.eq_false_iff.mpr c21
                subst c21
                rw [if_neg (show ¬ (false = true) by decide)] at H
                replace H := Option.bind_eq_some_iff.mp H
                obtain ⟨⟨t208, t209⟩, A220, H⟩ := H
                try dsimp -simprocs only at H
                have A22 := Aside0.mk A220
                clear A220
                replace H := Option.bind_eq_some_iff.mp H
                obtain ⟨⟨t210, t211⟩, A230, H⟩ := H
                try dsimp -simprocs only at H
                have A23 := Aside0.mk A230
                clear A230
                replace H := Option.bind_eq_some_iff.mp H
                obtain ⟨⟨t212, t213⟩, A240, H⟩ := H
                try dsimp -simprocs only at H
                have A24 := Aside0.mk A240
                clear A240
                replace H := Option.bind_eq_some_iff.mp H
                obtain ⟨⟨t214, t215⟩, A250, H⟩ := H
                try dsimp -simprocs only at H
                have A25 := Aside0.mk A250
                clear A250
                replace H := Option.bind_eq_some_iff.mp H
                obtain ⟨⟨t216, t217⟩, A260, H⟩ := H
                try dsimp -simprocs only at H
                have A26 := Aside0.mk A260
                clear A260
                replace H := Option.bind_eq_some_iff.mp H
                obtain ⟨⟨t218, t219⟩, A270, H⟩ := H
                try dsimp -simprocs only at H
                have A27 := Aside0.mk A270
                clear A270
                replace H := Option.bind_eq_some_iff.mp H
                obtain ⟨⟨t220, t221⟩, A280, H⟩ := H
                try dsimp -simprocs only at H
                have A28 := Aside0.mk A280
                clear A280
                rcases t209 with _ | q222
                · rw [if_pos (show (none : Option Int).isNone = true by rfl)] at H
                  try simp only [Option.getD_some] at H
                  try simp only [errW_none, errW_some]
                  rcases t211 with _ | q223
                  · rw [if_pos (show (none : Option Int).isNone = true by rfl)] at H
                    try simp only [Option.getD_some] at H
                    try simp only [errW_none, errW_some]
                    rcases t213 with _ | q224
                    · rw [if_pos (show (none : Option Int).isNone = true by rfl)] at H
                      try simp only [Option.getD_some] at H
                      try simp only [errW_none, errW_some]
                      rcases t215 with _ | q225
                      · rw [if_pos (show (none : Option Int).isNone = true by rfl)] at H
                        try simp only [Option.getD_some] at H
                        try simp only [errW_none, errW_some]
                        rcases t219 with _ | q226
                        · rw [if_pos (show (none : Option Int).isNone = true by rfl)] at H
                          try simp only [Option.getD_some] at H
                          try simp only [errW_none, errW_some]
                          rcases t221 with _ | q227
                          · rw [if_pos (show (none : Option Int).isNone = true by rfl)] at H
                            try simp only [Option.getD_some] at H
                            try simp only [errW_none, errW_some]
                            by_cases c29 : t212 = t214
                            · rw [if_pos c29] at H
                              have c29b0 : (t212 == t214) = true := beq_iff_eq.mpr c29
                              have c29b1 : (t212 != t214) = false := bne_eq_false_iff_eq.mpr c29
                              clear c29
                              rcases t217 with _ | q228
                              · rw [if_pos (show (none : Option Int).isNone = true by rfl)] at H
                                try simp only [Option.getD_some] at H
                                try simp only [errW_none, errW_some]
                                by_cases c30 : t218 ≥ 0
                                · rw [if_pos c30] at H
                                  have c30b0 : decide (0 ≤ t218) = true := decide_eq_true c30
                                  clear c30
                                  obtain rfl := Option.some.inj H
                                  as_aux_lemma =>
                                    go_wp2_with (first | ((with_reducible refine gC (f := 9) rfl ?_); (with_reducible refine gD (N := 134) rfl ?_); refine goesY_ (some 134) Try.func9 #[.int .i64 a0, .int .u64 a1, .int .u64 a2] ?_; (with_reducible refine (order_Min.calls a0 a1 a2 t208 none _ A22.out).mono ?_); rintro e w' ⟨rfl, ⟨nd, rfl⟩⟩; refine ⟨_, rfl, ?_⟩; (try simp only [errW_none, errW_some])) | ((with_reducible refine gC (f := 10) rfl ?_); (with_reducible refine gD (N := 141) rfl ?_); refine goesY_ (some 141) Try.func10 #[.int .i64 a0, .int .u64 a1, .int .u64 a2] ?_; (with_reducible refine (order_Max.calls a0 a1 a2 t210 none _ A23.out).mono ?_); rintro e w' ⟨rfl, ⟨nd, rfl⟩⟩; refine ⟨_, rfl, ?_⟩; (try simp only [errW_none, errW_some])) | ((with_reducible refine gC (f := 7) rfl ?_); (with_reducible refine gD (N := 148) rfl ?_); refine goesY_ (some 148) Try.func7 #[.int .i64 a0, .int .u64 t208, .int .u64 t210] ?_; (with_reducible refine (order_Steps.calls a0 t208 t210 t212 none _ A24.out).mono ?_); rintro e w' ⟨rfl, ⟨nd, rfl⟩⟩; refine ⟨_, rfl, ?_⟩; (try simp only [errW_none, errW_some])) | ((with_reducible refine gC (f := 7) rfl ?_); (with_reducible refine gD (N := 155) rfl ?_); refine goesY_ (some 155) Try.func7 #[.int .i64 a0, .int .u64 a2, .int .u64 a1] ?_; (with_reducible refine (order_Steps.calls a0 a2 a1 t214 none _ A25.out).mono ?_); rintro e w' ⟨rfl, ⟨nd, rfl⟩⟩; refine ⟨_, rfl, ?_⟩; (try simp only [errW_none, errW_some])) | ((with_reducible refine gC (f := 11) rfl ?_); (with_reducible refine gD (N := 163) rfl ?_); refine goesY_ (some 163) Try.func11 #[.int .i64 a0, .int .u64 t192, .int .u64 t208, .int .u64 t210] ?_; (with_reducible refine (order_Clamp.calls kj17 a0 t192 t208 t210 t216 none _ A26.out).mono ?_); rintro e w31 ⟨rfl, hb⟩; refine ⟨_, rfl, ?_⟩; have n0_ := Aside0.mk (bS3 HB.out hb); clear HB; have HB := n0_; clear n0_; (try clear hb); (try clear hb2); (try clear hk); (try clear hi); (try simp only [errW_none, errW_some])) | ((with_reducible refine gC (f := 8) rfl ?_); (with_reducible refine gD (N := 170) rfl ?_); refine goesY_ (some 170) Try.func8 #[.int .i64 a0, .int .u64 t216, .int .u64 t208] ?_; (with_reducible refine (order_Cmp.calls a0 t216 t208 t218 none _ A27.out).mono ?_); rintro e w' ⟨rfl, ⟨nd, rfl⟩⟩; refine ⟨_, rfl, ?_⟩; (try simp only [errW_none, errW_some])) | ((with_reducible refine gC (f := 8) rfl ?_); (with_reducible refine gD (N := 177) rfl ?_); refine goesY_ (some 177) Try.func8 #[.int .i64 a0, .int .u64 t210, .int .u64 t216] ?_; (with_reducible refine (order_Cmp.calls a0 t210 t216 t220 none _ A28.out).mono ?_); rintro e w' ⟨rfl, ⟨nd, rfl⟩⟩; refine ⟨_, rfl, ?_⟩; (try simp only [errW_none, errW_some])))
                                    go_ret
                                    exact ⟨eR3, bR3 HB.out⟩
                                · rw [if_neg c30] at H
                                  have c30b0 : decide (0 ≤ t218) = false := decide_eq_false c30
                                  clear c30
                                  obtain rfl := Option.some.inj H
                                  as_aux_lemma =>
                                    go_wp2_with (first | ((with_reducible refine gC (f := 9) rfl ?_); (with_reducible refine gD (N := 134) rfl ?_); refine goesY_ (some 134) Try.func9 #[.int .i64 a0, .int .u64 a1, .int .u64 a2] ?_; (with_reducible refine (order_Min.calls a0 a1 a2 t208 none _ A22.out).mono ?_); rintro e w' ⟨rfl, ⟨nd, rfl⟩⟩; refine ⟨_, rfl, ?_⟩; (try simp only [errW_none, errW_some])) | ((with_reducible refine gC (f := 10) rfl ?_); (with_reducible refine gD (N := 141) rfl ?_); refine goesY_ (some 141) Try.func10 #[.int .i64 a0, .int .u64 a1, .int .u64 a2] ?_; (with_reducible refine (order_Max.calls a0 a1 a2 t210 none _ A23.out).mono ?_); rintro e w' ⟨rfl, ⟨nd, rfl⟩⟩; refine ⟨_, rfl, ?_⟩; (try simp only [errW_none, errW_some])) | ((with_reducible refine gC (f := 7) rfl ?_); (with_reducible refine gD (N := 148) rfl ?_); refine goesY_ (some 148) Try.func7 #[.int .i64 a0, .int .u64 t208, .int .u64 t210] ?_; (with_reducible refine (order_Steps.calls a0 t208 t210 t212 none _ A24.out).mono ?_); rintro e w' ⟨rfl, ⟨nd, rfl⟩⟩; refine ⟨_, rfl, ?_⟩; (try simp only [errW_none, errW_some])) | ((with_reducible refine gC (f := 7) rfl ?_); (with_reducible refine gD (N := 155) rfl ?_); refine goesY_ (some 155) Try.func7 #[.int .i64 a0, .int .u64 a2, .int .u64 a1] ?_; (with_reducible refine (order_Steps.calls a0 a2 a1 t214 none _ A25.out).mono ?_); rintro e w' ⟨rfl, ⟨nd, rfl⟩⟩; refine ⟨_, rfl, ?_⟩; (try simp only [errW_none, errW_some])) | ((with_reducible refine gC (f := 11) rfl ?_); (with_reducible refine gD (N := 163) rfl ?_); refine goesY_ (some 163) Try.func11 #[.int .i64 a0, .int .u64 t192, .int .u64 t208, .int .u64 t210] ?_; (with_reducible refine (order_Clamp.calls kj17 a0 t192 t208 t210 t216 none _ A26.out).mono ?_); rintro e w32 ⟨rfl, hb⟩; refine ⟨_, rfl, ?_⟩; have n0_ := Aside0.mk (bS3 HB.out hb); clear HB; have HB := n0_; clear n0_; (try clear hb); (try clear hb2); (try clear hk); (try clear hi); (try simp only [errW_none, errW_some])) | ((with_reducible refine gC (f := 8) rfl ?_); (with_reducible refine gD (N := 170) rfl ?_); refine goesY_ (some 170) Try.func8 #[.int .i64 a0, .int .u64 t216, .int .u64 t208] ?_; (with_reducible refine (order_Cmp.calls a0 t216 t208 t218 none _ A27.out).mono ?_); rintro e w' ⟨rfl, ⟨nd, rfl⟩⟩; refine ⟨_, rfl, ?_⟩; (try simp only [errW_none, errW_some])) | ((with_reducible refine gC (f := 8) rfl ?_); (with_reducible refine gD (N := 177) rfl ?_); refine goesY_ (some 177) Try.func8 #[.int .i64 a0, .int .u64 t210, .int .u64 t216] ?_; (with_reducible refine (order_Cmp.calls a0 t210 t216 t220 none _ A28.out).mono ?_); rintro e w' ⟨rfl, ⟨nd, rfl⟩⟩; refine ⟨_, rfl, ?_⟩; (try simp only [errW_none, errW_some])))
                                    go_ret
                                    exact ⟨eR3, bR3 HB.out⟩
                              · rw [if_neg (show ¬ (some q228).isNone = true by simp)] at H
                                try simp only [Option.getD_some] at H
                                try simp only [errW_none, errW_some]
                                by_cases c33 : q228 = 9
                                · rw [if_pos c33] at H
                                  have c33b0 : (q228 == 9) = true := beq_iff_eq.mpr c33
                                  have c33b1 : (q228 != 9) = false := bne_eq_false_iff_eq.mpr c33
                                  clear c33
                                  obtain rfl := Option.some.inj H
                                  as_aux_lemma =>
                                    go_wp2_with (first | ((with_reducible refine gC (f := 9) rfl ?_); (with_reducible refine gD (N := 134) rfl ?_); refine goesY_ (some 134) Try.func9 #[.int .i64 a0, .int .u64 a1, .int .u64 a2] ?_; (with_reducible refine (order_Min.calls a0 a1 a2 t208 none _ A22.out).mono ?_); rintro e w' ⟨rfl, ⟨nd, rfl⟩⟩; refine ⟨_, rfl, ?_⟩; (try simp only [errW_none, errW_some])) | ((with_reducible refine gC (f := 10) rfl ?_); (with_reducible refine gD (N := 141) rfl ?_); refine goesY_ (some 141) Try.func10 #[.int .i64 a0, .int .u64 a1, .int .u64 a2] ?_; (with_reducible refine (order_Max.calls a0 a1 a2 t210 none _ A23.out).mono ?_); rintro e w' ⟨rfl, ⟨nd, rfl⟩⟩; refine ⟨_, rfl, ?_⟩; (try simp only [errW_none, errW_some])) | ((with_reducible refine gC (f := 7) rfl ?_); (with_reducible refine gD (N := 148) rfl ?_); refine goesY_ (some 148) Try.func7 #[.int .i64 a0, .int .u64 t208, .int .u64 t210] ?_; (with_reducible refine (order_Steps.calls a0 t208 t210 t212 none _ A24.out).mono ?_); rintro e w' ⟨rfl, ⟨nd, rfl⟩⟩; refine ⟨_, rfl, ?_⟩; (try simp only [errW_none, errW_some])) | ((with_reducible refine gC (f := 7) rfl ?_); (with_reducible refine gD (N := 155) rfl ?_); refine goesY_ (some 155) Try.func7 #[.int .i64 a0, .int .u64 a2, .int .u64 a1] ?_; (with_reducible refine (order_Steps.calls a0 a2 a1 t214 none _ A25.out).mono ?_); rintro e w' ⟨rfl, ⟨nd, rfl⟩⟩; refine ⟨_, rfl, ?_⟩; (try simp only [errW_none, errW_some])) | ((with_reducible refine gC (f := 11) rfl ?_); (with_reducible refine gD (N := 163) rfl ?_); refine goesY_ (some 163) Try.func11 #[.int .i64 a0, .int .u64 t192, .int .u64 t208, .int .u64 t210] ?_; (with_reducible refine (order_Clamp.calls kj17 a0 t192 t208 t210 t216 (some q228) _ A26.out).mono ?_); rintro e w34 ⟨rfl, hb⟩; refine ⟨_, rfl, ?_⟩; have n0_ := Aside0.mk (bS3 HB.out hb); clear HB; have HB := n0_; clear n0_; (try clear hb); (try clear hb2); (try clear hk); (try clear hi); (try simp only [errW_none, errW_some])) | ((with_reducible refine gC (f := 8) rfl ?_); (with_reducible refine gD (N := 170) rfl ?_); refine goesY_ (some 170) Try.func8 #[.int .i64 a0, .int .u64 t216, .int .u64 t208] ?_; (with_reducible refine (order_Cmp.calls a0 t216 t208 t218 none _ A27.out).mono ?_); rintro e w' ⟨rfl, ⟨nd, rfl⟩⟩; refine ⟨_, rfl, ?_⟩; (try simp only [errW_none, errW_some])) | ((with_reducible refine gC (f := 8) rfl ?_); (with_reducible refine gD (N := 177) rfl ?_); refine goesY_ (some 177) Try.func8 #[.int .i64 a0, .int .u64 t210, .int .u64 t216] ?_; (with_reducible refine (order_Cmp.calls a0 t210 t216 t220 none _ A28.out).mono ?_); rintro e w' ⟨rfl, ⟨nd, rfl⟩⟩; refine ⟨_, rfl, ?_⟩; (try simp only [errW_none, errW_some])))
                                    go_ret
                                    exact ⟨eR3, bR3 HB.out⟩
                                · rw [if_neg c33] at H
                                  have c33b0 : (q228 == 9) = false := beq_eq_false_iff_ne.mpr c33
                                  have c33b1 : (q228 != 9) = true := bne_iff_ne.mpr c33
                                  obtain rfl := Option.some.inj H
                                  as_aux_lemma =>
                                    go_wp2_with (first | ((with_reducible refine gC (f := 9) rfl ?_); (with_reducible refine gD (N := 134) rfl ?_); refine goesY_ (some 134) Try.func9 #[.int .i64 a0, .int .u64 a1, .int .u64 a2] ?_; (with_reducible refine (order_Min.calls a0 a1 a2 t208 none _ A22.out).mono ?_); rintro e w' ⟨rfl, ⟨nd, rfl⟩⟩; refine ⟨_, rfl, ?_⟩; (try simp only [errW_none, errW_some])) | ((with_reducible refine gC (f := 10) rfl ?_); (with_reducible refine gD (N := 141) rfl ?_); refine goesY_ (some 141) Try.func10 #[.int .i64 a0, .int .u64 a1, .int .u64 a2] ?_; (with_reducible refine (order_Max.calls a0 a1 a2 t210 none _ A23.out).mono ?_); rintro e w' ⟨rfl, ⟨nd, rfl⟩⟩; refine ⟨_, rfl, ?_⟩; (try simp only [errW_none, errW_some])) | ((with_reducible refine gC (f := 7) rfl ?_); (with_reducible refine gD (N := 148) rfl ?_); refine goesY_ (some 148) Try.func7 #[.int .i64 a0, .int .u64 t208, .int .u64 t210] ?_; (with_reducible refine (order_Steps.calls a0 t208 t210 t212 none _ A24.out).mono ?_); rintro e w' ⟨rfl, ⟨nd, rfl⟩⟩; refine ⟨_, rfl, ?_⟩; (try simp only [errW_none, errW_some])) | ((with_reducible refine gC (f := 7) rfl ?_); (with_reducible refine gD (N := 155) rfl ?_); refine goesY_ (some 155) Try.func7 #[.int .i64 a0, .int .u64 a2, .int .u64 a1] ?_; (with_reducible refine (order_Steps.calls a0 a2 a1 t214 none _ A25.out).mono ?_); rintro e w' ⟨rfl, ⟨nd, rfl⟩⟩; refine ⟨_, rfl, ?_⟩; (try simp only [errW_none, errW_some])) | ((with_reducible refine gC (f := 11) rfl ?_); (with_reducible refine gD (N := 163) rfl ?_); refine goesY_ (some 163) Try.func11 #[.int .i64 a0, .int .u64 t192, .int .u64 t208, .int .u64 t210] ?_; (with_reducible refine (order_Clamp.calls kj17 a0 t192 t208 t210 t216 (some q228) _ A26.out).mono ?_); rintro e w35 ⟨rfl, hb⟩; refine ⟨_, rfl, ?_⟩; have n0_ := Aside0.mk (bS3 HB.out hb); clear HB; have HB := n0_; clear n0_; (try clear hb); (try clear hb2); (try clear hk); (try clear hi); (try simp only [errW_none, errW_some])) | ((with_reducible refine gC (f := 8) rfl ?_); (with_reducible refine gD (N := 170) rfl ?_); refine goesY_ (some 170) Try.func8 #[.int .i64 a0, .int .u64 t216, .int .u64 t208] ?_; (with_reducible refine (order_Cmp.calls a0 t216 t208 t218 none _ A27.out).mono ?_); rintro e w' ⟨rfl, ⟨nd, rfl⟩⟩; refine ⟨_, rfl, ?_⟩; (try simp only [errW_none, errW_some])) | ((with_reducible refine gC (f := 8) rfl ?_); (with_reducible refine gD (N := 177) rfl ?_); refine goesY_ (some 177) Try.func8 #[.int .i64 a0, .int .u64 t210, .int .u64 t216] ?_; (with_reducible refine (order_Cmp.calls a0 t210 t216 t220 none _ A28.out).mono ?_); rintro e w' ⟨rfl, ⟨nd, rfl⟩⟩; refine ⟨_, rfl, ?_⟩; (try simp only [errW_none, errW_some])))
                                    go_ret
                                    exact ⟨eR3, bR3 HB.out⟩
                            · rw [if_neg c29] at H
                              have c29b0 : (t212 == t214) = false := beq_eq_false_iff_ne.mpr c29
                              have c29b1 : (t212 != t214) = true := bne_iff_ne.mpr c29
                              obtain rfl := Option.some.inj H
                              as_aux_lemma =>
                                go_wp2_with (first | ((with_reducible refine gC (f := 9) rfl ?_); (with_reducible refine gD (N := 134) rfl ?_); refine goesY_ (some 134) Try.func9 #[.int .i64 a0, .int .u64 a1, .int .u64 a2] ?_; (with_reducible refine (order_Min.calls a0 a1 a2 t208 none _ A22.out).mono ?_); rintro e w' ⟨rfl, ⟨nd, rfl⟩⟩; refine ⟨_, rfl, ?_⟩; (try simp only [errW_none, errW_some])) | ((with_reducible refine gC (f := 10) rfl ?_); (with_reducible refine gD (N := 141) rfl ?_); refine goesY_ (some 141) Try.func10 #[.int .i64 a0, .int .u64 a1, .int .u64 a2] ?_; (with_reducible refine (order_Max.calls a0 a1 a2 t210 none _ A23.out).mono ?_); rintro e w' ⟨rfl, ⟨nd, rfl⟩⟩; refine ⟨_, rfl, ?_⟩; (try simp only [errW_none, errW_some])) | ((with_reducible refine gC (f := 7) rfl ?_); (with_reducible refine gD (N := 148) rfl ?_); refine goesY_ (some 148) Try.func7 #[.int .i64 a0, .int .u64 t208, .int .u64 t210] ?_; (with_reducible refine (order_Steps.calls a0 t208 t210 t212 none _ A24.out).mono ?_); rintro e w' ⟨rfl, ⟨nd, rfl⟩⟩; refine ⟨_, rfl, ?_⟩; (try simp only [errW_none, errW_some])) | ((with_reducible refine gC (f := 7) rfl ?_); (with_reducible refine gD (N := 155) rfl ?_); refine goesY_ (some 155) Try.func7 #[.int .i64 a0, .int .u64 a2, .int .u64 a1] ?_; (with_reducible refine (order_Steps.calls a0 a2 a1 t214 none _ A25.out).mono ?_); rintro e w' ⟨rfl, ⟨nd, rfl⟩⟩; refine ⟨_, rfl, ?_⟩; (try simp only [errW_none, errW_some])) | ((with_reducible refine gC (f := 11) rfl ?_); (with_reducible refine gD (N := 163) rfl ?_); refine goesY_ (some 163) Try.func11 #[.int .i64 a0, .int .u64 t192, .int .u64 t208, .int .u64 t210] ?_; (with_reducible refine (order_Clamp.calls kj17 a0 t192 t208 t210 t216 t217 _ A26.out).mono ?_); rintro e w36 ⟨rfl, hb⟩; refine ⟨_, rfl, ?_⟩; have n0_ := Aside0.mk (bS3 HB.out hb); clear HB; have HB := n0_; clear n0_; (try clear hb); (try clear hb2); (try clear hk); (try clear hi); (try simp only [errW_none, errW_some])) | ((with_reducible refine gC (f := 8) rfl ?_); (with_reducible refine gD (N := 170) rfl ?_); refine goesY_ (some 170) Try.func8 #[.int .i64 a0, .int .u64 t216, .int .u64 t208] ?_; (with_reducible refine (order_Cmp.calls a0 t216 t208 t218 none _ A27.out).mono ?_); rintro e w' ⟨rfl, ⟨nd, rfl⟩⟩; refine ⟨_, rfl, ?_⟩; (try simp only [errW_none, errW_some])) | ((with_reducible refine gC (f := 8) rfl ?_); (with_reducible refine gD (N := 177) rfl ?_); refine goesY_ (some 177) Try.func8 #[.int .i64 a0, .int .u64 t210, .int .u64 t216] ?_; (with_reducible refine (order_Cmp.calls a0 t210 t216 t220 none _ A28.out).mono ?_); rintro e w' ⟨rfl, ⟨nd, rfl⟩⟩; refine ⟨_, rfl, ?_⟩; (try simp only [errW_none, errW_some])))
                                go_ret
                                exact ⟨eR3, bR3 HB.out⟩
                          · rw [if_neg (show ¬ (some q227).isNone = true by simp)] at H
                            try simp only [Option.getD_some] at H
                            try simp only [errW_none, errW_some]
                            obtain rfl := Option.some.inj H
                            as_aux_lemma =>
                              go_wp2_with (first | ((with_reducible refine gC (f := 9) rfl ?_); (with_reducible refine gD (N := 134) rfl ?_); refine goesY_ (some 134) Try.func9 #[.int .i64 a0, .int .u64 a1, .int .u64 a2] ?_; (with_reducible refine (order_Min.calls a0 a1 a2 t208 none _ A22.out).mono ?_); rintro e w' ⟨rfl, ⟨nd, rfl⟩⟩; refine ⟨_, rfl, ?_⟩; (try simp only [errW_none, errW_some])) | ((with_reducible refine gC (f := 10) rfl ?_); (with_reducible refine gD (N := 141) rfl ?_); refine goesY_ (some 141) Try.func10 #[.int .i64 a0, .int .u64 a1, .int .u64 a2] ?_; (with_reducible refine (order_Max.calls a0 a1 a2 t210 none _ A23.out).mono ?_); rintro e w' ⟨rfl, ⟨nd, rfl⟩⟩; refine ⟨_, rfl, ?_⟩; (try simp only [errW_none, errW_some])) | ((with_reducible refine gC (f := 7) rfl ?_); (with_reducible refine gD (N := 148) rfl ?_); refine goesY_ (some 148) Try.func7 #[.int .i64 a0, .int .u64 t208, .int .u64 t210] ?_; (with_reducible refine (order_Steps.calls a0 t208 t210 t212 none _ A24.out).mono ?_); rintro e w' ⟨rfl, ⟨nd, rfl⟩⟩; refine ⟨_, rfl, ?_⟩; (try simp only [errW_none, errW_some])) | ((with_reducible refine gC (f := 7) rfl ?_); (with_reducible refine gD (N := 155) rfl ?_); refine goesY_ (some 155) Try.func7 #[.int .i64 a0, .int .u64 a2, .int .u64 a1] ?_; (with_reducible refine (order_Steps.calls a0 a2 a1 t214 none _ A25.out).mono ?_); rintro e w' ⟨rfl, ⟨nd, rfl⟩⟩; refine ⟨_, rfl, ?_⟩; (try simp only [errW_none, errW_some])) | ((with_reducible refine gC (f := 11) rfl ?_); (with_reducible refine gD (N := 163) rfl ?_); refine goesY_ (some 163) Try.func11 #[.int .i64 a0, .int .u64 t192, .int .u64 t208, .int .u64 t210] ?_; (with_reducible refine (order_Clamp.calls kj17 a0 t192 t208 t210 t216 t217 _ A26.out).mono ?_); rintro e w37 ⟨rfl, hb⟩; refine ⟨_, rfl, ?_⟩; have n0_ := Aside0.mk (bS3 HB.out hb); clear HB; have HB := n0_; clear n0_; (try clear hb); (try clear hb2); (try clear hk); (try clear hi); (try simp only [errW_none, errW_some])) | ((with_reducible refine gC (f := 8) rfl ?_); (with_reducible refine gD (N := 170) rfl ?_); refine goesY_ (some 170) Try.func8 #[.int .i64 a0, .int .u64 t216, .int .u64 t208] ?_; (with_reducible refine (order_Cmp.calls a0 t216 t208 t218 none _ A27.out).mono ?_); rintro e w' ⟨rfl, ⟨nd, rfl⟩⟩; refine ⟨_, rfl, ?_⟩; (try simp only [errW_none, errW_some])) | ((with_reducible refine gC (f := 8) rfl ?_); (with_reducible refine gD (N := 177) rfl ?_); refine goesY_ (some 177) Try.func8 #[.int .i64 a0, .int .u64 t210, .int .u64 t216] ?_; (with_reducible refine (order_Cmp.calls a0 t210 t216 t220 (some q227) _ A28.out).mono ?_); rintro e w' ⟨rfl, ⟨nd, rfl⟩⟩; refine ⟨_, rfl, ?_⟩; (try simp only [errW_none, errW_some])))
                              go_ret
                              exact ⟨eR3, bR3 HB.out⟩
                        · rw [if_neg (show ¬ (some q226).isNone = true by simp)] at H
                          try simp only [Option.getD_some] at H
                          try simp only [errW_none, errW_some]
                          obtain rfl := Option.some.inj H
                          as_aux_lemma =>
                            go_wp2_with (first | ((with_reducible refine gC (f := 9) rfl ?_); (with_reducible refine gD (N := 134) rfl ?_); refine goesY_ (some 134) Try.func9 #[.int .i64 a0, .int .u64 a1, .int .u64 a2] ?_; (with_reducible refine (order_Min.calls a0 a1 a2 t208 none _ A22.out).mono ?_); rintro e w' ⟨rfl, ⟨nd, rfl⟩⟩; refine ⟨_, rfl, ?_⟩; (try simp only [errW_none, errW_some])) | ((with_reducible refine gC (f := 10) rfl ?_); (with_reducible refine gD (N := 141) rfl ?_); refine goesY_ (some 141) Try.func10 #[.int .i64 a0, .int .u64 a1, .int .u64 a2] ?_; (with_reducible refine (order_Max.calls a0 a1 a2 t210 none _ A23.out).mono ?_); rintro e w' ⟨rfl, ⟨nd, rfl⟩⟩; refine ⟨_, rfl, ?_⟩; (try simp only [errW_none, errW_some])) | ((with_reducible refine gC (f := 7) rfl ?_); (with_reducible refine gD (N := 148) rfl ?_); refine goesY_ (some 148) Try.func7 #[.int .i64 a0, .int .u64 t208, .int .u64 t210] ?_; (with_reducible refine (order_Steps.calls a0 t208 t210 t212 none _ A24.out).mono ?_); rintro e w' ⟨rfl, ⟨nd, rfl⟩⟩; refine ⟨_, rfl, ?_⟩; (try simp only [errW_none, errW_some])) | ((with_reducible refine gC (f := 7) rfl ?_); (with_reducible refine gD (N := 155) rfl ?_); refine goesY_ (some 155) Try.func7 #[.int .i64 a0, .int .u64 a2, .int .u64 a1] ?_; (with_reducible refine (order_Steps.calls a0 a2 a1 t214 none _ A25.out).mono ?_); rintro e w' ⟨rfl, ⟨nd, rfl⟩⟩; refine ⟨_, rfl, ?_⟩; (try simp only [errW_none, errW_some])) | ((with_reducible refine gC (f := 11) rfl ?_); (with_reducible refine gD (N := 163) rfl ?_); refine goesY_ (some 163) Try.func11 #[.int .i64 a0, .int .u64 t192, .int .u64 t208, .int .u64 t210] ?_; (with_reducible refine (order_Clamp.calls kj17 a0 t192 t208 t210 t216 t217 _ A26.out).mono ?_); rintro e w38 ⟨rfl, hb⟩; refine ⟨_, rfl, ?_⟩; have n0_ := Aside0.mk (bS3 HB.out hb); clear HB; have HB := n0_; clear n0_; (try clear hb); (try clear hb2); (try clear hk); (try clear hi); (try simp only [errW_none, errW_some])) | ((with_reducible refine gC (f := 8) rfl ?_); (with_reducible refine gD (N := 170) rfl ?_); refine goesY_ (some 170) Try.func8 #[.int .i64 a0, .int .u64 t216, .int .u64 t208] ?_; (with_reducible refine (order_Cmp.calls a0 t216 t208 t218 (some q226) _ A27.out).mono ?_); rintro e w' ⟨rfl, ⟨nd, rfl⟩⟩; refine ⟨_, rfl, ?_⟩; (try simp only [errW_none, errW_some])) | ((with_reducible refine gC (f := 8) rfl ?_); (with_reducible refine gD (N := 177) rfl ?_); refine goesY_ (some 177) Try.func8 #[.int .i64 a0, .int .u64 t210, .int .u64 t216] ?_; (with_reducible refine (order_Cmp.calls a0 t210 t216 t220 t221 _ A28.out).mono ?_); rintro e w' ⟨rfl, ⟨nd, rfl⟩⟩; refine ⟨_, rfl, ?_⟩; (try simp only [errW_none, errW_some])))
                            go_ret
                            exact ⟨eR3, bR3 HB.out⟩
                      · rw [if_neg (show ¬ (some q225).isNone = true by simp)] at H
                        try simp only [Option.getD_some] at H
                        try simp only [errW_none, errW_some]
                        obtain rfl := Option.some.inj H
                        as_aux_lemma =>
                          go_wp2_with (first | ((with_reducible refine gC (f := 9) rfl ?_); (with_reducible refine gD (N := 134) rfl ?_); refine goesY_ (some 134) Try.func9 #[.int .i64 a0, .int .u64 a1, .int .u64 a2] ?_; (with_reducible refine (order_Min.calls a0 a1 a2 t208 none _ A22.out).mono ?_); rintro e w' ⟨rfl, ⟨nd, rfl⟩⟩; refine ⟨_, rfl, ?_⟩; (try simp only [errW_none, errW_some])) | ((with_reducible refine gC (f := 10) rfl ?_); (with_reducible refine gD (N := 141) rfl ?_); refine goesY_ (some 141) Try.func10 #[.int .i64 a0, .int .u64 a1, .int .u64 a2] ?_; (with_reducible refine (order_Max.calls a0 a1 a2 t210 none _ A23.out).mono ?_); rintro e w' ⟨rfl, ⟨nd, rfl⟩⟩; refine ⟨_, rfl, ?_⟩; (try simp only [errW_none, errW_some])) | ((with_reducible refine gC (f := 7) rfl ?_); (with_reducible refine gD (N := 148) rfl ?_); refine goesY_ (some 148) Try.func7 #[.int .i64 a0, .int .u64 t208, .int .u64 t210] ?_; (with_reducible refine (order_Steps.calls a0 t208 t210 t212 none _ A24.out).mono ?_); rintro e w' ⟨rfl, ⟨nd, rfl⟩⟩; refine ⟨_, rfl, ?_⟩; (try simp only [errW_none, errW_some])) | ((with_reducible refine gC (f := 7) rfl ?_); (with_reducible refine gD (N := 155) rfl ?_); refine goesY_ (some 155) Try.func7 #[.int .i64 a0, .int .u64 a2, .int .u64 a1] ?_; (with_reducible refine (order_Steps.calls a0 a2 a1 t214 (some q225) _ A25.out).mono ?_); rintro e w' ⟨rfl, ⟨nd, rfl⟩⟩; refine ⟨_, rfl, ?_⟩; (try simp only [errW_none, errW_some])) | ((with_reducible refine gC (f := 11) rfl ?_); (with_reducible refine gD (N := 163) rfl ?_); refine goesY_ (some 163) Try.func11 #[.int .i64 a0, .int .u64 t192, .int .u64 t208, .int .u64 t210] ?_; (with_reducible refine (order_Clamp.calls kj17 a0 t192 t208 t210 t216 t217 _ A26.out).mono ?_); rintro e w39 ⟨rfl, hb⟩; refine ⟨_, rfl, ?_⟩; have n0_ := Aside0.mk (bS3 HB.out hb); clear HB; have HB := n0_; clear n0_; (try clear hb); (try clear hb2); (try clear hk); (try clear hi); (try simp only [errW_none, errW_some])) | ((with_reducible refine gC (f := 8) rfl ?_); (with_reducible refine gD (N := 170) rfl ?_); refine goesY_ (some 170) Try.func8 #[.int .i64 a0, .int .u64 t216, .int .u64 t208] ?_; (with_reducible refine (order_Cmp.calls a0 t216 t208 t218 t219 _ A27.out).mono ?_); rintro e w' ⟨rfl, ⟨nd, rfl⟩⟩; refine ⟨_, rfl, ?_⟩; (try simp only [errW_none, errW_some])) | ((with_reducible refine gC (f := 8) rfl ?_); (with_reducible refine gD (N := 177) rfl ?_); refine goesY_ (some 177) Try.func8 #[.int .i64 a0, .int .u64 t210, .int .u64 t216] ?_; (with_reducible refine (order_Cmp.calls a0 t210 t216 t220 t221 _ A28.out).mono ?_); rintro e w' ⟨rfl, ⟨nd, rfl⟩⟩; refine ⟨_, rfl, ?_⟩; (try simp only [errW_none, errW_some])))
                          go_ret
                          exact ⟨eR3, bR3 HB.out⟩
                    · rw [if_neg (show ¬ (some q224).isNone = true by simp)] at H
                      try simp only [Option.getD_some] at H
                      try simp only [errW_none, errW_some]
                      obtain rfl := Option.some.inj H
                      as_aux_lemma =>
                        go_wp2_with (first | ((with_reducible refine gC (f := 9) rfl ?_); (with_reducible refine gD (N := 134) rfl ?_); refine goesY_ (some 134) Try.func9 #[.int .i64 a0, .int .u64 a1, .int .u64 a2] ?_; (with_reducible refine (order_Min.calls a0 a1 a2 t208 none _ A22.out).mono ?_); rintro e w' ⟨rfl, ⟨nd, rfl⟩⟩; refine ⟨_, rfl, ?_⟩; (try simp only [errW_none, errW_some])) | ((with_reducible refine gC (f := 10) rfl ?_); (with_reducible refine gD (N := 141) rfl ?_); refine goesY_ (some 141) Try.func10 #[.int .i64 a0, .int .u64 a1, .int .u64 a2] ?_; (with_reducible refine (order_Max.calls a0 a1 a2 t210 none _ A23.out).mono ?_); rintro e w' ⟨rfl, ⟨nd, rfl⟩⟩; refine ⟨_, rfl, ?_⟩; (try simp only [errW_none, errW_some])) | ((with_reducible refine gC (f := 7) rfl ?_); (with_reducible refine gD (N := 148) rfl ?_); refine goesY_ (some 148) Try.func7 #[.int .i64 a0, .int .u64 t208, .int .u64 t210] ?_; (with_reducible refine (order_Steps.calls a0 t208 t210 t212 (some q224) _ A24.out).mono ?_); rintro e w' ⟨rfl, ⟨nd, rfl⟩⟩; refine ⟨_, rfl, ?_⟩; (try simp only [errW_none, errW_some])) | ((with_reducible refine gC (f := 7) rfl ?_); (with_reducible refine gD (N := 155) rfl ?_); refine goesY_ (some 155) Try.func7 #[.int .i64 a0, .int .u64 a2, .int .u64 a1] ?_; (with_reducible refine (order_Steps.calls a0 a2 a1 t214 t215 _ A25.out).mono ?_); rintro e w' ⟨rfl, ⟨nd, rfl⟩⟩; refine ⟨_, rfl, ?_⟩; (try simp only [errW_none, errW_some])) | ((with_reducible refine gC (f := 11) rfl ?_); (with_reducible refine gD (N := 163) rfl ?_); refine goesY_ (some 163) Try.func11 #[.int .i64 a0, .int .u64 t192, .int .u64 t208, .int .u64 t210] ?_; (with_reducible refine (order_Clamp.calls kj17 a0 t192 t208 t210 t216 t217 _ A26.out).mono ?_); rintro e w40 ⟨rfl, hb⟩; refine ⟨_, rfl, ?_⟩; have n0_ := Aside0.mk (bS3 HB.out hb); clear HB; have HB := n0_; clear n0_; (try clear hb); (try clear hb2); (try clear hk); (try clear hi); (try simp only [errW_none, errW_some])) | ((with_reducible refine gC (f := 8) rfl ?_); (with_reducible refine gD (N := 170) rfl ?_); refine goesY_ (some 170) Try.func8 #[.int .i64 a0, .int .u64 t216, .int .u64 t208] ?_; (with_reducible refine (order_Cmp.calls a0 t216 t208 t218 t219 _ A27.out).mono ?_); rintro e w' ⟨rfl, ⟨nd, rfl⟩⟩; refine ⟨_, rfl, ?_⟩; (try simp only [errW_none, errW_some])) | ((with_reducible refine gC (f := 8) rfl ?_); (with_reducible refine gD (N := 177) rfl ?_); refine goesY_ (some 177) Try.func8 #[.int .i64 a0, .int .u64 t210, .int .u64 t216] ?_; (with_reducible refine (order_Cmp.calls a0 t210 t216 t220 t221 _ A28.out).mono ?_); rintro e w' ⟨rfl, ⟨nd, rfl⟩⟩; refine ⟨_, rfl, ?_⟩; (try simp only [errW_none, errW_some])))
                        go_ret
                        exact ⟨eR3, bR3 HB.out⟩
                  · rw [if_neg (show ¬ (some q223).isNone = true by simp)] at H
                    try simp only [Option.getD_some] at H
                    try simp only [errW_none, errW_some]
                    obtain rfl := Option.some.inj H
                    as_aux_lemma =>
                      go_wp2_with (first | ((with_reducible refine gC (f := 9) rfl ?_); (with_reducible refine gD (N := 134) rfl ?_); refine goesY_ (some 134) Try.func9 #[.int .i64 a0, .int .u64 a1, .int .u64 a2] ?_; (with_reducible refine (order_Min.calls a0 a1 a2 t208 none _ A22.out).mono ?_); rintro e w' ⟨rfl, ⟨nd, rfl⟩⟩; refine ⟨_, rfl, ?_⟩; (try simp only [errW_none, errW_some])) | ((with_reducible refine gC (f := 10) rfl ?_); (with_reducible refine gD (N := 141) rfl ?_); refine goesY_ (some 141) Try.func10 #[.int .i64 a0, .int .u64 a1, .int .u64 a2] ?_; (with_reducible refine (order_Max.calls a0 a1 a2 t210 (some q223) _ A23.out).mono ?_); rintro e w' ⟨rfl, ⟨nd, rfl⟩⟩; refine ⟨_, rfl, ?_⟩; (try simp only [errW_none, errW_some])) | ((with_reducible refine gC (f := 7) rfl ?_); (with_reducible refine gD (N := 148) rfl ?_); refine goesY_ (some 148) Try.func7 #[.int .i64 a0, .int .u64 t208, .int .u64 t210] ?_; (with_reducible refine (order_Steps.calls a0 t208 t210 t212 t213 _ A24.out).mono ?_); rintro e w' ⟨rfl, ⟨nd, rfl⟩⟩; refine ⟨_, rfl, ?_⟩; (try simp only [errW_none, errW_some])) | ((with_reducible refine gC (f := 7) rfl ?_); (with_reducible refine gD (N := 155) rfl ?_); refine goesY_ (some 155) Try.func7 #[.int .i64 a0, .int .u64 a2, .int .u64 a1] ?_; (with_reducible refine (order_Steps.calls a0 a2 a1 t214 t215 _ A25.out).mono ?_); rintro e w' ⟨rfl, ⟨nd, rfl⟩⟩; refine ⟨_, rfl, ?_⟩; (try simp only [errW_none, errW_some])) | ((with_reducible refine gC (f := 11) rfl ?_); (with_reducible refine gD (N := 163) rfl ?_); refine goesY_ (some 163) Try.func11 #[.int .i64 a0, .int .u64 t192, .int .u64 t208, .int .u64 t210] ?_; (with_reducible refine (order_Clamp.calls kj17 a0 t192 t208 t210 t216 t217 _ A26.out).mono ?_); rintro e w41 ⟨rfl, hb⟩; refine ⟨_, rfl, ?_⟩; have n0_ := Aside0.mk (bS3 HB.out hb); clear HB; have HB := n0_; clear n0_; (try clear hb); (try clear hb2); (try clear hk); (try clear hi); (try simp only [errW_none, errW_some])) | ((with_reducible refine gC (f := 8) rfl ?_); (with_reducible refine gD (N := 170) rfl ?_); refine goesY_ (some 170) Try.func8 #[.int .i64 a0, .int .u64 t216, .int .u64 t208] ?_; (with_reducible refine (order_Cmp.calls a0 t216 t208 t218 t219 _ A27.out).mono ?_); rintro e w' ⟨rfl, ⟨nd, rfl⟩⟩; refine ⟨_, rfl, ?_⟩; (try simp only [errW_none, errW_some])) | ((with_reducible refine gC (f := 8) rfl ?_); (with_reducible refine gD (N := 177) rfl ?_); refine goesY_ (some 177) Try.func8 #[.int .i64 a0, .int .u64 t210, .int .u64 t216] ?_; (with_reducible refine (order_Cmp.calls a0 t210 t216 t220 t221 _ A28.out).mono ?_); rintro e w' ⟨rfl, ⟨nd, rfl⟩⟩; refine ⟨_, rfl, ?_⟩; (try simp only [errW_none, errW_some])))
                      go_ret
                      exact ⟨eR3, bR3 HB.out⟩
                · rw [if_neg (show ¬ (some q222).isNone = true by simp)] at H
                  try simp only [Option.getD_some] at H
                  try simp only [errW_none, errW_some]
                  obtain rfl := Option.some.inj H
                  as_aux_lemma =>
                    go_wp2_with (first | ((with_reducible refine gC (f := 9) rfl ?_); (with_reducible refine gD (N := 134) rfl ?_); refine goesY_ (some 134) Try.func9 #[.int .i64 a0, .int .u64 a1, .int .u64 a2] ?_; (with_reducible refine (order_Min.calls a0 a1 a2 t208 (some q222) _ A22.out).mono ?_); rintro e w' ⟨rfl, ⟨nd, rfl⟩⟩; refine ⟨_, rfl, ?_⟩; (try simp only [errW_none, errW_some])) | ((with_reducible refine gC (f := 10) rfl ?_); (with_reducible refine gD (N := 141) rfl ?_); refine goesY_ (some 141) Try.func10 #[.int .i64 a0, .int .u64 a1, .int .u64 a2] ?_; (with_reducible refine (order_Max.calls a0 a1 a2 t210 t211 _ A23.out).mono ?_); rintro e w' ⟨rfl, ⟨nd, rfl⟩⟩; refine ⟨_, rfl, ?_⟩; (try simp only [errW_none, errW_some])) | ((with_reducible refine gC (f := 7) rfl ?_); (with_reducible refine gD (N := 148) rfl ?_); refine goesY_ (some 148) Try.func7 #[.int .i64 a0, .int .u64 t208, .int .u64 t210] ?_; (with_reducible refine (order_Steps.calls a0 t208 t210 t212 t213 _ A24.out).mono ?_); rintro e w' ⟨rfl, ⟨nd, rfl⟩⟩; refine ⟨_, rfl, ?_⟩; (try simp only [errW_none, errW_some])) | ((with_reducible refine gC (f := 7) rfl ?_); (with_reducible refine gD (N := 155) rfl ?_); refine goesY_ (some 155) Try.func7 #[.int .i64 a0, .int .u64 a2, .int .u64 a1] ?_; (with_reducible refine (order_Steps.calls a0 a2 a1 t214 t215 _ A25.out).mono ?_); rintro e w' ⟨rfl, ⟨nd, rfl⟩⟩; refine ⟨_, rfl, ?_⟩; (try simp only [errW_none, errW_some])) | ((with_reducible refine gC (f := 11) rfl ?_); (with_reducible refine gD (N := 163) rfl ?_); refine goesY_ (some 163) Try.func11 #[.int .i64 a0, .int .u64 t192, .int .u64 t208, .int .u64 t210] ?_; (with_reducible refine (order_Clamp.calls kj17 a0 t192 t208 t210 t216 t217 _ A26.out).mono ?_); rintro e w42 ⟨rfl, hb⟩; refine ⟨_, rfl, ?_⟩; have n0_ := Aside0.mk (bS3 HB.out hb); clear HB; have HB := n0_; clear n0_; (try clear hb); (try clear hb2); (try clear hk); (try clear hi); (try simp only [errW_none, errW_some])) | ((with_reducible refine gC (f := 8) rfl ?_); (with_reducible refine gD (N := 170) rfl ?_); refine goesY_ (some 170) Try.func8 #[.int .i64 a0, .int .u64 t216, .int .u64 t208] ?_; (with_reducible refine (order_Cmp.calls a0 t216 t208 t218 t219 _ A27.out).mono ?_); rintro e w' ⟨rfl, ⟨nd, rfl⟩⟩; refine ⟨_, rfl, ?_⟩; (try simp only [errW_none, errW_some])) | ((with_reducible refine gC (f := 8) rfl ?_); (with_reducible refine gD (N := 177) rfl ?_); refine goesY_ (some 177) Try.func8 #[.int .i64 a0, .int .u64 t210, .int .u64 t216] ?_; (with_reducible refine (order_Cmp.calls a0 t210 t216 t220 t221 _ A28.out).mono ?_); rintro e w' ⟨rfl, ⟨nd, rfl⟩⟩; refine ⟨_, rfl, ?_⟩; (try simp only [errW_none, errW_some])))
                    go_ret
                    exact ⟨eR3, bR3 HB.out⟩
  · rw [if_neg (show ¬ (some q198).isNone = true by simp)] at H
    try simp only [Option.getD_some] at H
    try simp only [errW_none, errW_some]
    by_cases c43 : t191 = true
    · subst c43
      rw [if_pos rfl] at H
      rcases t195 with _ | q229
      · rw [if_pos (show (none : Option Int).isNone = true by rfl)] at H
        try simp only [Option.getD_some] at H
        try simp only [errW_none, errW_some]
        obtain rfl := Option.some.inj H
        go_enter Try.func3, Try.ntmps3
        as_aux_lemma =>
          go_wp2_with (first | ((with_reducible refine gC (f := 4) rfl ?_); (with_reducible refine gD (N := 32) rfl ?_); refine goesY_ (some 32) Try.func4 #[] ?_; (with_reducible refine (vernierlaw08_up.calls  true _ A4.out).mono ?_); rintro e w44 ⟨rfl, hb⟩; refine ⟨_, rfl, ?_⟩; have n0_ := Aside0.mk (bS3 HB.out hb); clear HB; have HB := n0_; clear n0_; (try clear hb); (try clear hb2); (try clear hk); (try clear hi)) | ((with_reducible refine gC (f := 5) rfl ?_); (with_reducible refine gD (N := 36) rfl ?_); refine goesY_ (some 36) Try.func5 #[.int .i64 a0, .int .u64 a1] ?_; (with_reducible refine (order_Next.calls a0 a1 t192 (some q198) _ A5.out).mono ?_); rintro e w45 ⟨rfl, hb⟩; refine ⟨_, rfl, ?_⟩; have n0_ := Aside0.mk (bS3 HB.out hb); clear HB; have HB := n0_; clear n0_; (try clear hb); (try clear hb2); (try clear hk); (try clear hi); (try simp only [errW_none, errW_some])) | ((with_reducible refine gC (f := 6) rfl ?_); (with_reducible refine gD (N := 42) rfl ?_); refine goesY_ (some 42) Try.func6 #[.int .i64 a0, .int .u64 t192] ?_; (with_reducible refine (order_Prev.calls a0 t192 t194 none _ A6.out).mono ?_); rintro e w46 ⟨rfl, hb⟩; refine ⟨_, rfl, ?_⟩; have n0_ := Aside0.mk (bS3 HB.out hb); clear HB; have HB := n0_; clear n0_; (try clear hb); (try clear hb2); (try clear hk); (try clear hi); (try simp only [errW_none, errW_some])) | ((with_reducible refine gC (f := 7) rfl ?_); (with_reducible refine gD (N := 49) rfl ?_); refine goesY_ (some 49) Try.func7 #[.int .i64 a0, .int .u64 a1, .int .u64 t192] ?_; (with_reducible refine (order_Steps.calls a0 a1 t192 t196 t197 _ A7.out).mono ?_); rintro e w' ⟨rfl, ⟨nd, rfl⟩⟩; refine ⟨_, rfl, ?_⟩; (try simp only [errW_none, errW_some])))
          go_ret
          exact ⟨eR3, bR3 HB.out⟩
      · rw [if_neg (show ¬ (some q229).isNone = true by simp)] at H
        try simp only [Option.getD_some] at H
        try simp only [errW_none, errW_some]
        by_cases c47 : q229 = 2
        · rw [if_pos c47] at H
          have c47b0 : (q229 == 2) = true := beq_iff_eq.mpr c47
          have c47b1 : (q229 != 2) = false := bne_eq_false_iff_eq.mpr c47
          clear c47
          rcases t197 with _ | q230
          · rw [if_pos (show (none : Option Int).isNone = true by rfl)] at H
            try simp only [Option.getD_some] at H
            try simp only [errW_none, errW_some]
            obtain rfl := Option.some.inj H
            go_enter Try.func3, Try.ntmps3
            as_aux_lemma =>
              go_wp2_with (first | ((with_reducible refine gC (f := 4) rfl ?_); (with_reducible refine gD (N := 32) rfl ?_); refine goesY_ (some 32) Try.func4 #[] ?_; (with_reducible refine (vernierlaw08_up.calls  true _ A4.out).mono ?_); rintro e w48 ⟨rfl, hb⟩; refine ⟨_, rfl, ?_⟩; have n0_ := Aside0.mk (bS3 HB.out hb); clear HB; have HB := n0_; clear n0_; (try clear hb); (try clear hb2); (try clear hk); (try clear hi)) | ((with_reducible refine gC (f := 5) rfl ?_); (with_reducible refine gD (N := 36) rfl ?_); refine goesY_ (some 36) Try.func5 #[.int .i64 a0, .int .u64 a1] ?_; (with_reducible refine (order_Next.calls a0 a1 t192 (some q198) _ A5.out).mono ?_); rintro e w49 ⟨rfl, hb⟩; refine ⟨_, rfl, ?_⟩; have n0_ := Aside0.mk (bS3 HB.out hb); clear HB; have HB := n0_; clear n0_; (try clear hb); (try clear hb2); (try clear hk); (try clear hi); (try simp only [errW_none, errW_some])) | ((with_reducible refine gC (f := 6) rfl ?_); (with_reducible refine gD (N := 42) rfl ?_); refine goesY_ (some 42) Try.func6 #[.int .i64 a0, .int .u64 t192] ?_; (with_reducible refine (order_Prev.calls a0 t192 t194 (some q229) _ A6.out).mono ?_); rintro e w50 ⟨rfl, hb⟩; refine ⟨_, rfl, ?_⟩; have n0_ := Aside0.mk (bS3 HB.out hb); clear HB; have HB := n0_; clear n0_; (try clear hb); (try clear hb2); (try clear hk); (try clear hi); (try simp only [errW_none, errW_some])) | ((with_reducible refine gC (f := 7) rfl ?_); (with_reducible refine gD (N := 49) rfl ?_); refine goesY_ (some 49) Try.func7 #[.int .i64 a0, .int .u64 a1, .int .u64 t192] ?_; (with_reducible refine (order_Steps.calls a0 a1 t192 t196 none _ A7.out).mono ?_); rintro e w' ⟨rfl, ⟨nd, rfl⟩⟩; refine ⟨_, rfl, ?_⟩; (try simp only [errW_none, errW_some])))
              go_ret
              exact ⟨eR3, bR3 HB.out⟩
          · rw [if_neg (show ¬ (some q230).isNone = true by simp)] at H
            try simp only [Option.getD_some] at H
            try simp only [errW_none, errW_some]
            by_cases c51 : q230 = 2
            · rw [if_pos c51] at H
              have c51b0 : (q230 == 2) = true := beq_iff_eq.mpr c51
              have c51b1 : (q230 != 2) = false := bne_eq_false_iff_eq.mpr c51
              clear c51
              by_cases c52 : t192 = 0
              · rw [if_pos c52] at H
                have c52b0 : (t192 == 0) = true := beq_iff_eq.mpr c52
                have c52b1 : (t192 != 0) = false := bne_eq_false_iff_eq.mpr c52
                clear c52
                by_cases c53 : t194 = 0
                · rw [if_pos c53] at H
                  have c53b0 : (t194 == 0) = true := beq_iff_eq.mpr c53
                  have c53b1 : (t194 != 0) = false := bne_eq_false_iff_eq.mpr c53
                  clear c53
                  obtain rfl := Option.some.inj H
                  go_enter Try.func3, Try.ntmps3
                  as_aux_lemma =>
                    go_wp2_with (first | ((with_reducible refine gC (f := 4) rfl ?_); (with_reducible refine gD (N := 32) rfl ?_); refine goesY_ (some 32) Try.func4 #[] ?_; (with_reducible refine (vernierlaw08_up.calls  true _ A4.out).mono ?_); rintro e w54 ⟨rfl, hb⟩; refine ⟨_, rfl, ?_⟩; have n0_ := Aside0.mk (bS3 HB.out hb); clear HB; have HB := n0_; clear n0_; (try clear hb); (try clear hb2); (try clear hk); (try clear hi)) | ((with_reducible refine gC (f := 5) rfl ?_); (with_reducible refine gD (N := 36) rfl ?_); refine goesY_ (some 36) Try.func5 #[.int .i64 a0, .int .u64 a1] ?_; (with_reducible refine (order_Next.calls a0 a1 t192 (some q198) _ A5.out).mono ?_); rintro e w55 ⟨rfl, hb⟩; refine ⟨_, rfl, ?_⟩; have n0_ := Aside0.mk (bS3 HB.out hb); clear HB; have HB := n0_; clear n0_; (try clear hb); (try clear hb2); (try clear hk); (try clear hi); (try simp only [errW_none, errW_some])) | ((with_reducible refine gC (f := 6) rfl ?_); (with_reducible refine gD (N := 42) rfl ?_); refine goesY_ (some 42) Try.func6 #[.int .i64 a0, .int .u64 t192] ?_; (with_reducible refine (order_Prev.calls a0 t192 t194 (some q229) _ A6.out).mono ?_); rintro e w56 ⟨rfl, hb⟩; refine ⟨_, rfl, ?_⟩; have n0_ := Aside0.mk (bS3 HB.out hb); clear HB; have HB := n0_; clear n0_; (try clear hb); (try clear hb2); (try clear hk); (try clear hi); (try simp only [errW_none, errW_some])) | ((with_reducible refine gC (f := 7) rfl ?_); (with_reducible refine gD (N := 49) rfl ?_); refine goesY_ (some 49) Try.func7 #[.int .i64 a0, .int .u64 a1, .int .u64 t192] ?_; (with_reducible refine (order_Steps.calls a0 a1 t192 t196 (some q230) _ A7.out).mono ?_); rintro e w' ⟨rfl, ⟨nd, rfl⟩⟩; refine ⟨_, rfl, ?_⟩; (try simp only [errW_none, errW_some])))
                    go_ret
                    exact ⟨eR3, bR3 HB.out⟩
                · rw [if_neg c53] at H
                  have c53b0 : (t194 == 0) = false := beq_eq_false_iff_ne.mpr c53
                  have c53b1 : (t194 != 0) = true := bne_iff_ne.mpr c53
                  obtain rfl := Option.some.inj H
                  go_enter Try.func3, Try.ntmps3
                  as_aux_lemma =>
                    go_wp2_with (first | ((with_reducible refine gC (f := 4) rfl ?_); (with_reducible refine gD (N := 32) rfl ?_); refine goesY_ (some 32) Try.func4 #[] ?_; (with_reducible refine (vernierlaw08_up.calls  true _ A4.out).mono ?_); rintro e w57 ⟨rfl, hb⟩; refine ⟨_, rfl, ?_⟩; have n0_ := Aside0.mk (bS3 HB.out hb); clear HB; have HB := n0_; clear n0_; (try clear hb); (try clear hb2); (try clear hk); (try clear hi)) | ((with_reducible refine gC (f := 5) rfl ?_); (with_reducible refine gD (N := 36) rfl ?_); refine goesY_ (some 36) Try.func5 #[.int .i64 a0, .int .u64 a1] ?_; (with_reducible refine (order_Next.calls a0 a1 t192 (some q198) _ A5.out).mono ?_); rintro e w58 ⟨rfl, hb⟩; refine ⟨_, rfl, ?_⟩; have n0_ := Aside0.mk (bS3 HB.out hb); clear HB; have HB := n0_; clear n0_; (try clear hb); (try clear hb2); (try clear hk); (try clear hi); (try simp only [errW_none, errW_some])) | ((with_reducible refine gC (f := 6) rfl ?_); (with_reducible refine gD (N := 42) rfl ?_); refine goesY_ (some 42) Try.func6 #[.int .i64 a0, .int .u64 t192] ?_; (with_reducible refine (order_Prev.calls a0 t192 t194 (some q229) _ A6.out).mono ?_); rintro e w59 ⟨rfl, hb⟩; refine ⟨_, rfl, ?_⟩; have n0_ := Aside0.mk (bS3 HB.out hb); clear HB; have HB := n0_; clear n0_; (try clear hb); (try clear hb2); (try clear hk); (try clear hi); (try simp only [errW_none, errW_some])) | ((with_reducible refine gC (f := 7) rfl ?_); (with_reducible refine gD (N := 49) rfl ?_); refine goesY_ (some 49) Try.func7 #[.int .i64 a0, .int .u64 a1, .int .u64 t192] ?_; (with_reducible refine (order_Steps.calls a0 a1 t192 t196 (some q230) _ A7.out).mono ?_); rintro e w' ⟨rfl, ⟨nd, rfl⟩⟩; refine ⟨_, rfl, ?_⟩; (try simp only [errW_none, errW_some])))
                    go_ret
                    exact ⟨eR3, bR3 HB.out⟩
              · rw [if_neg c52] at H
                have c52b0 : (t192 == 0) = false := beq_eq_false_iff_ne.mpr c52
                have c52b1 : (t192 != 0) = true := bne_iff_ne.mpr c52
                obtain rfl := Option.some.inj H
                go_enter Try.func3, Try.ntmps3
                as_aux_lemma =>
                  go_wp2_with (first | ((with_reducible refine gC (f := 4) rfl ?_); (with_reducible refine gD (N := 32) rfl ?_); refine goesY_ (some 32) Try.func4 #[] ?_; (with_reducible refine (vernierlaw08_up.calls  true _ A4.out).mono ?_); rintro e w60 ⟨rfl, hb⟩; refine ⟨_, rfl, ?_⟩; have n0_ := Aside0.mk (bS3 HB.out hb); clear HB; have HB := n0_; clear n0_; (try clear hb); (try clear hb2); (try clear hk); (try clear hi)) | ((with_reducible refine gC (f := 5) rfl ?_); (with_reducible refine gD (N := 36) rfl ?_); refine goesY_ (some 36) Try.func5 #[.int .i64 a0, .int .u64 a1] ?_; (with_reducible refine (order_Next.calls a0 a1 t192 (some q198) _ A5.out).mono ?_); rintro e w61 ⟨rfl, hb⟩; refine ⟨_, rfl, ?_⟩; have n0_ := Aside0.mk (bS3 HB.out hb); clear HB; have HB := n0_; clear n0_; (try clear hb); (try clear hb2); (try clear hk); (try clear hi); (try simp only [errW_none, errW_some])) | ((with_reducible refine gC (f := 6) rfl ?_); (with_reducible refine gD (N := 42) rfl ?_); refine goesY_ (some 42) Try.func6 #[.int .i64 a0, .int .u64 t192] ?_; (with_reducible refine (order_Prev.calls a0 t192 t194 (some q229) _ A6.out).mono ?_); rintro e w62 ⟨rfl, hb⟩; refine ⟨_, rfl, ?_⟩; have n0_ := Aside0.mk (bS3 HB.out hb); clear HB; have HB := n0_; clear n0_; (try clear hb); (try clear hb2); (try clear hk); (try clear hi); (try simp only [errW_none, errW_some])) | ((with_reducible refine gC (f := 7) rfl ?_); (with_reducible refine gD (N := 49) rfl ?_); refine goesY_ (some 49) Try.func7 #[.int .i64 a0, .int .u64 a1, .int .u64 t192] ?_; (with_reducible refine (order_Steps.calls a0 a1 t192 t196 (some q230) _ A7.out).mono ?_); rintro e w' ⟨rfl, ⟨nd, rfl⟩⟩; refine ⟨_, rfl, ?_⟩; (try simp only [errW_none, errW_some])))
                  go_ret
                  exact ⟨eR3, bR3 HB.out⟩
            · rw [if_neg c51] at H
              have c51b0 : (q230 == 2) = false := beq_eq_false_iff_ne.mpr c51
              have c51b1 : (q230 != 2) = true := bne_iff_ne.mpr c51
              obtain rfl := Option.some.inj H
              go_enter Try.func3, Try.ntmps3
              as_aux_lemma =>
                go_wp2_with (first | ((with_reducible refine gC (f := 4) rfl ?_); (with_reducible refine gD (N := 32) rfl ?_); refine goesY_ (some 32) Try.func4 #[] ?_; (with_reducible refine (vernierlaw08_up.calls  true _ A4.out).mono ?_); rintro e w63 ⟨rfl, hb⟩; refine ⟨_, rfl, ?_⟩; have n0_ := Aside0.mk (bS3 HB.out hb); clear HB; have HB := n0_; clear n0_; (try clear hb); (try clear hb2); (try clear hk); (try clear hi)) | ((with_reducible refine gC (f := 5) rfl ?_); (with_reducible refine gD (N := 36) rfl ?_); refine goesY_ (some 36) Try.func5 #[.int .i64 a0, .int .u64 a1] ?_; (with_reducible refine (order_Next.calls a0 a1 t192 (some q198) _ A5.out).mono ?_); rintro e w64 ⟨rfl, hb⟩; refine ⟨_, rfl, ?_⟩; have n0_ := Aside0.mk (bS3 HB.out hb); clear HB; have HB := n0_; clear n0_; (try clear hb); (try clear hb2); (try clear hk); (try clear hi); (try simp only [errW_none, errW_some])) | ((with_reducible refine gC (f := 6) rfl ?_); (with_reducible refine gD (N := 42) rfl ?_); refine goesY_ (some 42) Try.func6 #[.int .i64 a0, .int .u64 t192] ?_; (with_reducible refine (order_Prev.calls a0 t192 t194 (some q229) _ A6.out).mono ?_); rintro e w65 ⟨rfl, hb⟩; refine ⟨_, rfl, ?_⟩; have n0_ := Aside0.mk (bS3 HB.out hb); clear HB; have HB := n0_; clear n0_; (try clear hb); (try clear hb2); (try clear hk); (try clear hi); (try simp only [errW_none, errW_some])) | ((with_reducible refine gC (f := 7) rfl ?_); (with_reducible refine gD (N := 49) rfl ?_); refine goesY_ (some 49) Try.func7 #[.int .i64 a0, .int .u64 a1, .int .u64 t192] ?_; (with_reducible refine (order_Steps.calls a0 a1 t192 t196 (some q230) _ A7.out).mono ?_); rintro e w' ⟨rfl, ⟨nd, rfl⟩⟩; refine ⟨_, rfl, ?_⟩; (try simp only [errW_none, errW_some])))
                go_ret
                exact ⟨eR3, bR3 HB.out⟩
        · rw [if_neg c47] at H
          have c47b0 : (q229 == 2) = false := beq_eq_false_iff_ne.mpr c47
          have c47b1 : (q229 != 2) = true := bne_iff_ne.mpr c47
          obtain rfl := Option.some.inj H
          go_enter Try.func3, Try.ntmps3
          as_aux_lemma =>
            go_wp2_with (first | ((with_reducible refine gC (f := 4) rfl ?_); (with_reducible refine gD (N := 32) rfl ?_); refine goesY_ (some 32) Try.func4 #[] ?_; (with_reducible refine (vernierlaw08_up.calls  true _ A4.out).mono ?_); rintro e w66 ⟨rfl, hb⟩; refine ⟨_, rfl, ?_⟩; have n0_ := Aside0.mk (bS3 HB.out hb); clear HB; have HB := n0_; clear n0_; (try clear hb); (try clear hb2); (try clear hk); (try clear hi)) | ((with_reducible refine gC (f := 5) rfl ?_); (with_reducible refine gD (N := 36) rfl ?_); refine goesY_ (some 36) Try.func5 #[.int .i64 a0, .int .u64 a1] ?_; (with_reducible refine (order_Next.calls a0 a1 t192 (some q198) _ A5.out).mono ?_); rintro e w67 ⟨rfl, hb⟩; refine ⟨_, rfl, ?_⟩; have n0_ := Aside0.mk (bS3 HB.out hb); clear HB; have HB := n0_; clear n0_; (try clear hb); (try clear hb2); (try clear hk); (try clear hi); (try simp only [errW_none, errW_some])) | ((with_reducible refine gC (f := 6) rfl ?_); (with_reducible refine gD (N := 42) rfl ?_); refine goesY_ (some 42) Try.func6 #[.int .i64 a0, .int .u64 t192] ?_; (with_reducible refine (order_Prev.calls a0 t192 t194 (some q229) _ A6.out).mono ?_); rintro e w68 ⟨rfl, hb⟩; refine ⟨_, rfl, ?_⟩; have n0_ := Aside0.mk (bS3 HB.out hb); clear HB; have HB := n0_; clear n0_; (try clear hb); (try clear hb2); (try clear hk); (try clear hi); (try simp only [errW_none, errW_some])) | ((with_reducible refine gC (f := 7) rfl ?_); (with_reducible refine gD (N := 49) rfl ?_); refine goesY_ (some 49) Try.func7 #[.int .i64 a0, .int .u64 a1, .int .u64 t192] ?_; (with_reducible refine (order_Steps.calls a0 a1 t192 t196 t197 _ A7.out).mono ?_); rintro e w' ⟨rfl, ⟨nd, rfl⟩⟩; refine ⟨_, rfl, ?_⟩; (try simp only [errW_none, errW_some])))
            go_ret
            exact ⟨eR3, bR3 HB.out⟩
    · replace c43 := Bool.eq_false_iff.mpr c43
      subst c43
      rw [if_neg (show ¬ (false = true) by decide)] at H
      obtain rfl := Option.some.inj H
      go_enter Try.func3, Try.ntmps3
      as_aux_lemma =>
        go_wp2_with (first | ((with_reducible refine gC (f := 4) rfl ?_); (with_reducible refine gD (N := 32) rfl ?_); refine goesY_ (some 32) Try.func4 #[] ?_; (with_reducible refine (vernierlaw08_up.calls  false _ A4.out).mono ?_); rintro e w69 ⟨rfl, hb⟩; refine ⟨_, rfl, ?_⟩; have n0_ := Aside0.mk (bS3 HB.out hb); clear HB; have HB := n0_; clear n0_; (try clear hb); (try clear hb2); (try clear hk); (try clear hi)) | ((with_reducible refine gC (f := 5) rfl ?_); (with_reducible refine gD (N := 36) rfl ?_); refine goesY_ (some 36) Try.func5 #[.int .i64 a0, .int .u64 a1] ?_; (with_reducible refine (order_Next.calls a0 a1 t192 (some q198) _ A5.out).mono ?_); rintro e w70 ⟨rfl, hb⟩; refine ⟨_, rfl, ?_⟩; have n0_ := Aside0.mk (bS3 HB.out hb); clear HB; have HB := n0_; clear n0_; (try clear hb); (try clear hb2); (try clear hk); (try clear hi); (try simp only [errW_none, errW_some])) | ((with_reducible refine gC (f := 6) rfl ?_); (with_reducible refine gD (N := 42) rfl ?_); refine goesY_ (some 42) Try.func6 #[.int .i64 a0, .int .u64 t192] ?_; (with_reducible refine (order_Prev.calls a0 t192 t194 t195 _ A6.out).mono ?_); rintro e w71 ⟨rfl, hb⟩; refine ⟨_, rfl, ?_⟩; have n0_ := Aside0.mk (bS3 HB.out hb); clear HB; have HB := n0_; clear n0_; (try clear hb); (try clear hb2); (try clear hk); (try clear hi); (try simp only [errW_none, errW_some])) | ((with_reducible refine gC (f := 7) rfl ?_); (with_reducible refine gD (N := 49) rfl ?_); refine goesY_ (some 49) Try.func7 #[.int .i64 a0, .int .u64 a1, .int .u64 t192] ?_; (with_reducible refine (order_Steps.calls a0 a1 t192 t196 t197 _ A7.out).mono ?_); rintro e w' ⟨rfl, ⟨nd, rfl⟩⟩; refine ⟨_, rfl, ?_⟩; (try simp only [errW_none, errW_some])))
        go_ret
        exact ⟨eR3, bR3 HB.out⟩
/-- THE ONE PURE STATEMENT of vernierlaw08_OrderChain: yours. -/
def vernierlaw08_OrderChain.Pure : Prop := ∀ (a0 : Int) (a1 : Int) (a2 : Int), (Lit.int .i64 a0).wf = true → (Lit.int .u64 a1).wf = true → (Lit.int .u64 a2).wf = true → ∃ k, vernierlaw08_OrderChain.f k a0 a1 a2 = some true
theorem vernierlaw08_OrderChain.walk (P : vernierlaw08_OrderChain.Pure) (a0 : Int) (a1 : Int) (a2 : Int) (w : World) (w0 : (Lit.int .i64 a0).wf = true) (w1 : (Lit.int .u64 a1).wf = true) (w2 : (Lit.int .u64 a2).wf = true) :
    Calls Try.prog 3 #[.int .i64 a0, .int .u64 a1, .int .u64 a2] w fun e w' => e = .returned (.bool true) ∧ Below w.heap.size w w' := by
  obtain ⟨k, h⟩ := P a0 a1 a2 w0 w1 w2
  refine (vernierlaw08_OrderChain.calls k a0 a1 a2 true w h).mono ?_
  rintro e w' ⟨rfl, hd⟩
  exact ⟨rfl, hd⟩
end Go.Proofs.Ytikbelfghkfnnaa.F
