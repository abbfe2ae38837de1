/- Functions of the given program as plain Lean functions, and for each a proof that the program's call comes to just these answers; no further conditions. (Written by a program of this repo out of the translation.) -/
import Derived.Test.YtikbelfghkfnnaaF0a
import Derived.Test.YtikbelfghkfnnaaF3a
namespace Go.Proofs.Ytikbelfghkfnnaa.F
open Go.RowKit Go.Proofs.YtikbelfghkfnnaaW.PrintWords Go.Proofs.YtikbelfghkfnnaaW.PrintLast Go.Proofs.YtikbelfghkfnnaaW.PrintMore
attribute [local go_sem high] xor_u64 xor_u32 eqErr25 neErr25 eqErrL25 neErrL25
attribute [local go_sem] max2_int min2_int max_two min_two max_three min_three max_four min_four   -- for this text's walks alone
set_option linter.unusedVariables false
set_option linter.unusedSimpArgs false
def vernierlaw08_up.f  : Option (Bool) := (order_Cmp.f 8 255 1).bind fun bt133 => ((order_Next.f 8 255).bind fun bt135 => ((order_Neg.f 8 64).bind fun bt137 => (if bt133.2.isNone = true then (if bt135.2.isNone = true then (if bt137.2.isNone = true then (if bt133.1 = (-1) then (if bt135.1 = 0 then (some (bt137.1 == 192)) else (some false)) else (some false)) else (some false)) else (some false)) else (some false))))
set_option maxHeartbeats 8000000 in
set_option maxRecDepth 100000 in
theorem vernierlaw08_up.calls  (r : Bool) (w : World) (h : vernierlaw08_up.f  = some r) :
    Calls Try.prog 4 #[] w fun e w' => e = .returned (.bool r) ∧ Below w.heap.size w w' := by
  have hu25 := Try.underlying25
  have hu29 := Try.underlying29
  have HB := Aside0.mk (Below.refl w.heap.size w)
  have H : ((order_Cmp.f 8 255 1).bind fun bt133 => ((order_Next.f 8 255).bind fun bt135 => ((order_Neg.f 8 64).bind fun bt137 => (if bt133.2.isNone = true then (if bt135.2.isNone = true then (if bt137.2.isNone = true then (if bt133.1 = (-1) then (if bt135.1 = 0 then (some (bt137.1 == 192)) else (some false)) else (some false)) else (some false)) else (some false)) else (some false))))) = some r := h
  clear h
  replace H := Option.bind_eq_some_iff.mp H
  obtain ⟨⟨t133, t134⟩, A10, H⟩ := H
  try dsimp -simprocs only at H
  have A1 := Aside0.mk A10
  clear A10
  replace H := Option.bind_eq_some_iff.mp H
  obtain ⟨⟨t135, t136⟩, A20, H⟩ := H
  try dsimp -simprocs only at H
  have A2 := Aside0.mk A20
  clear A20
  replace H := Option.bind_eq_some_iff.mp H
  obtain ⟨⟨t137, t138⟩, A30, H⟩ := H
  try dsimp -simprocs only at H
  have A3 := Aside0.mk A30
  clear A30
  rcases t134 with _ | q139
  · rw [if_pos (show (none : Option Int).isNone = true by rfl)] at H
    try simp only [Option.getD_some] at H
    try simp only [errW_none, errW_some]
    rcases t136 with _ | q140
    · rw [if_pos (show (none : Option Int).isNone = true by rfl)] at H
      try simp only [Option.getD_some] at H
      try simp only [errW_none, errW_some]
      rcases t138 with _ | q141
      · rw [if_pos (show (none : Option Int).isNone = true by rfl)] at H
        try simp only [Option.getD_some] at H
        try simp only [errW_none, errW_some]
        by_cases c4 : t133 = (-1)
        · rw [if_pos c4] at H
          have c4b0 : (t133 == (-1)) = true := beq_iff_eq.mpr c4
          have c4b1 : (t133 != (-1)) = false := bne_eq_false_iff_eq.mpr c4
          clear c4
          by_cases c5 : t135 = 0
          · rw [if_pos c5] at H
            have c5b0 : (t135 == 0) = true := beq_iff_eq.mpr c5
            have c5b1 : (t135 != 0) = false := bne_eq_false_iff_eq.mpr c5
            clear c5
            obtain rfl := Option.some.inj H
            go_enter Try.func4, Try.ntmps4
            go_wp2_with (first | ((with_reducible refine gC (f := 8) rfl ?_); (with_reducible refine gD (N := 8) rfl ?_); refine goesY_ (some 8) Try.func8 #[.int .i64 8, .int .u64 255, .int .u64 1] ?_; (with_reducible refine (order_Cmp.calls 8 255 1 t133 none _ A1.out).mono ?_); rintro e w' ⟨rfl, ⟨nd, rfl⟩⟩; refine ⟨_, rfl, ?_⟩; (try simp only [errW_none, errW_some])) | ((with_reducible refine gC (f := 5) rfl ?_); (with_reducible refine gD (N := 12) rfl ?_); refine goesY_ (some 12) Try.func5 #[.int .i64 8, .int .u64 255] ?_; (with_reducible refine (order_Next.calls 8 255 t135 none _ A2.out).mono ?_); rintro e w6 ⟨rfl, hb⟩; refine ⟨_, rfl, ?_⟩; have n0_ := Aside0.mk (bS3 HB.out hb); clear HB; have HB := n0_; clear n0_; (try clear hb); (try clear hb2); (try clear hk); (try clear hi); (try simp only [errW_none, errW_some])) | ((with_reducible refine gC (f := 12) rfl ?_); (with_reducible refine gD (N := 16) rfl ?_); refine goesY_ (some 16) Try.func12 #[.int .i64 8, .int .u64 64] ?_; (with_reducible refine (order_Neg.calls 8 64 t137 none _ A3.out).mono ?_); rintro e w' ⟨rfl, ⟨nd, rfl⟩⟩; refine ⟨_, rfl, ?_⟩; (try simp only [errW_none, errW_some])))
            go_ret
            exact ⟨eR3, bR3 HB.out⟩
          · rw [if_neg c5] at H
            have c5b0 : (t135 == 0) = false := beq_eq_false_iff_ne.mpr c5
            have c5b1 : (t135 != 0) = true := bne_iff_ne.mpr c5
            obtain rfl := Option.some.inj H
            go_enter Try.func4, Try.ntmps4
            go_wp2_with (first | ((with_reducible refine gC (f := 8) rfl ?_); (with_reducible refine gD (N := 8) rfl ?_); refine goesY_ (some 8) Try.func8 #[.int .i64 8, .int .u64 255, .int .u64 1] ?_; (with_reducible refine (order_Cmp.calls 8 255 1 t133 none _ A1.out).mono ?_); rintro e w' ⟨rfl, ⟨nd, rfl⟩⟩; refine ⟨_, rfl, ?_⟩; (try simp only [errW_none, errW_some])) | ((with_reducible refine gC (f := 5) rfl ?_); (with_reducible refine gD (N := 12) rfl ?_); refine goesY_ (some 12) Try.func5 #[.int .i64 8, .int .u64 255] ?_; (with_reducible refine (order_Next.calls 8 255 t135 none _ A2.out).mono ?_); rintro e w7 ⟨rfl, hb⟩; refine ⟨_, rfl, ?_⟩; have n0_ := Aside0.mk (bS3 HB.out hb); clear HB; have HB := n0_; clear n0_; (try clear hb); (try clear hb2); (try clear hk); (try clear hi); (try simp only [errW_none, errW_some])) | ((with_reducible refine gC (f := 12) rfl ?_); (with_reducible refine gD (N := 16) rfl ?_); refine goesY_ (some 16) Try.func12 #[.int .i64 8, .int .u64 64] ?_; (with_reducible refine (order_Neg.calls 8 64 t137 none _ A3.out).mono ?_); rintro e w' ⟨rfl, ⟨nd, rfl⟩⟩; refine ⟨_, rfl, ?_⟩; (try simp only [errW_none, errW_some])))
            go_ret
            exact ⟨eR3, bR3 HB.out⟩
        · rw [if_neg c4] at H
          have c4b0 : (t133 == (-1)) = false := beq_eq_false_iff_ne.mpr c4
          have c4b1 : (t133 != (-1)) = true := bne_iff_ne.mpr c4
          obtain rfl := Option.some.inj H
          go_enter Try.func4, Try.ntmps4
          go_wp2_with (first | ((with_reducible refine gC (f := 8) rfl ?_); (with_reducible refine gD (N := 8) rfl ?_); refine goesY_ (some 8) Try.func8 #[.int .i64 8, .int .u64 255, .int .u64 1] ?_; (with_reducible refine (order_Cmp.calls 8 255 1 t133 none _ A1.out).mono ?_); rintro e w' ⟨rfl, ⟨nd, rfl⟩⟩; refine ⟨_, rfl, ?_⟩; (try simp only [errW_none, errW_some])) | ((with_reducible refine gC (f := 5) rfl ?_); (with_reducible refine gD (N := 12) rfl ?_); refine goesY_ (some 12) Try.func5 #[.int .i64 8, .int .u64 255] ?_; (with_reducible refine (order_Next.calls 8 255 t135 none _ A2.out).mono ?_); rintro e w8 ⟨rfl, hb⟩; refine ⟨_, rfl, ?_⟩; have n0_ := Aside0.mk (bS3 HB.out hb); clear HB; have HB := n0_; clear n0_; (try clear hb); (try clear hb2); (try clear hk); (try clear hi); (try simp only [errW_none, errW_some])) | ((with_reducible refine gC (f := 12) rfl ?_); (with_reducible refine gD (N := 16) rfl ?_); refine goesY_ (some 16) Try.func12 #[.int .i64 8, .int .u64 64] ?_; (with_reducible refine (order_Neg.calls 8 64 t137 none _ A3.out).mono ?_); rintro e w' ⟨rfl, ⟨nd, rfl⟩⟩; refine ⟨_, rfl, ?_⟩; (try simp only [errW_none, errW_some])))
          go_ret
          exact ⟨eR3, bR3 HB.out⟩
      · rw [if_neg (show ¬ (some q141).isNone = true by simp)] at H
        try simp only [Option.getD_some] at H
        try simp only [errW_none, errW_some]
        obtain rfl := Option.some.inj H
        go_enter Try.func4, Try.ntmps4
        go_wp2_with (first | ((with_reducible refine gC (f := 8) rfl ?_); (with_reducible refine gD (N := 8) rfl ?_); refine goesY_ (some 8) Try.func8 #[.int .i64 8, .int .u64 255, .int .u64 1] ?_; (with_reducible refine (order_Cmp.calls 8 255 1 t133 none _ A1.out).mono ?_); rintro e w' ⟨rfl, ⟨nd, rfl⟩⟩; refine ⟨_, rfl, ?_⟩; (try simp only [errW_none, errW_some])) | ((with_reducible refine gC (f := 5) rfl ?_); (with_reducible refine gD (N := 12) rfl ?_); refine goesY_ (some 12) Try.func5 #[.int .i64 8, .int .u64 255] ?_; (with_reducible refine (order_Next.calls 8 255 t135 none _ A2.out).mono ?_); rintro e w9 ⟨rfl, hb⟩; refine ⟨_, rfl, ?_⟩; have n0_ := Aside0.mk (bS3 HB.out hb); clear HB; have HB := n0_; clear n0_; (try clear hb); (try clear hb2); (try clear hk); (try clear hi); (try simp only [errW_none, errW_some])) | ((with_reducible refine gC (f := 12) rfl ?_); (with_reducible refine gD (N := 16) rfl ?_); refine goesY_ (some 16) Try.func12 #[.int .i64 8, .int .u64 64] ?_; (with_reducible refine (order_Neg.calls 8 64 t137 (some q141) _ A3.out).mono ?_); rintro e w' ⟨rfl, ⟨nd, rfl⟩⟩; refine ⟨_, rfl, ?_⟩; (try simp only [errW_none, errW_some])))
        go_ret
        exact ⟨eR3, bR3 HB.out⟩
    · rw [if_neg (show ¬ (some q140).isNone = true by simp)] at H
      try simp only [Option.getD_some] at H
      try simp only [errW_none, errW_some]
      obtain rfl := Option.some.inj H
      go_enter Try.func4, Try.ntmps4
      go_wp2_with (first | ((with_reducible refine gC (f := 8) rfl ?_); (with_reducible refine gD (N := 8) rfl ?_); refine goesY_ (some 8) Try.func8 #[.int .i64 8, .int .u64 255, .int .u64 1] ?_; (with_reducible refine (order_Cmp.calls 8 255 1 t133 none _ A1.out).mono ?_); rintro e w' ⟨rfl, ⟨nd, rfl⟩⟩; refine ⟨_, rfl, ?_⟩; (try simp only [errW_none, errW_some])) | ((with_reducible refine gC (f := 5) rfl ?_); (with_reducible refine gD (N := 12) rfl ?_); refine goesY_ (some 12) Try.func5 #[.int .i64 8, .int .u64 255] ?_; (with_reducible refine (order_Next.calls 8 255 t135 (some q140) _ A2.out).mono ?_); rintro e w10 ⟨rfl, hb⟩; refine ⟨_, rfl, ?_⟩; have n0_ := Aside0.mk (bS3 HB.out hb); clear HB; have HB := n0_; clear n0_; (try clear hb); (try clear hb2); (try clear hk); (try clear hi); (try simp only [errW_none, errW_some])) | ((with_reducible refine gC (f := 12) rfl ?_); (with_reducible refine gD (N := 16) rfl ?_); refine goesY_ (some 16) Try.func12 #[.int .i64 8, .int .u64 64] ?_; (with_reducible refine (order_Neg.calls 8 64 t137 t138 _ A3.out).mono ?_); rintro e w' ⟨rfl, ⟨nd, rfl⟩⟩; refine ⟨_, rfl, ?_⟩; (try simp only [errW_none, errW_some])))
      go_ret
      exact ⟨eR3, bR3 HB.out⟩
  · rw [if_neg (show ¬ (some q139).isNone = true by simp)] at H
    try simp only [Option.getD_some] at H
    try simp only [errW_none, errW_some]
    obtain rfl := Option.some.inj H
    go_enter Try.func4, Try.ntmps4
    go_wp2_with (first | ((with_reducible refine gC (f := 8) rfl ?_); (with_reducible refine gD (N := 8) rfl ?_); refine goesY_ (some 8) Try.func8 #[.int .i64 8, .int .u64 255, .int .u64 1] ?_; (with_reducible refine (order_Cmp.calls 8 255 1 t133 (some q139) _ A1.out).mono ?_); rintro e w' ⟨rfl, ⟨nd, rfl⟩⟩; refine ⟨_, rfl, ?_⟩; (try simp only [errW_none, errW_some])) | ((with_reducible refine gC (f := 5) rfl ?_); (with_reducible refine gD (N := 12) rfl ?_); refine goesY_ (some 12) Try.func5 #[.int .i64 8, .int .u64 255] ?_; (with_reducible refine (order_Next.calls 8 255 t135 t136 _ A2.out).mono ?_); rintro e w11 ⟨rfl, hb⟩; refine ⟨_, rfl, ?_⟩; have n0_ := Aside0.mk (bS3 HB.out hb); clear HB; have HB := n0_; clear n0_; (try clear hb); (try clear hb2); (try clear hk); (try clear hi); (try simp only [errW_none, errW_some])) | ((with_reducible refine gC (f := 12) rfl ?_); (with_reducible refine gD (N := 16) rfl ?_); refine goesY_ (some 16) Try.func12 #[.int .i64 8, .int .u64 64] ?_; (with_reducible refine (order_Neg.calls 8 64 t137 t138 _ A3.out).mono ?_); rintro e w' ⟨rfl, ⟨nd, rfl⟩⟩; refine ⟨_, rfl, ?_⟩; (try simp only [errW_none, errW_some])))
    go_ret
    exact ⟨eR3, bR3 HB.out⟩
end Go.Proofs.Ytikbelfghkfnnaa.F
