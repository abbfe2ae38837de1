/- Functions of the given program as plain Lean functions, and for each a proof that the program's call comes to just these answers; no further conditions. (Written by a program of this repo out of the translation.) -/
import Derived.Test.YtogldofffdiflaaF0a
import Derived.Test.YtogldofffdiflaaF3a
namespace Go.Proofs.Ytogldofffdiflaa.F
open Go.RowKit Go.Proofs.YtogldofffdiflaaW.PrintWords Go.Proofs.YtogldofffdiflaaW.PrintLast Go.Proofs.YtogldofffdiflaaW.PrintMore
attribute [local go_sem high] xor_u64 xor_u32 eqErr25 neErr25 eqErrL25 neErrL25
attribute [local go_sem] max2_int min2_int max_two min_two max_three min_three max_four min_four   -- for this text's walks alone
set_option linter.unusedVariables false
set_option linter.unusedSimpArgs false
def vernierlaw01_up.f (k : Nat)  : Option (Bool) := (lead_Run.f k 14 4).bind fun bt108 => ((lead_Show.f k 5 4).bind fun bt111 => (if bt108.1 = true then (if bt108.2.1 = 3 then (if bt108.2.2.isNone = true then (if bt111.1.toList = ([48, 49, 48, 49] : List UInt8) then (if bt111.2.isNone = true then (some true) else (some false)) else (some false)) else (some false)) else (some false)) else (some false)))
set_option maxHeartbeats 8000000 in
set_option maxRecDepth 100000 in
theorem vernierlaw01_up.calls (k : Nat)  (r : Bool) (w : World) (h : vernierlaw01_up.f k  = some r) :
  Calls Try.prog 5 #[] w fun e w' => e = .returned (.bool r) ∧ Below w.heap.size w w' := by
 have hu25 := Try.underlying25
 have hu45 := Try.underlying45
 have HB := Aside0.mk (Below.refl w.heap.size w)
 have H : ((lead_Run.f k 14 4).bind fun bt108 => ((lead_Show.f k 5 4).bind fun bt111 => (if bt108.1 = true then (if bt108.2.1 = 3 then (if bt108.2.2.isNone = true then (if bt111.1.toList = ([48, 49, 48, 49] : List UInt8) then (if bt111.2.isNone = true then (some true) else (some false)) else (some false)) else (some false)) else (some false)) else (some false)))) = some r := h
 clear h
 replace H := Option.bind_eq_some_iff.mp H
 obtain ⟨⟨t108, t109, t110⟩, A10, H⟩ := H
 try dsimp -simprocs only at H
 have A1 := Aside0.mk A10
 clear A10
 replace H := Option.bind_eq_some_iff.mp H
 obtain ⟨⟨t111, t112⟩, A20, H⟩ := H
 try dsimp -simprocs only at H
 have A2 := Aside0.mk A20
 clear A20
 by_cases c3 : t108 = true
 ·
  subst c3
  rw [if_pos rfl] at H
  by_cases c4 : t109 = 3
  ·
   rw [if_pos c4] at H
   have c4b0 : (t109 == 3) = true := beq_iff_eq.mpr c4
   have c4b1 : (t109 != 3) = false := bne_eq_false_iff_eq.mpr c4
   clear c4
   rcases t110 with _ | q113
   ·
    rw [if_pos (show (none : Option Int).isNone = true by rfl)] at H
    try simp only [Option.getD_some] at H
    try simp only [errW_none, errW_some]
    by_cases c5 : t111.toList = ([48, 49, 48, 49] : List UInt8)
    ·
     rw [if_pos c5] at H
     have c5b0 : (t111.toList == ([48, 49, 48, 49] : List UInt8)) = true := beq_iff_eq.mpr c5
     have c5b1 : (t111.toList != ([48, 49, 48, 49] : List UInt8)) = false := bne_eq_false_iff_eq.mpr c5
     clear c5
     rcases t112 with _ | q114
     ·
      rw [if_pos (show (none : Option Int).isNone = true by rfl)] at H
      try simp only [Option.getD_some] at H
      try simp only [errW_none, errW_some]
      obtain rfl := Option.some.inj H
      go_enter Try.func5, Try.ntmps5
      go_wp2_with (first | ((with_reducible refine gX_ 13 7 rfl rfl ?_); refine goesY_ (some 7) Try.func13 #[.int .u64 14, .int .i64 4] ?_; (with_reducible refine (lead_Run.calls k 14 4 true t109 none _ A1.out).mono ?_); rintro e w6 ⟨rfl, hb⟩; refine ⟨_, rfl, ?_⟩; replace HB := Aside0.mk (bS3 HB.out hb); (try clear hb); (try clear hk); (try simp only [errW_none, errW_some])) | ((with_reducible refine gX_ 14 12 rfl rfl ?_); refine goesY_ (some 12) Try.func14 #[.int .u64 5, .int .i64 4] ?_; (with_reducible refine (lead_Show.calls k 5 4 t111 none _ A2.out).mono ?_); rintro e w7 ⟨rfl, hb⟩; refine ⟨_, rfl, ?_⟩; replace HB := Aside0.mk (bS3 HB.out hb); (try clear hb); (try clear hk); (try simp only [errW_none, errW_some])))
      go_ret
      exact ⟨eR3, bR3 HB.out⟩
     ·
      rw [if_neg (show ¬ (some q114).isNone = true by simp)] at H
      try simp only [Option.getD_some] at H
      try simp only [errW_none, errW_some]
      obtain rfl := Option.some.inj H
      go_enter Try.func5, Try.ntmps5
      go_wp2_with (first | ((with_reducible refine gX_ 13 7 rfl rfl ?_); refine goesY_ (some 7) Try.func13 #[.int .u64 14, .int .i64 4] ?_; (with_reducible refine (lead_Run.calls k 14 4 true t109 none _ A1.out).mono ?_); rintro e w8 ⟨rfl, hb⟩; refine ⟨_, rfl, ?_⟩; replace HB := Aside0.mk (bS3 HB.out hb); (try clear hb); (try clear hk); (try simp only [errW_none, errW_some])) | ((with_reducible refine gX_ 14 12 rfl rfl ?_); refine goesY_ (some 12) Try.func14 #[.int .u64 5, .int .i64 4] ?_; (with_reducible refine (lead_Show.calls k 5 4 t111 (some q114) _ A2.out).mono ?_); rintro e w9 ⟨rfl, hb⟩; refine ⟨_, rfl, ?_⟩; replace HB := Aside0.mk (bS3 HB.out hb); (try clear hb); (try clear hk); (try simp only [errW_none, errW_some])))
      go_ret
      exact ⟨eR3, bR3 HB.out⟩
    ·
     rw [if_neg c5] at H
     have c5b0 : (t111.toList == ([48, 49, 48, 49] : List UInt8)) = false := beq_eq_false_iff_ne.mpr c5
     have c5b1 : (t111.toList != ([48, 49, 48, 49] : List UInt8)) = true := bne_iff_ne.mpr c5
     obtain rfl := Option.some.inj H
     go_enter Try.func5, Try.ntmps5
     go_wp2_with (first | ((with_reducible refine gX_ 13 7 rfl rfl ?_); refine goesY_ (some 7) Try.func13 #[.int .u64 14, .int .i64 4] ?_; (with_reducible refine (lead_Run.calls k 14 4 true t109 none _ A1.out).mono ?_); rintro e w10 ⟨rfl, hb⟩; refine ⟨_, rfl, ?_⟩; replace HB := Aside0.mk (bS3 HB.out hb); (try clear hb); (try clear hk); (try simp only [errW_none, errW_some])) | ((with_reducible refine gX_ 14 12 rfl rfl ?_); refine goesY_ (some 12) Try.func14 #[.int .u64 5, .int .i64 4] ?_; (with_reducible refine (lead_Show.calls k 5 4 t111 t112 _ A2.out).mono ?_); rintro e w11 ⟨rfl, hb⟩; refine ⟨_, rfl, ?_⟩; replace HB := Aside0.mk (bS3 HB.out hb); (try clear hb); (try clear hk); (try simp only [errW_none, errW_some])))
     go_ret
     exact ⟨eR3, bR3 HB.out⟩
   ·
    rw [if_neg (show ¬ (some q113).isNone = true by simp)] at H
    try simp only [Option.getD_some] at H
    try simp only [errW_none, errW_some]
    obtain rfl := Option.some.inj H
    go_enter Try.func5, Try.ntmps5
    go_wp2_with (first | ((with_reducible refine gX_ 13 7 rfl rfl ?_); refine goesY_ (some 7) Try.func13 #[.int .u64 14, .int .i64 4] ?_; (with_reducible refine (lead_Run.calls k 14 4 true t109 (some q113) _ A1.out).mono ?_); rintro e w12 ⟨rfl, hb⟩; refine ⟨_, rfl, ?_⟩; replace HB := Aside0.mk (bS3 HB.out hb); (try clear hb); (try clear hk); (try simp only [errW_none, errW_some])) | ((with_reducible refine gX_ 14 12 rfl rfl ?_); refine goesY_ (some 12) Try.func14 #[.int .u64 5, .int .i64 4] ?_; (with_reducible refine (lead_Show.calls k 5 4 t111 t112 _ A2.out).mono ?_); rintro e w13 ⟨rfl, hb⟩; refine ⟨_, rfl, ?_⟩; replace HB := Aside0.mk (bS3 HB.out hb); (try clear hb); (try clear hk); (try simp only [errW_none, errW_some])))
    go_ret
    exact ⟨eR3, bR3 HB.out⟩
  ·
   rw [if_neg c4] at H
   have c4b0 : (t109 == 3) = false := beq_eq_false_iff_ne.mpr c4
   have c4b1 : (t109 != 3) = true := bne_iff_ne.mpr c4
   obtain rfl := Option.some.inj H
   go_enter Try.func5, Try.ntmps5
   go_wp2_with (first | ((with_reducible refine gX_ 13 7 rfl rfl ?_); refine goesY_ (some 7) Try.func13 #[.int .u64 14, .int .i64 4] ?_; (with_reducible refine (lead_Run.calls k 14 4 true t109 t110 _ A1.out).mono ?_); rintro e w14 ⟨rfl, hb⟩; refine ⟨_, rfl, ?_⟩; replace HB := Aside0.mk (bS3 HB.out hb); (try clear hb); (try clear hk); (try simp only [errW_none, errW_some])) | ((with_reducible refine gX_ 14 12 rfl rfl ?_); refine goesY_ (some 12) Try.func14 #[.int .u64 5, .int .i64 4] ?_; (with_reducible refine (lead_Show.calls k 5 4 t111 t112 _ A2.out).mono ?_); rintro e w15 ⟨rfl, hb⟩; refine ⟨_, rfl, ?_⟩; replace HB := Aside0.mk (bS3 HB.out hb); (try clear hb); (try clear hk); (try simp only [errW_none, errW_some])))
   go_ret
   exact ⟨eR3, bR3 HB.out⟩
 ·
  replace c3 := Bool.eq_false_iff.mpr c3
  subst c3
  rw [if_neg (show ¬ (false = true) by decide)] at H
  obtain rfl := Option.some.inj H
  go_enter Try.func5, Try.ntmps5
  go_wp2_with (first | ((with_reducible refine gX_ 13 7 rfl rfl ?_); refine goesY_ (some 7) Try.func13 #[.int .u64 14, .int .i64 4] ?_; (with_reducible refine (lead_Run.calls k 14 4 false t109 t110 _ A1.out).mono ?_); rintro e w16 ⟨rfl, hb⟩; refine ⟨_, rfl, ?_⟩; replace HB := Aside0.mk (bS3 HB.out hb); (try clear hb); (try clear hk); (try simp only [errW_none, errW_some])) | ((with_reducible refine gX_ 14 12 rfl rfl ?_); refine goesY_ (some 12) Try.func14 #[.int .u64 5, .int .i64 4] ?_; (with_reducible refine (lead_Show.calls k 5 4 t111 t112 _ A2.out).mono ?_); rintro e w17 ⟨rfl, hb⟩; refine ⟨_, rfl, ?_⟩; replace HB := Aside0.mk (bS3 HB.out hb); (try clear hb); (try clear hk); (try simp only [errW_none, errW_some])))
  go_ret
  exact ⟨eR3, bR3 HB.out⟩
end Go.Proofs.Ytogldofffdiflaa.F
