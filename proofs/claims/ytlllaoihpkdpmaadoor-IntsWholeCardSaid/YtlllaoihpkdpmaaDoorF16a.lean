/- Functions of the given program as plain Lean functions, and for each a proof that the program's call comes to just these answers; no further conditions. (Written by a program of this repo out of the translation.) -/
import Derived.Test.YtlllaoihpkdpmaaDoorF0a
import Derived.Test.YtlllaoihpkdpmaaDoorF12a
import Derived.Test.YtlllaoihpkdpmaaDoorF14a
import Derived.Test.YtlllaoihpkdpmaaDoorF15a
import Derived.Test.YtlllaoihpkdpmaaDoorF17a
namespace Go.Proofs.YtlllaoihpkdpmaaDoor.F
open Go.RowKit Go.Proofs.YtlllaoihpkdpmaaDoorW.PrintWords Go.Proofs.YtlllaoihpkdpmaaDoorW.PrintLast Go.Proofs.YtlllaoihpkdpmaaDoorW.PrintMore
attribute [local go_sem high] xor_u64 xor_u32 eqErr25 neErr25 eqErrL25 neErrL25
attribute [local go_sem] max2_int min2_int max_two min_two max_three min_three max_four min_four   -- for this text's walks alone
set_option linter.unusedVariables false
set_option linter.unusedSimpArgs false
def vernierref16_parts.f (k : Nat) (a0_0 : Int) (a0_1 : Bool) (a0_2 : Int) (a0_3 : Int) : Option (List Int × Bool × Int) := (vernierref04_Of.f k a0_3).bind fun t419 => (if a0_2 ≥ 63 then ((vernierref04_Shl.f k t419 (wrap64 (a0_2 - 63))).bind fun t422 => (some (t422, false, (-1)))) else ((vernierref04_Shr.f k t419 (wrap64 (63 - a0_2))).bind fun t425 => ((vernierref04_Shl.f k t425 (wrap64 (63 - a0_2))).bind fun t428 => ((vernierref04_Sub.f k t419 t428).bind fun t431 => ((vernierref04_Shl.f k (([1] : List Int)) (wrap64 (63 - a0_2))).bind fun t437 => ((vernierref04_Add.f k t431 t431).bind fun t440 => ((vernierref04_Cmp.f k t440 t437).bind fun t443 => (some (t425, decide ((t431.length : Int) > 0), t443)))))))))
set_option maxHeartbeats 8000000 in
set_option maxRecDepth 100000 in
theorem vernierref16_parts.calls (k : Nat) (a0_0 : Int) (a0_1 : Bool) (a0_2 : Int) (a0_3 : Int) (r1 : List Int) (r2 : Bool) (r3 : Int) (w : World) (h : vernierref16_parts.f k a0_0 a0_1 a0_2 a0_3 = some (r1, r2, r3)) :
  Calls Tryd.prog 26 #[.agg #[.int .i64 a0_0, .bool a0_1, .int .i64 a0_2, .int .u64 a0_3]] w fun e w' => ∃ v0_ : Value, e = .returned (.tuple #[v0_, .bool r2, .int .i64 r3]) ∧ Kd.R (Kd.int .i64) 3 w' w.heap.size (fun _ => True) v0_ r1 ∧ Below w.heap.size w w' := by
 have hu52 := Tryd.underlying52
 have HB := Aside0.mk (Below.refl w.heap.size w)
 have H : ((vernierref04_Of.f k a0_3).bind fun t419 => (if a0_2 ≥ 63 then ((vernierref04_Shl.f k t419 (wrap64 (a0_2 - 63))).bind fun t422 => (some (t422, false, (-1)))) else ((vernierref04_Shr.f k t419 (wrap64 (63 - a0_2))).bind fun t425 => ((vernierref04_Shl.f k t425 (wrap64 (63 - a0_2))).bind fun t428 => ((vernierref04_Sub.f k t419 t428).bind fun t431 => ((vernierref04_Shl.f k (([1] : List Int)) (wrap64 (63 - a0_2))).bind fun t437 => ((vernierref04_Add.f k t431 t431).bind fun t440 => ((vernierref04_Cmp.f k t440 t437).bind fun t443 => (some (t425, decide ((t431.length : Int) > 0), t443)))))))))) = some (r1, r2, r3) := h
 clear h
 replace H := Option.bind_eq_some_iff.mp H
 obtain ⟨t419, A20, H⟩ := H
 try dsimp -simprocs only at H
 have A2 := Aside0.mk A20
 clear A20
 by_cases c3 : a0_2 ≥ 63
 ·
  rw [if_pos c3] at H
  have c3b0 : decide (63 ≤ a0_2) = true := decide_eq_true c3
  clear c3
  replace H := Option.bind_eq_some_iff.mp H
  obtain ⟨t422, A40, H⟩ := H
  try dsimp -simprocs only at H
  have A4 := Aside0.mk A40
  clear A40
  simp only [Option.some.injEq, Prod.mk.injEq] at H
  obtain ⟨rfl, rfl, rfl⟩ := H
  go_enter Tryd.func26, Tryd.ntmps26
  go_wp2_with (first | ((with_reducible refine gD (N := 1) rfl ?_); refine bE3 1 #[.int .i64 a0_0, .bool a0_1, .int .i64 a0_2, .int .u64 a0_3] 52 ?hr ?_; (case hr => first | (go_simp; done) | (go_simp; rfl)); intro gb418 hg w5 hbox hb; have BK418 := Aside0.mk (hbox); have GW418 := Aside0.mk ((bZ3 hg HB.out)); have GE418 := Aside0.mk ((bZ3 hg HB.out)); replace HB := Aside0.mk (bS3 HB.out hb); clear hb hbox hg; obtain ⟨hcz6_0, hcz6_1, hcz6_2, hcz6_3, hfz6_0, hfz6_1, hfz6_2, hfz6_3⟩ := cl4 BK418.out) | ((with_reducible refine gX_ 45 13 rfl rfl ?_); refine goesY_ (some 13) Tryd.func45 #[.int .u64 a0_3] ?_; (with_reducible refine (vernierref04_Of.calls k a0_3 t419 _ A2.out).mono ?_); rintro e w7 ⟨v420, rfl, ho0, hb⟩; refine ⟨_, rfl, ?_⟩; have HO421 := Aside0.mk (Kd.R_lower ho0 (bZ (bR3 HB.out))); replace BK418 := Aside0.mk (bB3 BK418.out hb); replace HB := Aside0.mk (bS3 HB.out hb); (try clear hb); (try clear hk); (try clear ho0); obtain ⟨hcz8_0, hcz8_1, hcz8_2, hcz8_3, hfz8_0, hfz8_1, hfz8_2, hfz8_3⟩ := cl4 BK418.out; obtain ⟨Ao9, co9, eo9⟩ := Kd.R_slice HO421.out; subst eo9) | ((with_reducible refine gX_ 41 21 rfl rfl ?_); refine goesY_ (some 21) Tryd.func41 #[.slice Ao9 t419.length co9, .int .i64 (wrap64 (a0_2 - 63))] ?_; (with_reducible refine (vernierref04_Shl.calls k _ _ t419 (wrap64 (a0_2 - 63)) t422 _ ?side1 ?side2 A4.out).mono ?_); (case side1 => repeat (first | exact (Kd.R_reads' HO421.out).2.2 | (with_reducible refine Kd.C_alloc ?_ _) | (with_reducible refine Kd.C_drewN ?_ _) | (with_reducible refine Kd.C_drew ?_))); (case side2 => exact (Kd.R_reads' HO421.out).2.1); rintro e w10 ⟨v423, rfl, ho0, hb⟩; refine ⟨_, rfl, ?_⟩; have HO424 := Aside0.mk (Kd.R_lower (Kd.R_new' ho0 (Kd.R_lt (by (with_reducible repeat (first | apply Kd.R_alloc | apply Kd.R_drewN | apply Kd.R_drew)); exact HO421.out))) (bZ (bR3 HB.out))); replace HO421 := Aside0.mk (Kd.R_elder' (by (with_reducible repeat (first | apply Kd.R_alloc | apply Kd.R_drewN | apply Kd.R_drew)); exact HO421.out) (Kd.R_base ho0) hb); replace BK418 := Aside0.mk (bB3 BK418.out hb); replace HB := Aside0.mk (bS3 HB.out hb); (try clear hb); (try clear hk); (try clear ho0)))
  go_ret3
  exact ⟨_, eR3, by (with_reducible repeat (first | apply Kd.R_alloc | apply Kd.R_drewN | apply Kd.R_drew)); exact Kd.R_mono HO424.out (fun _ hk => trivial), bR3 HB.out⟩
 ·
  rw [if_neg c3] at H
  have c3b0 : decide (63 ≤ a0_2) = false := decide_eq_false c3
  clear c3
  replace H := Option.bind_eq_some_iff.mp H
  obtain ⟨t425, A110, H⟩ := H
  try dsimp -simprocs only at H
  have A11 := Aside0.mk A110
  clear A110
  replace H := Option.bind_eq_some_iff.mp H
  obtain ⟨t428, A120, H⟩ := H
  try dsimp -simprocs only at H
  have A12 := Aside0.mk A120
  clear A120
  replace H := Option.bind_eq_some_iff.mp H
  obtain ⟨t431, A130, H⟩ := H
  try dsimp -simprocs only at H
  have A13 := Aside0.mk A130
  clear A130
  obtain ⟨y434, hy434⟩ : ∃ y_ : List Int, y_ = (([1] : List Int)) := ⟨_, rfl⟩
  replace H : ((vernierref04_Shl.f k y434 (wrap64 (63 - a0_2))).bind fun t437 => ((vernierref04_Add.f k t431 t431).bind fun t440 => ((vernierref04_Cmp.f k t440 t437).bind fun t443 => (some (t425, decide ((t431.length : Int) > 0), t443))))) = some (r1, r2, r3) := by first | (rw [hy434]; with_reducible exact H) | (have H2_ := (Option.bind_some _ _).symm.trans H; rw [hy434]; with_reducible exact H2_) | (have H2_ := (Option.bind_some _ _).symm.trans H; with_reducible exact H2_) | with_reducible exact H | (rw [hy434]; exact H) | exact H
  have Ny434 := Aside0.mk hy434
  clear hy434
  replace H := Option.bind_eq_some_iff.mp H
  obtain ⟨t437, A140, H⟩ := H
  try dsimp -simprocs only at H
  have A14 := Aside0.mk A140
  clear A140
  replace H := Option.bind_eq_some_iff.mp H
  obtain ⟨t440, A150, H⟩ := H
  try dsimp -simprocs only at H
  have A15 := Aside0.mk A150
  clear A150
  replace H := Option.bind_eq_some_iff.mp H
  obtain ⟨t443, A160, H⟩ := H
  try dsimp -simprocs only at H
  have A16 := Aside0.mk A160
  clear A160
  simp only [Option.some.injEq, Prod.mk.injEq] at H
  obtain ⟨rfl, rfl, rfl⟩ := H
  go_enter Tryd.func26, Tryd.ntmps26
  go_wp2_with (first | ((with_reducible refine gD (N := 1) rfl ?_); refine bE3 1 #[.int .i64 a0_0, .bool a0_1, .int .i64 a0_2, .int .u64 a0_3] 52 ?hr ?_; (case hr => first | (go_simp; done) | (go_simp; rfl)); intro gb418 hg w17 hbox hb; have BK418 := Aside0.mk (hbox); have GW418 := Aside0.mk ((bZ3 hg HB.out)); have GE418 := Aside0.mk ((bZ3 hg HB.out)); replace HB := Aside0.mk (bS3 HB.out hb); clear hb hbox hg; obtain ⟨hcz18_0, hcz18_1, hcz18_2, hcz18_3, hfz18_0, hfz18_1, hfz18_2, hfz18_3⟩ := cl4 BK418.out) | ((with_reducible refine gX_ 45 13 rfl rfl ?_); refine goesY_ (some 13) Tryd.func45 #[.int .u64 a0_3] ?_; (with_reducible refine (vernierref04_Of.calls k a0_3 t419 _ A2.out).mono ?_); rintro e w19 ⟨v420, rfl, ho0, hb⟩; refine ⟨_, rfl, ?_⟩; have HO421 := Aside0.mk (Kd.R_lower ho0 (bZ (bR3 HB.out))); replace BK418 := Aside0.mk (bB3 BK418.out hb); replace HB := Aside0.mk (bS3 HB.out hb); (try clear hb); (try clear hk); (try clear ho0); obtain ⟨hcz20_0, hcz20_1, hcz20_2, hcz20_3, hfz20_0, hfz20_1, hfz20_2, hfz20_3⟩ := cl4 BK418.out; obtain ⟨Ao21, co21, eo21⟩ := Kd.R_slice HO421.out; subst eo21) | ((with_reducible refine gX_ 42 27 rfl rfl ?_); refine goesY_ (some 27) Tryd.func42 #[.slice Ao21 t419.length co21, .int .i64 (wrap64 (63 - a0_2))] ?_; (with_reducible refine (vernierref04_Shr.calls k _ _ t419 (wrap64 (63 - a0_2)) t425 _ ?side1 ?side2 A11.out).mono ?_); (case side1 => repeat (first | exact (Kd.R_reads' HO421.out).2.2 | (with_reducible refine Kd.C_alloc ?_ _) | (with_reducible refine Kd.C_drewN ?_ _) | (with_reducible refine Kd.C_drew ?_))); (case side2 => exact (Kd.R_reads' HO421.out).2.1); rintro e w22 ⟨v426, rfl, ho0, hb⟩; refine ⟨_, rfl, ?_⟩; have HO427 := Aside0.mk (Kd.R_lower (Kd.R_new' ho0 (Kd.R_lt (by (with_reducible repeat (first | apply Kd.R_alloc | apply Kd.R_drewN | apply Kd.R_drew)); exact HO421.out))) (bZ (bR3 HB.out))); replace HO421 := Aside0.mk (Kd.R_elder' (by (with_reducible repeat (first | apply Kd.R_alloc | apply Kd.R_drewN | apply Kd.R_drew)); exact HO421.out) (Kd.R_base ho0) hb); replace BK418 := Aside0.mk (bB3 BK418.out hb); replace HB := Aside0.mk (bS3 HB.out hb); (try clear hb); (try clear hk); (try clear ho0); obtain ⟨Ao23, co23, eo23⟩ := Kd.R_slice HO427.out; subst eo23) | ((with_reducible refine gX_ 41 31 rfl rfl ?_); refine goesY_ (some 31) Tryd.func41 #[.slice Ao23 t425.length co23, .int .i64 (wrap64 (63 - a0_2))] ?_; (with_reducible refine (vernierref04_Shl.calls k _ _ t425 (wrap64 (63 - a0_2)) t428 _ ?side1 ?side2 A12.out).mono ?_); (case side1 => repeat (first | exact (Kd.R_reads' HO427.out).2.2 | (with_reducible refine Kd.C_alloc ?_ _) | (with_reducible refine Kd.C_drewN ?_ _) | (with_reducible refine Kd.C_drew ?_))); (case side2 => exact (Kd.R_reads' HO427.out).2.1); rintro e w24 ⟨v429, rfl, ho0, hb⟩; refine ⟨_, rfl, ?_⟩; have HO430 := Aside0.mk (Kd.R_lower (Kd.R_new' (Kd.R_new' ho0 (Kd.R_lt (by (with_reducible repeat (first | apply Kd.R_alloc | apply Kd.R_drewN | apply Kd.R_drew)); exact HO421.out))) (Kd.R_lt (by (with_reducible repeat (first | apply Kd.R_alloc | apply Kd.R_drewN | apply Kd.R_drew)); exact HO427.out))) (bZ (bR3 HB.out))); replace HO421 := Aside0.mk (Kd.R_elder' (by (with_reducible repeat (first | apply Kd.R_alloc | apply Kd.R_drewN | apply Kd.R_drew)); exact HO421.out) (Kd.R_base ho0) hb); replace HO427 := Aside0.mk (Kd.R_elder' (by (with_reducible repeat (first | apply Kd.R_alloc | apply Kd.R_drewN | apply Kd.R_drew)); exact HO427.out) (Kd.R_base ho0) hb); replace BK418 := Aside0.mk (bB3 BK418.out hb); replace HB := Aside0.mk (bS3 HB.out hb); (try clear hb); (try clear hk); (try clear ho0); obtain ⟨Ao25, co25, eo25⟩ := Kd.R_slice HO430.out; subst eo25) | ((with_reducible refine gX_ 46 32 rfl rfl ?_); refine goesY_ (some 32) Tryd.func46 #[.slice Ao21 t419.length co21, .slice Ao25 t428.length co25] ?_; (with_reducible refine (vernierref04_Sub.calls k _ _ t419 _ _ t428 t431 _ ?side1 ?side2 ?side3 ?side4 A13.out).mono ?_); (case side1 => repeat (first | exact (Kd.R_reads' HO421.out).2.2 | (with_reducible refine Kd.C_alloc ?_ _) | (with_reducible refine Kd.C_drewN ?_ _) | (with_reducible refine Kd.C_drew ?_))); (case side2 => exact (Kd.R_reads' HO421.out).2.1); (case side3 => repeat (first | exact (Kd.R_reads' HO430.out).2.2 | (with_reducible refine Kd.C_alloc ?_ _) | (with_reducible refine Kd.C_drewN ?_ _) | (with_reducible refine Kd.C_drew ?_))); (case side4 => exact (Kd.R_reads' HO430.out).2.1); rintro e w26 ⟨v432, rfl, ho0, hb⟩; refine ⟨_, rfl, ?_⟩; have HO433 := Aside0.mk (Kd.R_lower (Kd.R_new' (Kd.R_new' (Kd.R_new' ho0 (Kd.R_lt (by (with_reducible repeat (first | apply Kd.R_alloc | apply Kd.R_drewN | apply Kd.R_drew)); exact HO421.out))) (Kd.R_lt (by (with_reducible repeat (first | apply Kd.R_alloc | apply Kd.R_drewN | apply Kd.R_drew)); exact HO427.out))) (Kd.R_lt (by (with_reducible repeat (first | apply Kd.R_alloc | apply Kd.R_drewN | apply Kd.R_drew)); exact HO430.out))) (bZ (bR3 HB.out))); replace HO421 := Aside0.mk (Kd.R_elder' (by (with_reducible repeat (first | apply Kd.R_alloc | apply Kd.R_drewN | apply Kd.R_drew)); exact HO421.out) (Kd.R_base ho0) hb); replace HO427 := Aside0.mk (Kd.R_elder' (by (with_reducible repeat (first | apply Kd.R_alloc | apply Kd.R_drewN | apply Kd.R_drew)); exact HO427.out) (Kd.R_base ho0) hb); replace HO430 := Aside0.mk (Kd.R_elder' (by (with_reducible repeat (first | apply Kd.R_alloc | apply Kd.R_drewN | apply Kd.R_drew)); exact HO430.out) (Kd.R_base ho0) hb); replace BK418 := Aside0.mk (bB3 BK418.out hb); replace HB := Aside0.mk (bS3 HB.out hb); (try clear hb); (try clear hk); (try clear ho0)) | ((with_reducible refine gD (N := 33) rfl ?_); refine Kd.R_lit (Kd.int .i64) _ 3 ?hg (N := 33) ?hd (xs := ([1] : List Int)) (inner := [.int .i64 1]) (ok := fun _ => True) (okp := fun _ => True) ?hr ?hp (fun _ hk => hk) trivial (Below.refl _ _) (Nat.le_refl _) (by simp) ?_; (case hd => rfl); (case hg => rfl); (case hr => first | (go_simp; done) | (go_simp; rfl)); (case hp => exact (Reps.one (show Kd.M (Kd.int .i64) _ _ _ 1 [.int .i64 1] from rfl) (Reps.none _ _))); intro v435 w27 ho28 hb hg_ hnew_; clear hg_ hnew_; (first | rw [← Ny434.out] at ho28 | (simp only [Int.reduceToNat] at ho28; rw [← Ny434.out] at ho28)); have HO436 := Aside0.mk (Kd.R_lower (Kd.R_new' (Kd.R_new' (Kd.R_new' (Kd.R_new' ho28 (Kd.R_lt (by (with_reducible repeat (first | apply Kd.R_alloc | apply Kd.R_drewN | apply Kd.R_drew)); exact HO421.out))) (Kd.R_lt (by (with_reducible repeat (first | apply Kd.R_alloc | apply Kd.R_drewN | apply Kd.R_drew)); exact HO427.out))) (Kd.R_lt (by (with_reducible repeat (first | apply Kd.R_alloc | apply Kd.R_drewN | apply Kd.R_drew)); exact HO430.out))) (Kd.R_lt (by (with_reducible repeat (first | apply Kd.R_alloc | apply Kd.R_drewN | apply Kd.R_drew)); exact HO433.out))) (bZ (bR3 HB.out))); replace HO421 := Aside0.mk (Kd.R_elder' (by (with_reducible repeat (first | apply Kd.R_alloc | apply Kd.R_drewN | apply Kd.R_drew)); exact HO421.out) (Kd.R_base ho28) hb); replace HO427 := Aside0.mk (Kd.R_elder' (by (with_reducible repeat (first | apply Kd.R_alloc | apply Kd.R_drewN | apply Kd.R_drew)); exact HO427.out) (Kd.R_base ho28) hb); replace HO430 := Aside0.mk (Kd.R_elder' (by (with_reducible repeat (first | apply Kd.R_alloc | apply Kd.R_drewN | apply Kd.R_drew)); exact HO430.out) (Kd.R_base ho28) hb); replace HO433 := Aside0.mk (Kd.R_elder' (by (with_reducible repeat (first | apply Kd.R_alloc | apply Kd.R_drewN | apply Kd.R_drew)); exact HO433.out) (Kd.R_base ho28) hb); replace BK418 := Aside0.mk (bB3 BK418.out hb); replace HB := Aside0.mk (bS3 HB.out hb); clear hb ho28; obtain ⟨Ao29, co29, eo29⟩ := Kd.R_slice HO436.out; subst eo29) | ((with_reducible refine gX_ 41 35 rfl rfl ?_); refine goesY_ (some 35) Tryd.func41 #[.slice Ao29 y434.length co29, .int .i64 (wrap64 (63 - a0_2))] ?_; (with_reducible refine (vernierref04_Shl.calls k _ _ y434 (wrap64 (63 - a0_2)) t437 _ ?side1 ?side2 A14.out).mono ?_); (case side1 => repeat (first | exact (Kd.R_reads' HO436.out).2.2 | (with_reducible refine Kd.C_alloc ?_ _) | (with_reducible refine Kd.C_drewN ?_ _) | (with_reducible refine Kd.C_drew ?_))); (case side2 => exact (Kd.R_reads' HO436.out).2.1); rintro e w30 ⟨v438, rfl, ho0, hb⟩; refine ⟨_, rfl, ?_⟩; have HO439 := Aside0.mk (Kd.R_lower (Kd.R_new' (Kd.R_new' (Kd.R_new' (Kd.R_new' (Kd.R_new' ho0 (Kd.R_lt (by (with_reducible repeat (first | apply Kd.R_alloc | apply Kd.R_drewN | apply Kd.R_drew)); exact HO421.out))) (Kd.R_lt (by (with_reducible repeat (first | apply Kd.R_alloc | apply Kd.R_drewN | apply Kd.R_drew)); exact HO427.out))) (Kd.R_lt (by (with_reducible repeat (first | apply Kd.R_alloc | apply Kd.R_drewN | apply Kd.R_drew)); exact HO430.out))) (Kd.R_lt (by (with_reducible repeat (first | apply Kd.R_alloc | apply Kd.R_drewN | apply Kd.R_drew)); exact HO433.out))) (Kd.R_lt (by (with_reducible repeat (first | apply Kd.R_alloc | apply Kd.R_drewN | apply Kd.R_drew)); exact HO436.out))) (bZ (bR3 HB.out))); replace HO421 := Aside0.mk (Kd.R_elder' (by (with_reducible repeat (first | apply Kd.R_alloc | apply Kd.R_drewN | apply Kd.R_drew)); exact HO421.out) (Kd.R_base ho0) hb); replace HO427 := Aside0.mk (Kd.R_elder' (by (with_reducible repeat (first | apply Kd.R_alloc | apply Kd.R_drewN | apply Kd.R_drew)); exact HO427.out) (Kd.R_base ho0) hb); replace HO430 := Aside0.mk (Kd.R_elder' (by (with_reducible repeat (first | apply Kd.R_alloc | apply Kd.R_drewN | apply Kd.R_drew)); exact HO430.out) (Kd.R_base ho0) hb); replace HO433 := Aside0.mk (Kd.R_elder' (by (with_reducible repeat (first | apply Kd.R_alloc | apply Kd.R_drewN | apply Kd.R_drew)); exact HO433.out) (Kd.R_base ho0) hb); replace HO436 := Aside0.mk (Kd.R_elder' (by (with_reducible repeat (first | apply Kd.R_alloc | apply Kd.R_drewN | apply Kd.R_drew)); exact HO436.out) (Kd.R_base ho0) hb); replace BK418 := Aside0.mk (bB3 BK418.out hb); replace HB := Aside0.mk (bS3 HB.out hb); (try clear hb); (try clear hk); (try clear ho0); obtain ⟨Ao31, co31, eo31⟩ := Kd.R_slice HO433.out; subst eo31) | ((with_reducible refine gX_ 37 38 rfl rfl ?_); refine goesY_ (some 38) Tryd.func37 #[.slice Ao31 t431.length co31, .slice Ao31 t431.length co31] ?_; (with_reducible refine (vernierref04_Add.calls k _ _ t431 _ _ t431 t440 _ ?side1 ?side2 ?side3 ?side4 A15.out).mono ?_); (case side1 => repeat (first | exact (Kd.R_reads' HO433.out).2.2 | (with_reducible refine Kd.C_alloc ?_ _) | (with_reducible refine Kd.C_drewN ?_ _) | (with_reducible refine Kd.C_drew ?_))); (case side2 => exact (Kd.R_reads' HO433.out).2.1); (case side3 => repeat (first | exact (Kd.R_reads' HO433.out).2.2 | (with_reducible refine Kd.C_alloc ?_ _) | (with_reducible refine Kd.C_drewN ?_ _) | (with_reducible refine Kd.C_drew ?_))); (case side4 => exact (Kd.R_reads' HO433.out).2.1); rintro e w32 ⟨v441, rfl, ho0, hb⟩; refine ⟨_, rfl, ?_⟩; have HO442 := Aside0.mk (Kd.R_lower (Kd.R_new' (Kd.R_new' (Kd.R_new' (Kd.R_new' (Kd.R_new' (Kd.R_new' ho0 (Kd.R_lt (by (with_reducible repeat (first | apply Kd.R_alloc | apply Kd.R_drewN | apply Kd.R_drew)); exact HO421.out))) (Kd.R_lt (by (with_reducible repeat (first | apply Kd.R_alloc | apply Kd.R_drewN | apply Kd.R_drew)); exact HO427.out))) (Kd.R_lt (by (with_reducible repeat (first | apply Kd.R_alloc | apply Kd.R_drewN | apply Kd.R_drew)); exact HO430.out))) (Kd.R_lt (by (with_reducible repeat (first | apply Kd.R_alloc | apply Kd.R_drewN | apply Kd.R_drew)); exact HO433.out))) (Kd.R_lt (by (with_reducible repeat (first | apply Kd.R_alloc | apply Kd.R_drewN | apply Kd.R_drew)); exact HO436.out))) (Kd.R_lt (by (with_reducible repeat (first | apply Kd.R_alloc | apply Kd.R_drewN | apply Kd.R_drew)); exact HO439.out))) (bZ (bR3 HB.out))); replace HO421 := Aside0.mk (Kd.R_elder' (by (with_reducible repeat (first | apply Kd.R_alloc | apply Kd.R_drewN | apply Kd.R_drew)); exact HO421.out) (Kd.R_base ho0) hb); replace HO427 := Aside0.mk (Kd.R_elder' (by (with_reducible repeat (first | apply Kd.R_alloc | apply Kd.R_drewN | apply Kd.R_drew)); exact HO427.out) (Kd.R_base ho0) hb); replace HO430 := Aside0.mk (Kd.R_elder' (by (with_reducible repeat (first | apply Kd.R_alloc | apply Kd.R_drewN | apply Kd.R_drew)); exact HO430.out) (Kd.R_base ho0) hb); replace HO433 := Aside0.mk (Kd.R_elder' (by (with_reducible repeat (first | apply Kd.R_alloc | apply Kd.R_drewN | apply Kd.R_drew)); exact HO433.out) (Kd.R_base ho0) hb); replace HO436 := Aside0.mk (Kd.R_elder' (by (with_reducible repeat (first | apply Kd.R_alloc | apply Kd.R_drewN | apply Kd.R_drew)); exact HO436.out) (Kd.R_base ho0) hb); replace HO439 := Aside0.mk (Kd.R_elder' (by (with_reducible repeat (first | apply Kd.R_alloc | apply Kd.R_drewN | apply Kd.R_drew)); exact HO439.out) (Kd.R_base ho0) hb); replace BK418 := Aside0.mk (bB3 BK418.out hb); replace HB := Aside0.mk (bS3 HB.out hb); (try clear hb); (try clear hk); (try clear ho0); obtain ⟨Ao33, co33, eo33⟩ := Kd.R_slice HO442.out; subst eo33; obtain ⟨Ao34, co34, eo34⟩ := Kd.R_slice HO439.out; subst eo34) | ((with_reducible refine gX_ 47 40 rfl rfl ?_); refine goesY_ (some 40) Tryd.func47 #[.slice Ao33 t440.length co33, .slice Ao34 t437.length co34] ?_; (with_reducible refine (vernierref04_Cmp.calls k _ _ t440 _ _ t437 t443 _ ?side1 ?side2 ?side3 ?side4 A16.out).mono ?_); (case side1 => repeat (first | exact (Kd.R_reads' HO442.out).2.2 | (with_reducible refine Kd.C_alloc ?_ _) | (with_reducible refine Kd.C_drewN ?_ _) | (with_reducible refine Kd.C_drew ?_))); (case side2 => exact (Kd.R_reads' HO442.out).2.1); (case side3 => repeat (first | exact (Kd.R_reads' HO439.out).2.2 | (with_reducible refine Kd.C_alloc ?_ _) | (with_reducible refine Kd.C_drewN ?_ _) | (with_reducible refine Kd.C_drew ?_))); (case side4 => exact (Kd.R_reads' HO439.out).2.1); rintro e w' ⟨rfl, ⟨nd, rfl⟩⟩; refine ⟨_, rfl, ?_⟩))
  go_ret3
  exact ⟨_, eR3, by (with_reducible repeat (first | apply Kd.R_alloc | apply Kd.R_drewN | apply Kd.R_drew)); exact Kd.R_mono HO427.out (fun _ hk => trivial), bR3 HB.out⟩
def vernierref16_To.j0 : Nat → Int → Int → Int → Bool → Option (Bool × List Int × Int)
 | 0, _, _, _, _ => none
 | k + 1, x0, x1, x2, x25 => if x25 = true then (some (false, ([] : List Int), 24)) else ((vernierref06_Decode.f k x0 x1).bind fun bt448 => (if bt448.1 = 2 then (some (false, ([] : List Int), 9)) else (if bt448.1 = 0 then (some (false, ([] : List Int), 0)) else ((vernierref16_parts.f k bt448.1 bt448.2.1 bt448.2.2.1 bt448.2.2.2).bind fun bt453 => (if x2 = 0 then ((vernierref04_Low.f k bt453.1 1).bind fun t458 => (if bt453.2.2 > 0 then ((vernierref04_Add.f k bt453.1 (([1] : List Int))).bind fun t462 => (if bt448.2.1 = true then (some (decide ((t462.length : Int) > 0), t462, 0)) else (some (false, t462, 0)))) else (if bt453.2.2 = 0 then (if t458 = true then ((vernierref04_Add.f k bt453.1 (([1] : List Int))).bind fun t468 => (if bt448.2.1 = true then (some (decide ((t468.length : Int) > 0), t468, 0)) else (some (false, t468, 0)))) else (if bt448.2.1 = true then (some (decide ((bt453.1.length : Int) > 0), bt453.1, 0)) else (some (false, bt453.1, 0)))) else (if bt448.2.1 = true then (some (decide ((bt453.1.length : Int) > 0), bt453.1, 0)) else (some (false, bt453.1, 0)))))) else (if x2 = 1 then (if bt453.2.1 = true then (if bt448.2.1 = true then ((vernierref04_Add.f k bt453.1 (([1] : List Int))).bind fun t474 => (some (decide ((t474.length : Int) > 0), t474, 0))) else (some (false, bt453.1, 0))) else (if bt448.2.1 = true then (some (decide ((bt453.1.length : Int) > 0), bt453.1, 0)) else (some (false, bt453.1, 0)))) else (if x2 = 2 then (if bt453.2.1 = true then (if bt448.2.1 = true then (some (decide ((bt453.1.length : Int) > 0), bt453.1, 0)) else ((vernierref04_Add.f k bt453.1 (([1] : List Int))).bind fun t480 => (some (false, t480, 0)))) else (if bt448.2.1 = true then (some (decide ((bt453.1.length : Int) > 0), bt453.1, 0)) else (some (false, bt453.1, 0)))) else (if bt448.2.1 = true then (some (decide ((bt453.1.length : Int) > 0), bt453.1, 0)) else (some (false, bt453.1, 0))))))))))
def vernierref16_To.f (k : Nat) (a0 : Int) (a1 : Int) (a2 : Int) : Option (Bool × List Int × Int) := (vernierref05_Is.f a0).bind fun t447 => (if t447 = true then (if a2 < 0 then (vernierref16_To.j0 k a0 a1 a2 true) else (vernierref16_To.j0 k a0 a1 a2 (decide (a2 > 3)))) else (some (false, ([] : List Int), 2)))
set_option maxHeartbeats 8000000 in
set_option maxRecDepth 100000 in
theorem vernierref16_To.calls (k : Nat) (a0 : Int) (a1 : Int) (a2 : Int) (r1 : Bool) (r2 : List Int) (r3 : Int) (w : World) (h : vernierref16_To.f k a0 a1 a2 = some (r1, r2, r3)) :
  Calls Tryd.prog 21 #[.int .i64 a0, .int .u64 a1, .int .i64 a2] w fun e w' => ∃ v1_ : Value, e = .returned (.tuple #[.bool r1, v1_, .int .i64 r3]) ∧ Kd.R (Kd.int .i64) 3 w' w.heap.size (fun _ => True) v1_ r2 ∧ Below w.heap.size w w' := by
 have hu52 := Tryd.underlying52
 have HB := Aside0.mk (Below.refl w.heap.size w)
 have H : ((vernierref05_Is.f a0).bind fun t447 => (if t447 = true then (if a2 < 0 then (vernierref16_To.j0 k a0 a1 a2 true) else (vernierref16_To.j0 k a0 a1 a2 (decide (a2 > 3)))) else (some (false, ([] : List Int), 2)))) = some (r1, r2, r3) := h
 clear h
 replace H := Option.bind_eq_some_iff.mp H
 obtain ⟨t447, A40, H⟩ := H
 try dsimp -simprocs only at H
 have A4 := Aside0.mk A40
 clear A40
 by_cases c5 : t447 = true
 ·
  subst c5
  rw [if_pos rfl] at H
  have HC6 := Aside0.mk H
  clear H
  go_enter Tryd.func21, Tryd.ntmps21
  go_upto_region 4 with (first | ((with_reducible refine gX_ 24 17 rfl rfl ?_); refine goesY_ (some 17) Tryd.func24 #[.int .i64 a0] ?_; (with_reducible refine (vernierref05_Is.calls a0 true _ A4.out).mono ?_); rintro e w' ⟨rfl, ⟨nd, rfl⟩⟩; refine ⟨_, rfl, ?_⟩))
  (try simp only [Act.put, lS_, lZ_, lC_])
  go_cut [25] (fun v25 wc => ∃ (kq : Nat) (x25_5 : Bool), v25 = .bool x25_5 ∧ Aside0 (vernierref16_To.j0 kq a0 a1 a2 x25_5 = some (r1, r2, r3)) ∧ Aside0 (kq ≤ k) ∧ Aside0 (Below w.heap.size w wc))
  case first =>
   have H := HC6.out
   clear HC6
   by_cases c7 : a2 < 0
   ·
    rw [if_pos c7] at H
    have c7b0 : decide (a2 < 0) = true := decide_eq_true c7
    clear c7
    (first | rw [c7b0] | (simp only [i64_w, i32_w]; rw [c7b0]) | skip)
    have H' := Aside0.mk H
    clear H
    go_wp2
    go_meet
    case rel => exact ⟨_, (true), (by first | rfl | (simp; done) | (simp [*]; done)), H', ⟨by first | omega | exact Nat.le_refl _⟩, ⟨bR3 HB.out⟩⟩
   ·
    rw [if_neg c7] at H
    have c7b0 : decide (a2 < 0) = false := decide_eq_false c7
    clear c7
    (first | rw [c7b0] | (simp only [i64_w, i32_w]; rw [c7b0]) | skip)
    have H' := Aside0.mk H
    clear H
    go_wp2
    go_meet
    case rel => exact ⟨_, (decide (a2 > 3)), (by first | rfl | (simp; done) | (simp [*]; done)), H', ⟨by first | omega | exact Nat.le_refl _⟩, ⟨bR3 HB.out⟩⟩
  case rest =>
   clear HC6
   try clear c2
   try clear p2
   try clear c5
   try clear c7
   try clear c7b0
   obtain ⟨kq, x25_5, rfl, HA, HJ5, HB⟩ := hcut
   cases kq with
   | zero => exact absurd HA.out (by simp [vernierref16_To.j0])
   | succ kj5 =>
    have H := HA.out
    clear HA
    simp only [vernierref16_To.j0] at H
    by_cases c8 : x25_5 = true
    ·
     subst c8
     rw [if_pos rfl] at H
     simp only [Option.some.injEq, Prod.mk.injEq] at H
     obtain ⟨rfl, rfl, rfl⟩ := H
     go_wp2
     go_ret3
     exact ⟨_, eR3, by first | exact Kd.R_nil _ _ _ _ _ | exact Kd.N_nil _ _ _ _ _ | exact Kd.V_nil _ _ _ _ _ | exact Kd.Q_nil _ _ _ _ _ | exact Kd.S_nil _ _ _ _ _, bR3 HB.out⟩
    ·
     replace c8 := Bool.eq_false_iff.mpr c8
     subst c8
     rw [if_neg (show ¬ (false = true) by decide)] at H
     replace H := Option.bind_eq_some_iff.mp H
     obtain ⟨⟨t448, t449, t450, t451⟩, A90, H⟩ := H
     try dsimp -simprocs only at H
     have A9 := Aside0.mk A90
     clear A90
     by_cases c10 : t448 = 2
     ·
      rw [if_pos c10] at H
      have c10b0 : (t448 == 2) = true := beq_iff_eq.mpr c10
      have c10b1 : (t448 != 2) = false := bne_eq_false_iff_eq.mpr c10
      clear c10
      simp only [Option.some.injEq, Prod.mk.injEq] at H
      obtain ⟨rfl, rfl, rfl⟩ := H
      go_wp2_with (first | ((with_reducible refine gX_ 25 28 rfl rfl ?_); refine goesY_ (some 28) Tryd.func25 #[.int .i64 a0, .int .u64 a1] ?_; (with_reducible refine (vernierref06_Decode.calls kj5 a0 a1 t448 t449 t450 t451 _ A9.out).mono ?_); rintro e w11 ⟨rfl, hb⟩; refine ⟨_, rfl, ?_⟩; replace HB := Aside0.mk (bS3 HB.out hb); (try clear hb); (try clear hk)) | ((with_reducible refine gD (N := 10) rfl ?_); (try (refine gate_guard (by rfl) ?_; dsimp only)); refine bE3 10 #[.int .i64 0, .bool false, .int .i64 0, .int .u64 0] 52 ?hr ?_; (case hr => first | (go_simp; done) | (go_simp; rfl)); intro gb452 hg w12 hbox hb; have BK452 := Aside0.mk (hbox); have GW452 := Aside0.mk ((bZ3 hg HB.out)); have GE452 := Aside0.mk ((bZ3 hg HB.out)); replace HB := Aside0.mk (bS3 HB.out hb); clear hb hbox hg; obtain ⟨hcz13_0, hcz13_1, hcz13_2, hcz13_3, hfz13_0, hfz13_1, hfz13_2, hfz13_3⟩ := cl4 BK452.out))
      go_ret3
      exact ⟨_, eR3, by first | exact Kd.R_nil _ _ _ _ _ | exact Kd.N_nil _ _ _ _ _ | exact Kd.V_nil _ _ _ _ _ | exact Kd.Q_nil _ _ _ _ _ | exact Kd.S_nil _ _ _ _ _, bR3 HB.out⟩
     ·
      rw [if_neg c10] at H
      have c10b0 : (t448 == 2) = false := beq_eq_false_iff_ne.mpr c10
      have c10b1 : (t448 != 2) = true := bne_iff_ne.mpr c10
      by_cases c14 : t448 = 0
      ·
       rw [if_pos c14] at H
       have c14b0 : (t448 == 0) = true := beq_iff_eq.mpr c14
       have c14b1 : (t448 != 0) = false := bne_eq_false_iff_eq.mpr c14
       clear c14
       simp only [Option.some.injEq, Prod.mk.injEq] at H
       obtain ⟨rfl, rfl, rfl⟩ := H
       go_wp2_with (first | ((with_reducible refine gX_ 25 28 rfl rfl ?_); refine goesY_ (some 28) Tryd.func25 #[.int .i64 a0, .int .u64 a1] ?_; (with_reducible refine (vernierref06_Decode.calls kj5 a0 a1 t448 t449 t450 t451 _ A9.out).mono ?_); rintro e w15 ⟨rfl, hb⟩; refine ⟨_, rfl, ?_⟩; replace HB := Aside0.mk (bS3 HB.out hb); (try clear hb); (try clear hk)) | ((with_reducible refine gD (N := 10) rfl ?_); (try (refine gate_guard (by rfl) ?_; dsimp only)); refine bE3 10 #[.int .i64 0, .bool false, .int .i64 0, .int .u64 0] 52 ?hr ?_; (case hr => first | (go_simp; done) | (go_simp; rfl)); intro gb452 hg w16 hbox hb; have BK452 := Aside0.mk (hbox); have GW452 := Aside0.mk ((bZ3 hg HB.out)); have GE452 := Aside0.mk ((bZ3 hg HB.out)); replace HB := Aside0.mk (bS3 HB.out hb); clear hb hbox hg; obtain ⟨hcz17_0, hcz17_1, hcz17_2, hcz17_3, hfz17_0, hfz17_1, hfz17_2, hfz17_3⟩ := cl4 BK452.out))
       go_ret3
       exact ⟨_, eR3, by first | exact Kd.R_nil _ _ _ _ _ | exact Kd.N_nil _ _ _ _ _ | exact Kd.V_nil _ _ _ _ _ | exact Kd.Q_nil _ _ _ _ _ | exact Kd.S_nil _ _ _ _ _, bR3 HB.out⟩
      ·
       rw [if_neg c14] at H
       have c14b0 : (t448 == 0) = false := beq_eq_false_iff_ne.mpr c14
       have c14b1 : (t448 != 0) = true := bne_iff_ne.mpr c14
       replace H := Option.bind_eq_some_iff.mp H
       obtain ⟨⟨t453, t456, t457⟩, A180, H⟩ := H
       try dsimp -simprocs only at H
       have A18 := Aside0.mk A180
       clear A180
       by_cases c19 : a2 = 0
       ·
        rw [if_pos c19] at H
        have c19b0 : (a2 == 0) = true := beq_iff_eq.mpr c19
        have c19b1 : (a2 != 0) = false := bne_eq_false_iff_eq.mpr c19
        clear c19
        replace H := Option.bind_eq_some_iff.mp H
        obtain ⟨t458, A200, H⟩ := H
        try dsimp -simprocs only at H
        have A20 := Aside0.mk A200
        clear A200
        by_cases c21 : t457 > 0
        ·
         rw [if_pos c21] at H
         have c21b0 : decide (0 < t457) = true := decide_eq_true c21
         clear c21
         obtain ⟨y459, hy459⟩ : ∃ y_ : List Int, y_ = (([1] : List Int)) := ⟨_, rfl⟩
         replace H : ((vernierref04_Add.f kj5 t453 y459).bind fun t462 => (if t449 = true then (some (decide ((t462.length : Int) > 0), t462, 0)) else (some (false, t462, 0)))) = some (r1, r2, r3) := by first | (rw [hy459]; with_reducible exact H) | (have H2_ := (Option.bind_some _ _).symm.trans H; rw [hy459]; with_reducible exact H2_) | (have H2_ := (Option.bind_some _ _).symm.trans H; with_reducible exact H2_) | with_reducible exact H | (rw [hy459]; exact H) | exact H
         have Ny459 := Aside0.mk hy459
         clear hy459
         replace H := Option.bind_eq_some_iff.mp H
         obtain ⟨t462, A220, H⟩ := H
         try dsimp -simprocs only at H
         have A22 := Aside0.mk A220
         clear A220
         by_cases c23 : t449 = true
         ·
          subst c23
          rw [if_pos rfl] at H
          simp only [Option.some.injEq, Prod.mk.injEq] at H
          obtain ⟨rfl, rfl, rfl⟩ := H
          go_wp2_with (first | ((with_reducible refine gX_ 25 28 rfl rfl ?_); refine goesY_ (some 28) Tryd.func25 #[.int .i64 a0, .int .u64 a1] ?_; (with_reducible refine (vernierref06_Decode.calls kj5 a0 a1 t448 true t450 t451 _ A9.out).mono ?_); rintro e w24 ⟨rfl, hb⟩; refine ⟨_, rfl, ?_⟩; replace HB := Aside0.mk (bS3 HB.out hb); (try clear hb); (try clear hk)) | ((with_reducible refine gD (N := 10) rfl ?_); (try (refine gate_guard (by rfl) ?_; dsimp only)); refine bE3 10 #[.int .i64 0, .bool false, .int .i64 0, .int .u64 0] 52 ?hr ?_; (case hr => first | (go_simp; done) | (go_simp; rfl)); intro gb452 hg w25 hbox hb; have BK452 := Aside0.mk (hbox); have GW452 := Aside0.mk ((bZ3 hg HB.out)); have GE452 := Aside0.mk ((bZ3 hg HB.out)); replace HB := Aside0.mk (bS3 HB.out hb); clear hb hbox hg; obtain ⟨hcz26_0, hcz26_1, hcz26_2, hcz26_3, hfz26_0, hfz26_1, hfz26_2, hfz26_3⟩ := cl4 BK452.out) | ((with_reducible refine gX_ 26 37 rfl rfl ?_); refine goesY_ (some 37) Tryd.func26 #[.agg #[.int .i64 t448, .bool true, .int .i64 t450, .int .u64 t451]] ?_; (with_reducible refine (vernierref16_parts.calls kj5 t448 true t450 t451 t453 t456 t457 _ A18.out).mono ?_); rintro e w27 ⟨v454, rfl, ho0, hb⟩; refine ⟨_, rfl, ?_⟩; have HO455 := Aside0.mk (Kd.R_lower ho0 (bZ (bR3 HB.out))); replace BK452 := Aside0.mk (bB (g := gb452) (o := .cells #[.int .i64 t448, .bool true, .int .i64 t450, .int .u64 t451] 52 (0, 0)) (bQ3 BK452.out) hb); replace HB := Aside0.mk (bS3 HB.out hb); (try clear hb); (try clear hk); (try clear ho0); obtain ⟨Ao28, co28, eo28⟩ := Kd.R_slice HO455.out; subst eo28) | ((with_reducible refine gX_ 36 45 rfl rfl ?_); refine goesY_ (some 45) Tryd.func36 #[.slice Ao28 t453.length co28, .int .i64 1] ?_; (with_reducible refine (vernierref04_Low.calls kj5 _ _ t453 1 t458 _ ?side1 ?side2 A20.out).mono ?_); (case side1 => repeat (first | exact (Kd.R_reads' HO455.out).2.2 | (with_reducible refine Kd.C_alloc ?_ _) | (with_reducible refine Kd.C_drewN ?_ _) | (with_reducible refine Kd.C_drew ?_))); (case side2 => exact (Kd.R_reads' HO455.out).2.1); rintro e w' ⟨rfl, ⟨nd, rfl⟩⟩; refine ⟨_, rfl, ?_⟩) | ((with_reducible refine gD (N := 72) rfl ?_); (try (refine gate_guard (by rfl) ?_; dsimp only)); refine Kd.R_lit (Kd.int .i64) _ 3 ?hg (N := 72) ?hd (xs := ([1] : List Int)) (inner := [.int .i64 1]) (ok := fun _ => True) (okp := fun _ => True) ?hr ?hp (fun _ hk => hk) trivial (Below.refl _ _) (Nat.le_refl _) (by simp) ?_; (case hd => rfl); (case hg => rfl); (case hr => first | (go_simp; done) | (go_simp; rfl)); (case hp => exact (Reps.one (show Kd.M (Kd.int .i64) _ _ _ 1 [.int .i64 1] from rfl) (Reps.none _ _))); intro v460 w29 ho30 hb hg_ hnew_; clear hg_ hnew_; (first | rw [← Ny459.out] at ho30 | (simp only [Int.reduceToNat] at ho30; rw [← Ny459.out] at ho30)); have HO461 := Aside0.mk (Kd.R_lower (Kd.R_new' ho30 (Kd.R_lt (by (with_reducible repeat (first | apply Kd.R_alloc | apply Kd.R_drewN | apply Kd.R_drew)); exact HO455.out))) (bZ (bR3 HB.out))); replace HO455 := Aside0.mk (Kd.R_elder' (by (with_reducible repeat (first | apply Kd.R_alloc | apply Kd.R_drewN | apply Kd.R_drew)); exact HO455.out) (Kd.R_base ho30) hb); replace BK452 := Aside0.mk (bB3 BK452.out hb); replace HB := Aside0.mk (bS3 HB.out hb); clear hb ho30; obtain ⟨Ao31, co31, eo31⟩ := Kd.R_slice HO461.out; subst eo31) | ((with_reducible refine gX_ 37 73 rfl rfl ?_); refine goesY_ (some 73) Tryd.func37 #[.slice Ao28 t453.length co28, .slice Ao31 y459.length co31] ?_; (with_reducible refine (vernierref04_Add.calls kj5 _ _ t453 _ _ y459 t462 _ ?side1 ?side2 ?side3 ?side4 A22.out).mono ?_); (case side1 => repeat (first | exact (Kd.R_reads' HO455.out).2.2 | (with_reducible refine Kd.C_alloc ?_ _) | (with_reducible refine Kd.C_drewN ?_ _) | (with_reducible refine Kd.C_drew ?_))); (case side2 => exact (Kd.R_reads' HO455.out).2.1); (case side3 => repeat (first | exact (Kd.R_reads' HO461.out).2.2 | (with_reducible refine Kd.C_alloc ?_ _) | (with_reducible refine Kd.C_drewN ?_ _) | (with_reducible refine Kd.C_drew ?_))); (case side4 => exact (Kd.R_reads' HO461.out).2.1); rintro e w32 ⟨v463, rfl, ho0, hb⟩; refine ⟨_, rfl, ?_⟩; have HO464 := Aside0.mk (Kd.R_lower (Kd.R_new' (Kd.R_new' ho0 (Kd.R_lt (by (with_reducible repeat (first | apply Kd.R_alloc | apply Kd.R_drewN | apply Kd.R_drew)); exact HO455.out))) (Kd.R_lt (by (with_reducible repeat (first | apply Kd.R_alloc | apply Kd.R_drewN | apply Kd.R_drew)); exact HO461.out))) (bZ (bR3 HB.out))); replace HO455 := Aside0.mk (Kd.R_elder' (by (with_reducible repeat (first | apply Kd.R_alloc | apply Kd.R_drewN | apply Kd.R_drew)); exact HO455.out) (Kd.R_base ho0) hb); replace HO461 := Aside0.mk (Kd.R_elder' (by (with_reducible repeat (first | apply Kd.R_alloc | apply Kd.R_drewN | apply Kd.R_drew)); exact HO461.out) (Kd.R_base ho0) hb); replace BK452 := Aside0.mk (bB3 BK452.out hb); replace HB := Aside0.mk (bS3 HB.out hb); (try clear hb); (try clear hk); (try clear ho0); obtain ⟨hcz33_0, hcz33_1, hcz33_2, hcz33_3, hfz33_0, hfz33_1, hfz33_2, hfz33_3⟩ := cl4 BK452.out; obtain ⟨Ao34, co34, eo34⟩ := Kd.R_slice HO464.out; subst eo34))
          go_ret3
          exact ⟨_, eR3, by (with_reducible repeat (first | apply Kd.R_alloc | apply Kd.R_drewN | apply Kd.R_drew)); exact Kd.R_mono HO464.out (fun _ hk => trivial), bR3 HB.out⟩
         ·
          replace c23 := Bool.eq_false_iff.mpr c23
          subst c23
          rw [if_neg (show ¬ (false = true) by decide)] at H
          simp only [Option.some.injEq, Prod.mk.injEq] at H
          obtain ⟨rfl, rfl, rfl⟩ := H
          go_wp2_with (first | ((with_reducible refine gX_ 25 28 rfl rfl ?_); refine goesY_ (some 28) Tryd.func25 #[.int .i64 a0, .int .u64 a1] ?_; (with_reducible refine (vernierref06_Decode.calls kj5 a0 a1 t448 false t450 t451 _ A9.out).mono ?_); rintro e w35 ⟨rfl, hb⟩; refine ⟨_, rfl, ?_⟩; replace HB := Aside0.mk (bS3 HB.out hb); (try clear hb); (try clear hk)) | ((with_reducible refine gD (N := 10) rfl ?_); (try (refine gate_guard (by rfl) ?_; dsimp only)); refine bE3 10 #[.int .i64 0, .bool false, .int .i64 0, .int .u64 0] 52 ?hr ?_; (case hr => first | (go_simp; done) | (go_simp; rfl)); intro gb452 hg w36 hbox hb; have BK452 := Aside0.mk (hbox); have GW452 := Aside0.mk ((bZ3 hg HB.out)); have GE452 := Aside0.mk ((bZ3 hg HB.out)); replace HB := Aside0.mk (bS3 HB.out hb); clear hb hbox hg; obtain ⟨hcz37_0, hcz37_1, hcz37_2, hcz37_3, hfz37_0, hfz37_1, hfz37_2, hfz37_3⟩ := cl4 BK452.out) | ((with_reducible refine gX_ 26 37 rfl rfl ?_); refine goesY_ (some 37) Tryd.func26 #[.agg #[.int .i64 t448, .bool false, .int .i64 t450, .int .u64 t451]] ?_; (with_reducible refine (vernierref16_parts.calls kj5 t448 false t450 t451 t453 t456 t457 _ A18.out).mono ?_); rintro e w38 ⟨v454, rfl, ho0, hb⟩; refine ⟨_, rfl, ?_⟩; have HO455 := Aside0.mk (Kd.R_lower ho0 (bZ (bR3 HB.out))); replace BK452 := Aside0.mk (bB (g := gb452) (o := .cells #[.int .i64 t448, .bool false, .int .i64 t450, .int .u64 t451] 52 (0, 0)) (bQ3 BK452.out) hb); replace HB := Aside0.mk (bS3 HB.out hb); (try clear hb); (try clear hk); (try clear ho0); obtain ⟨Ao39, co39, eo39⟩ := Kd.R_slice HO455.out; subst eo39) | ((with_reducible refine gX_ 36 45 rfl rfl ?_); refine goesY_ (some 45) Tryd.func36 #[.slice Ao39 t453.length co39, .int .i64 1] ?_; (with_reducible refine (vernierref04_Low.calls kj5 _ _ t453 1 t458 _ ?side1 ?side2 A20.out).mono ?_); (case side1 => repeat (first | exact (Kd.R_reads' HO455.out).2.2 | (with_reducible refine Kd.C_alloc ?_ _) | (with_reducible refine Kd.C_drewN ?_ _) | (with_reducible refine Kd.C_drew ?_))); (case side2 => exact (Kd.R_reads' HO455.out).2.1); rintro e w' ⟨rfl, ⟨nd, rfl⟩⟩; refine ⟨_, rfl, ?_⟩) | ((with_reducible refine gD (N := 72) rfl ?_); (try (refine gate_guard (by rfl) ?_; dsimp only)); refine Kd.R_lit (Kd.int .i64) _ 3 ?hg (N := 72) ?hd (xs := ([1] : List Int)) (inner := [.int .i64 1]) (ok := fun _ => True) (okp := fun _ => True) ?hr ?hp (fun _ hk => hk) trivial (Below.refl _ _) (Nat.le_refl _) (by simp) ?_; (case hd => rfl); (case hg => rfl); (case hr => first | (go_simp; done) | (go_simp; rfl)); (case hp => exact (Reps.one (show Kd.M (Kd.int .i64) _ _ _ 1 [.int .i64 1] from rfl) (Reps.none _ _))); intro v460 w40 ho41 hb hg_ hnew_; clear hg_ hnew_; (first | rw [← Ny459.out] at ho41 | (simp only [Int.reduceToNat] at ho41; rw [← Ny459.out] at ho41)); have HO461 := Aside0.mk (Kd.R_lower (Kd.R_new' ho41 (Kd.R_lt (by (with_reducible repeat (first | apply Kd.R_alloc | apply Kd.R_drewN | apply Kd.R_drew)); exact HO455.out))) (bZ (bR3 HB.out))); replace HO455 := Aside0.mk (Kd.R_elder' (by (with_reducible repeat (first | apply Kd.R_alloc | apply Kd.R_drewN | apply Kd.R_drew)); exact HO455.out) (Kd.R_base ho41) hb); replace BK452 := Aside0.mk (bB3 BK452.out hb); replace HB := Aside0.mk (bS3 HB.out hb); clear hb ho41; obtain ⟨Ao42, co42, eo42⟩ := Kd.R_slice HO461.out; subst eo42) | ((with_reducible refine gX_ 37 73 rfl rfl ?_); refine goesY_ (some 73) Tryd.func37 #[.slice Ao39 t453.length co39, .slice Ao42 y459.length co42] ?_; (with_reducible refine (vernierref04_Add.calls kj5 _ _ t453 _ _ y459 t462 _ ?side1 ?side2 ?side3 ?side4 A22.out).mono ?_); (case side1 => repeat (first | exact (Kd.R_reads' HO455.out).2.2 | (with_reducible refine Kd.C_alloc ?_ _) | (with_reducible refine Kd.C_drewN ?_ _) | (with_reducible refine Kd.C_drew ?_))); (case side2 => exact (Kd.R_reads' HO455.out).2.1); (case side3 => repeat (first | exact (Kd.R_reads' HO461.out).2.2 | (with_reducible refine Kd.C_alloc ?_ _) | (with_reducible refine Kd.C_drewN ?_ _) | (with_reducible refine Kd.C_drew ?_))); (case side4 => exact (Kd.R_reads' HO461.out).2.1); rintro e w43 ⟨v463, rfl, ho0, hb⟩; refine ⟨_, rfl, ?_⟩; have HO464 := Aside0.mk (Kd.R_lower (Kd.R_new' (Kd.R_new' ho0 (Kd.R_lt (by (with_reducible repeat (first | apply Kd.R_alloc | apply Kd.R_drewN | apply Kd.R_drew)); exact HO455.out))) (Kd.R_lt (by (with_reducible repeat (first | apply Kd.R_alloc | apply Kd.R_drewN | apply Kd.R_drew)); exact HO461.out))) (bZ (bR3 HB.out))); replace HO455 := Aside0.mk (Kd.R_elder' (by (with_reducible repeat (first | apply Kd.R_alloc | apply Kd.R_drewN | apply Kd.R_drew)); exact HO455.out) (Kd.R_base ho0) hb); replace HO461 := Aside0.mk (Kd.R_elder' (by (with_reducible repeat (first | apply Kd.R_alloc | apply Kd.R_drewN | apply Kd.R_drew)); exact HO461.out) (Kd.R_base ho0) hb); replace BK452 := Aside0.mk (bB3 BK452.out hb); replace HB := Aside0.mk (bS3 HB.out hb); (try clear hb); (try clear hk); (try clear ho0); obtain ⟨hcz44_0, hcz44_1, hcz44_2, hcz44_3, hfz44_0, hfz44_1, hfz44_2, hfz44_3⟩ := cl4 BK452.out))
          go_ret3
          exact ⟨_, eR3, by (with_reducible repeat (first | apply Kd.R_alloc | apply Kd.R_drewN | apply Kd.R_drew)); exact Kd.R_mono HO464.out (fun _ hk => trivial), bR3 HB.out⟩
        ·
         rw [if_neg c21] at H
         have c21b0 : decide (0 < t457) = false := decide_eq_false c21
         clear c21
         by_cases c45 : t457 = 0
         ·
          rw [if_pos c45] at H
          have c45b0 : (t457 == 0) = true := beq_iff_eq.mpr c45
          have c45b1 : (t457 != 0) = false := bne_eq_false_iff_eq.mpr c45
          clear c45
          by_cases c46 : t458 = true
          ·
           subst c46
           rw [if_pos rfl] at H
           obtain ⟨y465, hy465⟩ : ∃ y_ : List Int, y_ = (([1] : List Int)) := ⟨_, rfl⟩
           replace H : ((vernierref04_Add.f kj5 t453 y465).bind fun t468 => (if t449 = true then (some (decide ((t468.length : Int) > 0), t468, 0)) else (some (false, t468, 0)))) = some (r1, r2, r3) := by first | (rw [hy465]; with_reducible exact H) | (have H2_ := (Option.bind_some _ _).symm.trans H; rw [hy465]; with_reducible exact H2_) | (have H2_ := (Option.bind_some _ _).symm.trans H; with_reducible exact H2_) | with_reducible exact H | (rw [hy465]; exact H) | exact H
           have Ny465 := Aside0.mk hy465
           clear hy465
           replace H := Option.bind_eq_some_iff.mp H
           obtain ⟨t468, A470, H⟩ := H
           try dsimp -simprocs only at H
           have A47 := Aside0.mk A470
           clear A470
           by_cases c48 : t449 = true
           ·
            subst c48
            rw [if_pos rfl] at H
            simp only [Option.some.injEq, Prod.mk.injEq] at H
            obtain ⟨rfl, rfl, rfl⟩ := H
            go_wp2_with (first | ((with_reducible refine gX_ 25 28 rfl rfl ?_); refine goesY_ (some 28) Tryd.func25 #[.int .i64 a0, .int .u64 a1] ?_; (with_reducible refine (vernierref06_Decode.calls kj5 a0 a1 t448 true t450 t451 _ A9.out).mono ?_); rintro e w49 ⟨rfl, hb⟩; refine ⟨_, rfl, ?_⟩; replace HB := Aside0.mk (bS3 HB.out hb); (try clear hb); (try clear hk)) | ((with_reducible refine gD (N := 10) rfl ?_); (try (refine gate_guard (by rfl) ?_; dsimp only)); refine bE3 10 #[.int .i64 0, .bool false, .int .i64 0, .int .u64 0] 52 ?hr ?_; (case hr => first | (go_simp; done) | (go_simp; rfl)); intro gb452 hg w50 hbox hb; have BK452 := Aside0.mk (hbox); have GW452 := Aside0.mk ((bZ3 hg HB.out)); have GE452 := Aside0.mk ((bZ3 hg HB.out)); replace HB := Aside0.mk (bS3 HB.out hb); clear hb hbox hg; obtain ⟨hcz51_0, hcz51_1, hcz51_2, hcz51_3, hfz51_0, hfz51_1, hfz51_2, hfz51_3⟩ := cl4 BK452.out) | ((with_reducible refine gX_ 26 37 rfl rfl ?_); refine goesY_ (some 37) Tryd.func26 #[.agg #[.int .i64 t448, .bool true, .int .i64 t450, .int .u64 t451]] ?_; (with_reducible refine (vernierref16_parts.calls kj5 t448 true t450 t451 t453 t456 t457 _ A18.out).mono ?_); rintro e w52 ⟨v454, rfl, ho0, hb⟩; refine ⟨_, rfl, ?_⟩; have HO455 := Aside0.mk (Kd.R_lower ho0 (bZ (bR3 HB.out))); replace BK452 := Aside0.mk (bB (g := gb452) (o := .cells #[.int .i64 t448, .bool true, .int .i64 t450, .int .u64 t451] 52 (0, 0)) (bQ3 BK452.out) hb); replace HB := Aside0.mk (bS3 HB.out hb); (try clear hb); (try clear hk); (try clear ho0); obtain ⟨Ao53, co53, eo53⟩ := Kd.R_slice HO455.out; subst eo53) | ((with_reducible refine gX_ 36 45 rfl rfl ?_); refine goesY_ (some 45) Tryd.func36 #[.slice Ao53 t453.length co53, .int .i64 1] ?_; (with_reducible refine (vernierref04_Low.calls kj5 _ _ t453 1 true _ ?side1 ?side2 A20.out).mono ?_); (case side1 => repeat (first | exact (Kd.R_reads' HO455.out).2.2 | (with_reducible refine Kd.C_alloc ?_ _) | (with_reducible refine Kd.C_drewN ?_ _) | (with_reducible refine Kd.C_drew ?_))); (case side2 => exact (Kd.R_reads' HO455.out).2.1); rintro e w' ⟨rfl, ⟨nd, rfl⟩⟩; refine ⟨_, rfl, ?_⟩) | ((with_reducible refine gD (N := 72) rfl ?_); (try (refine gate_guard (by rfl) ?_; dsimp only)); refine Kd.R_lit (Kd.int .i64) _ 3 ?hg (N := 72) ?hd (xs := ([1] : List Int)) (inner := [.int .i64 1]) (ok := fun _ => True) (okp := fun _ => True) ?hr ?hp (fun _ hk => hk) trivial (Below.refl _ _) (Nat.le_refl _) (by simp) ?_; (case hd => rfl); (case hg => rfl); (case hr => first | (go_simp; done) | (go_simp; rfl)); (case hp => exact (Reps.one (show Kd.M (Kd.int .i64) _ _ _ 1 [.int .i64 1] from rfl) (Reps.none _ _))); intro v466 w54 ho55 hb hg_ hnew_; clear hg_ hnew_; (first | rw [← Ny465.out] at ho55 | (simp only [Int.reduceToNat] at ho55; rw [← Ny465.out] at ho55)); have HO467 := Aside0.mk (Kd.R_lower (Kd.R_new' ho55 (Kd.R_lt (by (with_reducible repeat (first | apply Kd.R_alloc | apply Kd.R_drewN | apply Kd.R_drew)); exact HO455.out))) (bZ (bR3 HB.out))); replace HO455 := Aside0.mk (Kd.R_elder' (by (with_reducible repeat (first | apply Kd.R_alloc | apply Kd.R_drewN | apply Kd.R_drew)); exact HO455.out) (Kd.R_base ho55) hb); replace BK452 := Aside0.mk (bB3 BK452.out hb); replace HB := Aside0.mk (bS3 HB.out hb); clear hb ho55; obtain ⟨Ao56, co56, eo56⟩ := Kd.R_slice HO467.out; subst eo56) | ((with_reducible refine gX_ 37 73 rfl rfl ?_); refine goesY_ (some 73) Tryd.func37 #[.slice Ao53 t453.length co53, .slice Ao56 y465.length co56] ?_; (with_reducible refine (vernierref04_Add.calls kj5 _ _ t453 _ _ y465 t468 _ ?side1 ?side2 ?side3 ?side4 A47.out).mono ?_); (case side1 => repeat (first | exact (Kd.R_reads' HO455.out).2.2 | (with_reducible refine Kd.C_alloc ?_ _) | (with_reducible refine Kd.C_drewN ?_ _) | (with_reducible refine Kd.C_drew ?_))); (case side2 => exact (Kd.R_reads' HO455.out).2.1); (case side3 => repeat (first | exact (Kd.R_reads' HO467.out).2.2 | (with_reducible refine Kd.C_alloc ?_ _) | (with_reducible refine Kd.C_drewN ?_ _) | (with_reducible refine Kd.C_drew ?_))); (case side4 => exact (Kd.R_reads' HO467.out).2.1); rintro e w57 ⟨v469, rfl, ho0, hb⟩; refine ⟨_, rfl, ?_⟩; have HO470 := Aside0.mk (Kd.R_lower (Kd.R_new' (Kd.R_new' ho0 (Kd.R_lt (by (with_reducible repeat (first | apply Kd.R_alloc | apply Kd.R_drewN | apply Kd.R_drew)); exact HO455.out))) (Kd.R_lt (by (with_reducible repeat (first | apply Kd.R_alloc | apply Kd.R_drewN | apply Kd.R_drew)); exact HO467.out))) (bZ (bR3 HB.out))); replace HO455 := Aside0.mk (Kd.R_elder' (by (with_reducible repeat (first | apply Kd.R_alloc | apply Kd.R_drewN | apply Kd.R_drew)); exact HO455.out) (Kd.R_base ho0) hb); replace HO467 := Aside0.mk (Kd.R_elder' (by (with_reducible repeat (first | apply Kd.R_alloc | apply Kd.R_drewN | apply Kd.R_drew)); exact HO467.out) (Kd.R_base ho0) hb); replace BK452 := Aside0.mk (bB3 BK452.out hb); replace HB := Aside0.mk (bS3 HB.out hb); (try clear hb); (try clear hk); (try clear ho0); obtain ⟨hcz58_0, hcz58_1, hcz58_2, hcz58_3, hfz58_0, hfz58_1, hfz58_2, hfz58_3⟩ := cl4 BK452.out; obtain ⟨Ao59, co59, eo59⟩ := Kd.R_slice HO470.out; subst eo59))
            go_ret3
            exact ⟨_, eR3, by (with_reducible repeat (first | apply Kd.R_alloc | apply Kd.R_drewN | apply Kd.R_drew)); exact Kd.R_mono HO470.out (fun _ hk => trivial), bR3 HB.out⟩
           ·
            replace c48 := Bool.eq_false_iff.mpr c48
            subst c48
            rw [if_neg (show ¬ (false = true) by decide)] at H
            simp only [Option.some.injEq, Prod.mk.injEq] at H
            obtain ⟨rfl, rfl, rfl⟩ := H
            go_wp2_with (first | ((with_reducible refine gX_ 25 28 rfl rfl ?_); refine goesY_ (some 28) Tryd.func25 #[.int .i64 a0, .int .u64 a1] ?_; (with_reducible refine (vernierref06_Decode.calls kj5 a0 a1 t448 false t450 t451 _ A9.out).mono ?_); rintro e w60 ⟨rfl, hb⟩; refine ⟨_, rfl, ?_⟩; replace HB := Aside0.mk (bS3 HB.out hb); (try clear hb); (try clear hk)) | ((with_reducible refine gD (N := 10) rfl ?_); (try (refine gate_guard (by rfl) ?_; dsimp only)); refine bE3 10 #[.int .i64 0, .bool false, .int .i64 0, .int .u64 0] 52 ?hr ?_; (case hr => first | (go_simp; done) | (go_simp; rfl)); intro gb452 hg w61 hbox hb; have BK452 := Aside0.mk (hbox); have GW452 := Aside0.mk ((bZ3 hg HB.out)); have GE452 := Aside0.mk ((bZ3 hg HB.out)); replace HB := Aside0.mk (bS3 HB.out hb); clear hb hbox hg; obtain ⟨hcz62_0, hcz62_1, hcz62_2, hcz62_3, hfz62_0, hfz62_1, hfz62_2, hfz62_3⟩ := cl4 BK452.out) | ((with_reducible refine gX_ 26 37 rfl rfl ?_); refine goesY_ (some 37) Tryd.func26 #[.agg #[.int .i64 t448, .bool false, .int .i64 t450, .int .u64 t451]] ?_; (with_reducible refine (vernierref16_parts.calls kj5 t448 false t450 t451 t453 t456 t457 _ A18.out).mono ?_); rintro e w63 ⟨v454, rfl, ho0, hb⟩; refine ⟨_, rfl, ?_⟩; have HO455 := Aside0.mk (Kd.R_lower ho0 (bZ (bR3 HB.out))); replace BK452 := Aside0.mk (bB (g := gb452) (o := .cells #[.int .i64 t448, .bool false, .int .i64 t450, .int .u64 t451] 52 (0, 0)) (bQ3 BK452.out) hb); replace HB := Aside0.mk (bS3 HB.out hb); (try clear hb); (try clear hk); (try clear ho0); obtain ⟨Ao64, co64, eo64⟩ := Kd.R_slice HO455.out; subst eo64) | ((with_reducible refine gX_ 36 45 rfl rfl ?_); refine goesY_ (some 45) Tryd.func36 #[.slice Ao64 t453.length co64, .int .i64 1] ?_; (with_reducible refine (vernierref04_Low.calls kj5 _ _ t453 1 true _ ?side1 ?side2 A20.out).mono ?_); (case side1 => repeat (first | exact (Kd.R_reads' HO455.out).2.2 | (with_reducible refine Kd.C_alloc ?_ _) | (with_reducible refine Kd.C_drewN ?_ _) | (with_reducible refine Kd.C_drew ?_))); (case side2 => exact (Kd.R_reads' HO455.out).2.1); rintro e w' ⟨rfl, ⟨nd, rfl⟩⟩; refine ⟨_, rfl, ?_⟩) | ((with_reducible refine gD (N := 72) rfl ?_); (try (refine gate_guard (by rfl) ?_; dsimp only)); refine Kd.R_lit (Kd.int .i64) _ 3 ?hg (N := 72) ?hd (xs := ([1] : List Int)) (inner := [.int .i64 1]) (ok := fun _ => True) (okp := fun _ => True) ?hr ?hp (fun _ hk => hk) trivial (Below.refl _ _) (Nat.le_refl _) (by simp) ?_; (case hd => rfl); (case hg => rfl); (case hr => first | (go_simp; done) | (go_simp; rfl)); (case hp => exact (Reps.one (show Kd.M (Kd.int .i64) _ _ _ 1 [.int .i64 1] from rfl) (Reps.none _ _))); intro v466 w65 ho66 hb hg_ hnew_; clear hg_ hnew_; (first | rw [← Ny465.out] at ho66 | (simp only [Int.reduceToNat] at ho66; rw [← Ny465.out] at ho66)); have HO467 := Aside0.mk (Kd.R_lower (Kd.R_new' ho66 (Kd.R_lt (by (with_reducible repeat (first | apply Kd.R_alloc | apply Kd.R_drewN | apply Kd.R_drew)); exact HO455.out))) (bZ (bR3 HB.out))); replace HO455 := Aside0.mk (Kd.R_elder' (by (with_reducible repeat (first | apply Kd.R_alloc | apply Kd.R_drewN | apply Kd.R_drew)); exact HO455.out) (Kd.R_base ho66) hb); replace BK452 := Aside0.mk (bB3 BK452.out hb); replace HB := Aside0.mk (bS3 HB.out hb); clear hb ho66; obtain ⟨Ao67, co67, eo67⟩ := Kd.R_slice HO467.out; subst eo67) | ((with_reducible refine gX_ 37 73 rfl rfl ?_); refine goesY_ (some 73) Tryd.func37 #[.slice Ao64 t453.length co64, .slice Ao67 y465.length co67] ?_; (with_reducible refine (vernierref04_Add.calls kj5 _ _ t453 _ _ y465 t468 _ ?side1 ?side2 ?side3 ?side4 A47.out).mono ?_); (case side1 => repeat (first | exact (Kd.R_reads' HO455.out).2.2 | (with_reducible refine Kd.C_alloc ?_ _) | (with_reducible refine Kd.C_drewN ?_ _) | (with_reducible refine Kd.C_drew ?_))); (case side2 => exact (Kd.R_reads' HO455.out).2.1); (case side3 => repeat (first | exact (Kd.R_reads' HO467.out).2.2 | (with_reducible refine Kd.C_alloc ?_ _) | (with_reducible refine Kd.C_drewN ?_ _) | (with_reducible refine Kd.C_drew ?_))); (case side4 => exact (Kd.R_reads' HO467.out).2.1); rintro e w68 ⟨v469, rfl, ho0, hb⟩; refine ⟨_, rfl, ?_⟩; have HO470 := Aside0.mk (Kd.R_lower (Kd.R_new' (Kd.R_new' ho0 (Kd.R_lt (by (with_reducible repeat (first | apply Kd.R_alloc | apply Kd.R_drewN | apply Kd.R_drew)); exact HO455.out))) (Kd.R_lt (by (with_reducible repeat (first | apply Kd.R_alloc | apply Kd.R_drewN | apply Kd.R_drew)); exact HO467.out))) (bZ (bR3 HB.out))); replace HO455 := Aside0.mk (Kd.R_elder' (by (with_reducible repeat (first | apply Kd.R_alloc | apply Kd.R_drewN | apply Kd.R_drew)); exact HO455.out) (Kd.R_base ho0) hb); replace HO467 := Aside0.mk (Kd.R_elder' (by (with_reducible repeat (first | apply Kd.R_alloc | apply Kd.R_drewN | apply Kd.R_drew)); exact HO467.out) (Kd.R_base ho0) hb); replace BK452 := Aside0.mk (bB3 BK452.out hb); replace HB := Aside0.mk (bS3 HB.out hb); (try clear hb); (try clear hk); (try clear ho0); obtain ⟨hcz69_0, hcz69_1, hcz69_2, hcz69_3, hfz69_0, hfz69_1, hfz69_2, hfz69_3⟩ := cl4 BK452.out))
            go_ret3
            exact ⟨_, eR3, by (with_reducible repeat (first | apply Kd.R_alloc | apply Kd.R_drewN | apply Kd.R_drew)); exact Kd.R_mono HO470.out (fun _ hk => trivial), bR3 HB.out⟩
          ·
           replace c46 := Bool.eq_false_iff.mpr c46
           subst c46
           rw [if_neg (show ¬ (false = true) by decide)] at H
           by_cases c70 : t449 = true
           ·
            subst c70
            rw [if_pos rfl] at H
            simp only [Option.some.injEq, Prod.mk.injEq] at H
            obtain ⟨rfl, rfl, rfl⟩ := H
            go_wp2_with (first | ((with_reducible refine gX_ 25 28 rfl rfl ?_); refine goesY_ (some 28) Tryd.func25 #[.int .i64 a0, .int .u64 a1] ?_; (with_reducible refine (vernierref06_Decode.calls kj5 a0 a1 t448 true t450 t451 _ A9.out).mono ?_); rintro e w71 ⟨rfl, hb⟩; refine ⟨_, rfl, ?_⟩; replace HB := Aside0.mk (bS3 HB.out hb); (try clear hb); (try clear hk)) | ((with_reducible refine gD (N := 10) rfl ?_); (try (refine gate_guard (by rfl) ?_; dsimp only)); refine bE3 10 #[.int .i64 0, .bool false, .int .i64 0, .int .u64 0] 52 ?hr ?_; (case hr => first | (go_simp; done) | (go_simp; rfl)); intro gb452 hg w72 hbox hb; have BK452 := Aside0.mk (hbox); have GW452 := Aside0.mk ((bZ3 hg HB.out)); have GE452 := Aside0.mk ((bZ3 hg HB.out)); replace HB := Aside0.mk (bS3 HB.out hb); clear hb hbox hg; obtain ⟨hcz73_0, hcz73_1, hcz73_2, hcz73_3, hfz73_0, hfz73_1, hfz73_2, hfz73_3⟩ := cl4 BK452.out) | ((with_reducible refine gX_ 26 37 rfl rfl ?_); refine goesY_ (some 37) Tryd.func26 #[.agg #[.int .i64 t448, .bool true, .int .i64 t450, .int .u64 t451]] ?_; (with_reducible refine (vernierref16_parts.calls kj5 t448 true t450 t451 t453 t456 t457 _ A18.out).mono ?_); rintro e w74 ⟨v454, rfl, ho0, hb⟩; refine ⟨_, rfl, ?_⟩; have HO455 := Aside0.mk (Kd.R_lower ho0 (bZ (bR3 HB.out))); replace BK452 := Aside0.mk (bB (g := gb452) (o := .cells #[.int .i64 t448, .bool true, .int .i64 t450, .int .u64 t451] 52 (0, 0)) (bQ3 BK452.out) hb); replace HB := Aside0.mk (bS3 HB.out hb); (try clear hb); (try clear hk); (try clear ho0); obtain ⟨Ao75, co75, eo75⟩ := Kd.R_slice HO455.out; subst eo75) | ((with_reducible refine gX_ 36 45 rfl rfl ?_); refine goesY_ (some 45) Tryd.func36 #[.slice Ao75 t453.length co75, .int .i64 1] ?_; (with_reducible refine (vernierref04_Low.calls kj5 _ _ t453 1 false _ ?side1 ?side2 A20.out).mono ?_); (case side1 => repeat (first | exact (Kd.R_reads' HO455.out).2.2 | (with_reducible refine Kd.C_alloc ?_ _) | (with_reducible refine Kd.C_drewN ?_ _) | (with_reducible refine Kd.C_drew ?_))); (case side2 => exact (Kd.R_reads' HO455.out).2.1); rintro e w' ⟨rfl, ⟨nd, rfl⟩⟩; refine ⟨_, rfl, ?_⟩; obtain ⟨hcz76_0, hcz76_1, hcz76_2, hcz76_3, hfz76_0, hfz76_1, hfz76_2, hfz76_3⟩ := cl4 BK452.out))
            go_ret3
            exact ⟨_, eR3, by (with_reducible repeat (first | apply Kd.R_alloc | apply Kd.R_drewN | apply Kd.R_drew)); exact HO455.out, bR3 HB.out⟩
           ·
            replace c70 := Bool.eq_false_iff.mpr c70
            subst c70
            rw [if_neg (show ¬ (false = true) by decide)] at H
            simp only [Option.some.injEq, Prod.mk.injEq] at H
            obtain ⟨rfl, rfl, rfl⟩ := H
            go_wp2_with (first | ((with_reducible refine gX_ 25 28 rfl rfl ?_); refine goesY_ (some 28) Tryd.func25 #[.int .i64 a0, .int .u64 a1] ?_; (with_reducible refine (vernierref06_Decode.calls kj5 a0 a1 t448 false t450 t451 _ A9.out).mono ?_); rintro e w77 ⟨rfl, hb⟩; refine ⟨_, rfl, ?_⟩; replace HB := Aside0.mk (bS3 HB.out hb); (try clear hb); (try clear hk)) | ((with_reducible refine gD (N := 10) rfl ?_); (try (refine gate_guard (by rfl) ?_; dsimp only)); refine bE3 10 #[.int .i64 0, .bool false, .int .i64 0, .int .u64 0] 52 ?hr ?_; (case hr => first | (go_simp; done) | (go_simp; rfl)); intro gb452 hg w78 hbox hb; have BK452 := Aside0.mk (hbox); have GW452 := Aside0.mk ((bZ3 hg HB.out)); have GE452 := Aside0.mk ((bZ3 hg HB.out)); replace HB := Aside0.mk (bS3 HB.out hb); clear hb hbox hg; obtain ⟨hcz79_0, hcz79_1, hcz79_2, hcz79_3, hfz79_0, hfz79_1, hfz79_2, hfz79_3⟩ := cl4 BK452.out) | ((with_reducible refine gX_ 26 37 rfl rfl ?_); refine goesY_ (some 37) Tryd.func26 #[.agg #[.int .i64 t448, .bool false, .int .i64 t450, .int .u64 t451]] ?_; (with_reducible refine (vernierref16_parts.calls kj5 t448 false t450 t451 t453 t456 t457 _ A18.out).mono ?_); rintro e w80 ⟨v454, rfl, ho0, hb⟩; refine ⟨_, rfl, ?_⟩; have HO455 := Aside0.mk (Kd.R_lower ho0 (bZ (bR3 HB.out))); replace BK452 := Aside0.mk (bB (g := gb452) (o := .cells #[.int .i64 t448, .bool false, .int .i64 t450, .int .u64 t451] 52 (0, 0)) (bQ3 BK452.out) hb); replace HB := Aside0.mk (bS3 HB.out hb); (try clear hb); (try clear hk); (try clear ho0); obtain ⟨Ao81, co81, eo81⟩ := Kd.R_slice HO455.out; subst eo81) | ((with_reducible refine gX_ 36 45 rfl rfl ?_); refine goesY_ (some 45) Tryd.func36 #[.slice Ao81 t453.length co81, .int .i64 1] ?_; (with_reducible refine (vernierref04_Low.calls kj5 _ _ t453 1 false _ ?side1 ?side2 A20.out).mono ?_); (case side1 => repeat (first | exact (Kd.R_reads' HO455.out).2.2 | (with_reducible refine Kd.C_alloc ?_ _) | (with_reducible refine Kd.C_drewN ?_ _) | (with_reducible refine Kd.C_drew ?_))); (case side2 => exact (Kd.R_reads' HO455.out).2.1); rintro e w' ⟨rfl, ⟨nd, rfl⟩⟩; refine ⟨_, rfl, ?_⟩; obtain ⟨hcz82_0, hcz82_1, hcz82_2, hcz82_3, hfz82_0, hfz82_1, hfz82_2, hfz82_3⟩ := cl4 BK452.out))
            go_ret3
            exact ⟨_, eR3, by (with_reducible repeat (first | apply Kd.R_alloc | apply Kd.R_drewN | apply Kd.R_drew)); exact HO455.out, bR3 HB.out⟩
         ·
          rw [if_neg c45] at H
          have c45b0 : (t457 == 0) = false := beq_eq_false_iff_ne.mpr c45
          have c45b1 : (t457 != 0) = true := bne_iff_ne.mpr c45
          by_cases c83 : t449 = true
          ·
           subst c83
           rw [if_pos rfl] at H
           simp only [Option.some.injEq, Prod.mk.injEq] at H
           obtain ⟨rfl, rfl, rfl⟩ := H
           go_wp2_with (first | ((with_reducible refine gX_ 25 28 rfl rfl ?_); refine goesY_ (some 28) Tryd.func25 #[.int .i64 a0, .int .u64 a1] ?_; (with_reducible refine (vernierref06_Decode.calls kj5 a0 a1 t448 true t450 t451 _ A9.out).mono ?_); rintro e w84 ⟨rfl, hb⟩; refine ⟨_, rfl, ?_⟩; replace HB := Aside0.mk (bS3 HB.out hb); (try clear hb); (try clear hk)) | ((with_reducible refine gD (N := 10) rfl ?_); (try (refine gate_guard (by rfl) ?_; dsimp only)); refine bE3 10 #[.int .i64 0, .bool false, .int .i64 0, .int .u64 0] 52 ?hr ?_; (case hr => first | (go_simp; done) | (go_simp; rfl)); intro gb452 hg w85 hbox hb; have BK452 := Aside0.mk (hbox); have GW452 := Aside0.mk ((bZ3 hg HB.out)); have GE452 := Aside0.mk ((bZ3 hg HB.out)); replace HB := Aside0.mk (bS3 HB.out hb); clear hb hbox hg; obtain ⟨hcz86_0, hcz86_1, hcz86_2, hcz86_3, hfz86_0, hfz86_1, hfz86_2, hfz86_3⟩ := cl4 BK452.out) | ((with_reducible refine gX_ 26 37 rfl rfl ?_); refine goesY_ (some 37) Tryd.func26 #[.agg #[.int .i64 t448, .bool true, .int .i64 t450, .int .u64 t451]] ?_; (with_reducible refine (vernierref16_parts.calls kj5 t448 true t450 t451 t453 t456 t457 _ A18.out).mono ?_); rintro e w87 ⟨v454, rfl, ho0, hb⟩; refine ⟨_, rfl, ?_⟩; have HO455 := Aside0.mk (Kd.R_lower ho0 (bZ (bR3 HB.out))); replace BK452 := Aside0.mk (bB (g := gb452) (o := .cells #[.int .i64 t448, .bool true, .int .i64 t450, .int .u64 t451] 52 (0, 0)) (bQ3 BK452.out) hb); replace HB := Aside0.mk (bS3 HB.out hb); (try clear hb); (try clear hk); (try clear ho0); obtain ⟨Ao88, co88, eo88⟩ := Kd.R_slice HO455.out; subst eo88) | ((with_reducible refine gX_ 36 45 rfl rfl ?_); refine goesY_ (some 45) Tryd.func36 #[.slice Ao88 t453.length co88, .int .i64 1] ?_; (with_reducible refine (vernierref04_Low.calls kj5 _ _ t453 1 t458 _ ?side1 ?side2 A20.out).mono ?_); (case side1 => repeat (first | exact (Kd.R_reads' HO455.out).2.2 | (with_reducible refine Kd.C_alloc ?_ _) | (with_reducible refine Kd.C_drewN ?_ _) | (with_reducible refine Kd.C_drew ?_))); (case side2 => exact (Kd.R_reads' HO455.out).2.1); rintro e w' ⟨rfl, ⟨nd, rfl⟩⟩; refine ⟨_, rfl, ?_⟩; obtain ⟨hcz89_0, hcz89_1, hcz89_2, hcz89_3, hfz89_0, hfz89_1, hfz89_2, hfz89_3⟩ := cl4 BK452.out))
           go_ret3
           exact ⟨_, eR3, by (with_reducible repeat (first | apply Kd.R_alloc | apply Kd.R_drewN | apply Kd.R_drew)); exact HO455.out, bR3 HB.out⟩
          ·
           replace c83 := Bool.eq_false_iff.mpr c83
           subst c83
           rw [if_neg (show ¬ (false = true) by decide)] at H
           simp only [Option.some.injEq, Prod.mk.injEq] at H
           obtain ⟨rfl, rfl, rfl⟩ := H
           go_wp2_with (first | ((with_reducible refine gX_ 25 28 rfl rfl ?_); refine goesY_ (some 28) Tryd.func25 #[.int .i64 a0, .int .u64 a1] ?_; (with_reducible refine (vernierref06_Decode.calls kj5 a0 a1 t448 false t450 t451 _ A9.out).mono ?_); rintro e w90 ⟨rfl, hb⟩; refine ⟨_, rfl, ?_⟩; replace HB := Aside0.mk (bS3 HB.out hb); (try clear hb); (try clear hk)) | ((with_reducible refine gD (N := 10) rfl ?_); (try (refine gate_guard (by rfl) ?_; dsimp only)); refine bE3 10 #[.int .i64 0, .bool false, .int .i64 0, .int .u64 0] 52 ?hr ?_; (case hr => first | (go_simp; done) | (go_simp; rfl)); intro gb452 hg w91 hbox hb; have BK452 := Aside0.mk (hbox); have GW452 := Aside0.mk ((bZ3 hg HB.out)); have GE452 := Aside0.mk ((bZ3 hg HB.out)); replace HB := Aside0.mk (bS3 HB.out hb); clear hb hbox hg; obtain ⟨hcz92_0, hcz92_1, hcz92_2, hcz92_3, hfz92_0, hfz92_1, hfz92_2, hfz92_3⟩ := cl4 BK452.out) | ((with_reducible refine gX_ 26 37 rfl rfl ?_); refine goesY_ (some 37) Tryd.func26 #[.agg #[.int .i64 t448, .bool false, .int .i64 t450, .int .u64 t451]] ?_; (with_reducible refine (vernierref16_parts.calls kj5 t448 false t450 t451 t453 t456 t457 _ A18.out).mono ?_); rintro e w93 ⟨v454, rfl, ho0, hb⟩; refine ⟨_, rfl, ?_⟩; have HO455 := Aside0.mk (Kd.R_lower ho0 (bZ (bR3 HB.out))); replace BK452 := Aside0.mk (bB (g := gb452) (o := .cells #[.int .i64 t448, .bool false, .int .i64 t450, .int .u64 t451] 52 (0, 0)) (bQ3 BK452.out) hb); replace HB := Aside0.mk (bS3 HB.out hb); (try clear hb); (try clear hk); (try clear ho0); obtain ⟨Ao94, co94, eo94⟩ := Kd.R_slice HO455.out; subst eo94) | ((with_reducible refine gX_ 36 45 rfl rfl ?_); refine goesY_ (some 45) Tryd.func36 #[.slice Ao94 t453.length co94, .int .i64 1] ?_; (with_reducible refine (vernierref04_Low.calls kj5 _ _ t453 1 t458 _ ?side1 ?side2 A20.out).mono ?_); (case side1 => repeat (first | exact (Kd.R_reads' HO455.out).2.2 | (with_reducible refine Kd.C_alloc ?_ _) | (with_reducible refine Kd.C_drewN ?_ _) | (with_reducible refine Kd.C_drew ?_))); (case side2 => exact (Kd.R_reads' HO455.out).2.1); rintro e w' ⟨rfl, ⟨nd, rfl⟩⟩; refine ⟨_, rfl, ?_⟩; obtain ⟨hcz95_0, hcz95_1, hcz95_2, hcz95_3, hfz95_0, hfz95_1, hfz95_2, hfz95_3⟩ := cl4 BK452.out))
           go_ret3
           exact ⟨_, eR3, by (with_reducible repeat (first | apply Kd.R_alloc | apply Kd.R_drewN | apply Kd.R_drew)); exact HO455.out, bR3 HB.out⟩
       ·
        rw [if_neg c19] at H
        have c19b0 : (a2 == 0) = false := beq_eq_false_iff_ne.mpr c19
        have c19b1 : (a2 != 0) = true := bne_iff_ne.mpr c19
        by_cases c96 : a2 = 1
        ·
         rw [if_pos c96] at H
         have c96b0 : (a2 == 1) = true := beq_iff_eq.mpr c96
         have c96b1 : (a2 != 1) = false := bne_eq_false_iff_eq.mpr c96
         clear c96
         by_cases c97 : t456 = true
         ·
          subst c97
          rw [if_pos rfl] at H
          by_cases c98 : t449 = true
          ·
           subst c98
           rw [if_pos rfl] at H
           obtain ⟨y471, hy471⟩ : ∃ y_ : List Int, y_ = (([1] : List Int)) := ⟨_, rfl⟩
           replace H : ((vernierref04_Add.f kj5 t453 y471).bind fun t474 => (some (decide ((t474.length : Int) > 0), t474, 0))) = some (r1, r2, r3) := by first | (rw [hy471]; with_reducible exact H) | (have H2_ := (Option.bind_some _ _).symm.trans H; rw [hy471]; with_reducible exact H2_) | (have H2_ := (Option.bind_some _ _).symm.trans H; with_reducible exact H2_) | with_reducible exact H | (rw [hy471]; exact H) | exact H
           have Ny471 := Aside0.mk hy471
           clear hy471
           replace H := Option.bind_eq_some_iff.mp H
           obtain ⟨t474, A990, H⟩ := H
           try dsimp -simprocs only at H
           have A99 := Aside0.mk A990
           clear A990
           simp only [Option.some.injEq, Prod.mk.injEq] at H
           obtain ⟨rfl, rfl, rfl⟩ := H
           go_wp2_with (first | ((with_reducible refine gX_ 25 28 rfl rfl ?_); refine goesY_ (some 28) Tryd.func25 #[.int .i64 a0, .int .u64 a1] ?_; (with_reducible refine (vernierref06_Decode.calls kj5 a0 a1 t448 true t450 t451 _ A9.out).mono ?_); rintro e w100 ⟨rfl, hb⟩; refine ⟨_, rfl, ?_⟩; replace HB := Aside0.mk (bS3 HB.out hb); (try clear hb); (try clear hk)) | ((with_reducible refine gD (N := 10) rfl ?_); (try (refine gate_guard (by rfl) ?_; dsimp only)); refine bE3 10 #[.int .i64 0, .bool false, .int .i64 0, .int .u64 0] 52 ?hr ?_; (case hr => first | (go_simp; done) | (go_simp; rfl)); intro gb452 hg w101 hbox hb; have BK452 := Aside0.mk (hbox); have GW452 := Aside0.mk ((bZ3 hg HB.out)); have GE452 := Aside0.mk ((bZ3 hg HB.out)); replace HB := Aside0.mk (bS3 HB.out hb); clear hb hbox hg; obtain ⟨hcz102_0, hcz102_1, hcz102_2, hcz102_3, hfz102_0, hfz102_1, hfz102_2, hfz102_3⟩ := cl4 BK452.out) | ((with_reducible refine gX_ 26 37 rfl rfl ?_); refine goesY_ (some 37) Tryd.func26 #[.agg #[.int .i64 t448, .bool true, .int .i64 t450, .int .u64 t451]] ?_; (with_reducible refine (vernierref16_parts.calls kj5 t448 true t450 t451 t453 true t457 _ A18.out).mono ?_); rintro e w103 ⟨v454, rfl, ho0, hb⟩; refine ⟨_, rfl, ?_⟩; have HO455 := Aside0.mk (Kd.R_lower ho0 (bZ (bR3 HB.out))); replace BK452 := Aside0.mk (bB (g := gb452) (o := .cells #[.int .i64 t448, .bool true, .int .i64 t450, .int .u64 t451] 52 (0, 0)) (bQ3 BK452.out) hb); replace HB := Aside0.mk (bS3 HB.out hb); (try clear hb); (try clear hk); (try clear ho0); obtain ⟨hcz104_0, hcz104_1, hcz104_2, hcz104_3, hfz104_0, hfz104_1, hfz104_2, hfz104_3⟩ := cl4 BK452.out) | ((with_reducible refine gD (N := 72) rfl ?_); (try (refine gate_guard (by rfl) ?_; dsimp only)); refine Kd.R_lit (Kd.int .i64) _ 3 ?hg (N := 72) ?hd (xs := ([1] : List Int)) (inner := [.int .i64 1]) (ok := fun _ => True) (okp := fun _ => True) ?hr ?hp (fun _ hk => hk) trivial (Below.refl _ _) (Nat.le_refl _) (by simp) ?_; (case hd => rfl); (case hg => rfl); (case hr => first | (go_simp; done) | (go_simp; rfl)); (case hp => exact (Reps.one (show Kd.M (Kd.int .i64) _ _ _ 1 [.int .i64 1] from rfl) (Reps.none _ _))); intro v472 w105 ho106 hb hg_ hnew_; clear hg_ hnew_; (first | rw [← Ny471.out] at ho106 | (simp only [Int.reduceToNat] at ho106; rw [← Ny471.out] at ho106)); have HO473 := Aside0.mk (Kd.R_lower (Kd.R_new' ho106 (Kd.R_lt (by (with_reducible repeat (first | apply Kd.R_alloc | apply Kd.R_drewN | apply Kd.R_drew)); exact HO455.out))) (bZ (bR3 HB.out))); replace HO455 := Aside0.mk (Kd.R_elder' (by (with_reducible repeat (first | apply Kd.R_alloc | apply Kd.R_drewN | apply Kd.R_drew)); exact HO455.out) (Kd.R_base ho106) hb); replace BK452 := Aside0.mk (bB3 BK452.out hb); replace HB := Aside0.mk (bS3 HB.out hb); clear hb ho106; obtain ⟨Ao107, co107, eo107⟩ := Kd.R_slice HO455.out; subst eo107; obtain ⟨Ao108, co108, eo108⟩ := Kd.R_slice HO473.out; subst eo108) | ((with_reducible refine gX_ 37 73 rfl rfl ?_); refine goesY_ (some 73) Tryd.func37 #[.slice Ao107 t453.length co107, .slice Ao108 y471.length co108] ?_; (with_reducible refine (vernierref04_Add.calls kj5 _ _ t453 _ _ y471 t474 _ ?side1 ?side2 ?side3 ?side4 A99.out).mono ?_); (case side1 => repeat (first | exact (Kd.R_reads' HO455.out).2.2 | (with_reducible refine Kd.C_alloc ?_ _) | (with_reducible refine Kd.C_drewN ?_ _) | (with_reducible refine Kd.C_drew ?_))); (case side2 => exact (Kd.R_reads' HO455.out).2.1); (case side3 => repeat (first | exact (Kd.R_reads' HO473.out).2.2 | (with_reducible refine Kd.C_alloc ?_ _) | (with_reducible refine Kd.C_drewN ?_ _) | (with_reducible refine Kd.C_drew ?_))); (case side4 => exact (Kd.R_reads' HO473.out).2.1); rintro e w109 ⟨v475, rfl, ho0, hb⟩; refine ⟨_, rfl, ?_⟩; have HO476 := Aside0.mk (Kd.R_lower (Kd.R_new' (Kd.R_new' ho0 (Kd.R_lt (by (with_reducible repeat (first | apply Kd.R_alloc | apply Kd.R_drewN | apply Kd.R_drew)); exact HO455.out))) (Kd.R_lt (by (with_reducible repeat (first | apply Kd.R_alloc | apply Kd.R_drewN | apply Kd.R_drew)); exact HO473.out))) (bZ (bR3 HB.out))); replace HO455 := Aside0.mk (Kd.R_elder' (by (with_reducible repeat (first | apply Kd.R_alloc | apply Kd.R_drewN | apply Kd.R_drew)); exact HO455.out) (Kd.R_base ho0) hb); replace HO473 := Aside0.mk (Kd.R_elder' (by (with_reducible repeat (first | apply Kd.R_alloc | apply Kd.R_drewN | apply Kd.R_drew)); exact HO473.out) (Kd.R_base ho0) hb); replace BK452 := Aside0.mk (bB3 BK452.out hb); replace HB := Aside0.mk (bS3 HB.out hb); (try clear hb); (try clear hk); (try clear ho0); obtain ⟨hcz110_0, hcz110_1, hcz110_2, hcz110_3, hfz110_0, hfz110_1, hfz110_2, hfz110_3⟩ := cl4 BK452.out; obtain ⟨Ao111, co111, eo111⟩ := Kd.R_slice HO476.out; subst eo111))
           go_ret3
           exact ⟨_, eR3, by (with_reducible repeat (first | apply Kd.R_alloc | apply Kd.R_drewN | apply Kd.R_drew)); exact Kd.R_mono HO476.out (fun _ hk => trivial), bR3 HB.out⟩
          ·
           replace c98 := Bool.eq_false_iff.mpr c98
           subst c98
           rw [if_neg (show ¬ (false = true) by decide)] at H
           simp only [Option.some.injEq, Prod.mk.injEq] at H
           obtain ⟨rfl, rfl, rfl⟩ := H
           go_wp2_with (first | ((with_reducible refine gX_ 25 28 rfl rfl ?_); refine goesY_ (some 28) Tryd.func25 #[.int .i64 a0, .int .u64 a1] ?_; (with_reducible refine (vernierref06_Decode.calls kj5 a0 a1 t448 false t450 t451 _ A9.out).mono ?_); rintro e w112 ⟨rfl, hb⟩; refine ⟨_, rfl, ?_⟩; replace HB := Aside0.mk (bS3 HB.out hb); (try clear hb); (try clear hk)) | ((with_reducible refine gD (N := 10) rfl ?_); (try (refine gate_guard (by rfl) ?_; dsimp only)); refine bE3 10 #[.int .i64 0, .bool false, .int .i64 0, .int .u64 0] 52 ?hr ?_; (case hr => first | (go_simp; done) | (go_simp; rfl)); intro gb452 hg w113 hbox hb; have BK452 := Aside0.mk (hbox); have GW452 := Aside0.mk ((bZ3 hg HB.out)); have GE452 := Aside0.mk ((bZ3 hg HB.out)); replace HB := Aside0.mk (bS3 HB.out hb); clear hb hbox hg; obtain ⟨hcz114_0, hcz114_1, hcz114_2, hcz114_3, hfz114_0, hfz114_1, hfz114_2, hfz114_3⟩ := cl4 BK452.out) | ((with_reducible refine gX_ 26 37 rfl rfl ?_); refine goesY_ (some 37) Tryd.func26 #[.agg #[.int .i64 t448, .bool false, .int .i64 t450, .int .u64 t451]] ?_; (with_reducible refine (vernierref16_parts.calls kj5 t448 false t450 t451 t453 true t457 _ A18.out).mono ?_); rintro e w115 ⟨v454, rfl, ho0, hb⟩; refine ⟨_, rfl, ?_⟩; have HO455 := Aside0.mk (Kd.R_lower ho0 (bZ (bR3 HB.out))); replace BK452 := Aside0.mk (bB (g := gb452) (o := .cells #[.int .i64 t448, .bool false, .int .i64 t450, .int .u64 t451] 52 (0, 0)) (bQ3 BK452.out) hb); replace HB := Aside0.mk (bS3 HB.out hb); (try clear hb); (try clear hk); (try clear ho0); obtain ⟨hcz116_0, hcz116_1, hcz116_2, hcz116_3, hfz116_0, hfz116_1, hfz116_2, hfz116_3⟩ := cl4 BK452.out))
           go_ret3
           exact ⟨_, eR3, by (with_reducible repeat (first | apply Kd.R_alloc | apply Kd.R_drewN | apply Kd.R_drew)); exact HO455.out, bR3 HB.out⟩
         ·
          replace c97 := Bool.eq_false_iff.mpr c97
          subst c97
          rw [if_neg (show ¬ (false = true) by decide)] at H
          by_cases c117 : t449 = true
          ·
           subst c117
           rw [if_pos rfl] at H
           simp only [Option.some.injEq, Prod.mk.injEq] at H
           obtain ⟨rfl, rfl, rfl⟩ := H
           go_wp2_with (first | ((with_reducible refine gX_ 25 28 rfl rfl ?_); refine goesY_ (some 28) Tryd.func25 #[.int .i64 a0, .int .u64 a1] ?_; (with_reducible refine (vernierref06_Decode.calls kj5 a0 a1 t448 true t450 t451 _ A9.out).mono ?_); rintro e w118 ⟨rfl, hb⟩; refine ⟨_, rfl, ?_⟩; replace HB := Aside0.mk (bS3 HB.out hb); (try clear hb); (try clear hk)) | ((with_reducible refine gD (N := 10) rfl ?_); (try (refine gate_guard (by rfl) ?_; dsimp only)); refine bE3 10 #[.int .i64 0, .bool false, .int .i64 0, .int .u64 0] 52 ?hr ?_; (case hr => first | (go_simp; done) | (go_simp; rfl)); intro gb452 hg w119 hbox hb; have BK452 := Aside0.mk (hbox); have GW452 := Aside0.mk ((bZ3 hg HB.out)); have GE452 := Aside0.mk ((bZ3 hg HB.out)); replace HB := Aside0.mk (bS3 HB.out hb); clear hb hbox hg; obtain ⟨hcz120_0, hcz120_1, hcz120_2, hcz120_3, hfz120_0, hfz120_1, hfz120_2, hfz120_3⟩ := cl4 BK452.out) | ((with_reducible refine gX_ 26 37 rfl rfl ?_); refine goesY_ (some 37) Tryd.func26 #[.agg #[.int .i64 t448, .bool true, .int .i64 t450, .int .u64 t451]] ?_; (with_reducible refine (vernierref16_parts.calls kj5 t448 true t450 t451 t453 false t457 _ A18.out).mono ?_); rintro e w121 ⟨v454, rfl, ho0, hb⟩; refine ⟨_, rfl, ?_⟩; have HO455 := Aside0.mk (Kd.R_lower ho0 (bZ (bR3 HB.out))); replace BK452 := Aside0.mk (bB (g := gb452) (o := .cells #[.int .i64 t448, .bool true, .int .i64 t450, .int .u64 t451] 52 (0, 0)) (bQ3 BK452.out) hb); replace HB := Aside0.mk (bS3 HB.out hb); (try clear hb); (try clear hk); (try clear ho0); obtain ⟨hcz122_0, hcz122_1, hcz122_2, hcz122_3, hfz122_0, hfz122_1, hfz122_2, hfz122_3⟩ := cl4 BK452.out; obtain ⟨Ao123, co123, eo123⟩ := Kd.R_slice HO455.out; subst eo123))
           go_ret3
           exact ⟨_, eR3, by (with_reducible repeat (first | apply Kd.R_alloc | apply Kd.R_drewN | apply Kd.R_drew)); exact HO455.out, bR3 HB.out⟩
          ·
           replace c117 := Bool.eq_false_iff.mpr c117
           subst c117
           rw [if_neg (show ¬ (false = true) by decide)] at H
           simp only [Option.some.injEq, Prod.mk.injEq] at H
           obtain ⟨rfl, rfl, rfl⟩ := H
           go_wp2_with (first | ((with_reducible refine gX_ 25 28 rfl rfl ?_); refine goesY_ (some 28) Tryd.func25 #[.int .i64 a0, .int .u64 a1] ?_; (with_reducible refine (vernierref06_Decode.calls kj5 a0 a1 t448 false t450 t451 _ A9.out).mono ?_); rintro e w124 ⟨rfl, hb⟩; refine ⟨_, rfl, ?_⟩; replace HB := Aside0.mk (bS3 HB.out hb); (try clear hb); (try clear hk)) | ((with_reducible refine gD (N := 10) rfl ?_); (try (refine gate_guard (by rfl) ?_; dsimp only)); refine bE3 10 #[.int .i64 0, .bool false, .int .i64 0, .int .u64 0] 52 ?hr ?_; (case hr => first | (go_simp; done) | (go_simp; rfl)); intro gb452 hg w125 hbox hb; have BK452 := Aside0.mk (hbox); have GW452 := Aside0.mk ((bZ3 hg HB.out)); have GE452 := Aside0.mk ((bZ3 hg HB.out)); replace HB := Aside0.mk (bS3 HB.out hb); clear hb hbox hg; obtain ⟨hcz126_0, hcz126_1, hcz126_2, hcz126_3, hfz126_0, hfz126_1, hfz126_2, hfz126_3⟩ := cl4 BK452.out) | ((with_reducible refine gX_ 26 37 rfl rfl ?_); refine goesY_ (some 37) Tryd.func26 #[.agg #[.int .i64 t448, .bool false, .int .i64 t450, .int .u64 t451]] ?_; (with_reducible refine (vernierref16_parts.calls kj5 t448 false t450 t451 t453 false t457 _ A18.out).mono ?_); rintro e w127 ⟨v454, rfl, ho0, hb⟩; refine ⟨_, rfl, ?_⟩; have HO455 := Aside0.mk (Kd.R_lower ho0 (bZ (bR3 HB.out))); replace BK452 := Aside0.mk (bB (g := gb452) (o := .cells #[.int .i64 t448, .bool false, .int .i64 t450, .int .u64 t451] 52 (0, 0)) (bQ3 BK452.out) hb); replace HB := Aside0.mk (bS3 HB.out hb); (try clear hb); (try clear hk); (try clear ho0); obtain ⟨hcz128_0, hcz128_1, hcz128_2, hcz128_3, hfz128_0, hfz128_1, hfz128_2, hfz128_3⟩ := cl4 BK452.out))
           go_ret3
           exact ⟨_, eR3, by (with_reducible repeat (first | apply Kd.R_alloc | apply Kd.R_drewN | apply Kd.R_drew)); exact HO455.out, bR3 HB.out⟩
        ·
         rw [if_neg c96] at H
         have c96b0 : (a2 == 1) = false := beq_eq_false_iff_ne.mpr c96
         have c96b1 : (a2 != 1) = true := bne_iff_ne.mpr c96
         by_cases c129 : a2 = 2
         ·
          rw [if_pos c129] at H
          have c129b0 : (a2 == 2) = true := beq_iff_eq.mpr c129
          have c129b1 : (a2 != 2) = false := bne_eq_false_iff_eq.mpr c129
          clear c129
          by_cases c130 : t456 = true
          ·
           subst c130
           rw [if_pos rfl] at H
           by_cases c131 : t449 = true
           ·
            subst c131
            rw [if_pos rfl] at H
            simp only [Option.some.injEq, Prod.mk.injEq] at H
            obtain ⟨rfl, rfl, rfl⟩ := H
            go_wp2_with (first | ((with_reducible refine gX_ 25 28 rfl rfl ?_); refine goesY_ (some 28) Tryd.func25 #[.int .i64 a0, .int .u64 a1] ?_; (with_reducible refine (vernierref06_Decode.calls kj5 a0 a1 t448 true t450 t451 _ A9.out).mono ?_); rintro e w132 ⟨rfl, hb⟩; refine ⟨_, rfl, ?_⟩; replace HB := Aside0.mk (bS3 HB.out hb); (try clear hb); (try clear hk)) | ((with_reducible refine gD (N := 10) rfl ?_); (try (refine gate_guard (by rfl) ?_; dsimp only)); refine bE3 10 #[.int .i64 0, .bool false, .int .i64 0, .int .u64 0] 52 ?hr ?_; (case hr => first | (go_simp; done) | (go_simp; rfl)); intro gb452 hg w133 hbox hb; have BK452 := Aside0.mk (hbox); have GW452 := Aside0.mk ((bZ3 hg HB.out)); have GE452 := Aside0.mk ((bZ3 hg HB.out)); replace HB := Aside0.mk (bS3 HB.out hb); clear hb hbox hg; obtain ⟨hcz134_0, hcz134_1, hcz134_2, hcz134_3, hfz134_0, hfz134_1, hfz134_2, hfz134_3⟩ := cl4 BK452.out) | ((with_reducible refine gX_ 26 37 rfl rfl ?_); refine goesY_ (some 37) Tryd.func26 #[.agg #[.int .i64 t448, .bool true, .int .i64 t450, .int .u64 t451]] ?_; (with_reducible refine (vernierref16_parts.calls kj5 t448 true t450 t451 t453 true t457 _ A18.out).mono ?_); rintro e w135 ⟨v454, rfl, ho0, hb⟩; refine ⟨_, rfl, ?_⟩; have HO455 := Aside0.mk (Kd.R_lower ho0 (bZ (bR3 HB.out))); replace BK452 := Aside0.mk (bB (g := gb452) (o := .cells #[.int .i64 t448, .bool true, .int .i64 t450, .int .u64 t451] 52 (0, 0)) (bQ3 BK452.out) hb); replace HB := Aside0.mk (bS3 HB.out hb); (try clear hb); (try clear hk); (try clear ho0); obtain ⟨hcz136_0, hcz136_1, hcz136_2, hcz136_3, hfz136_0, hfz136_1, hfz136_2, hfz136_3⟩ := cl4 BK452.out; obtain ⟨Ao137, co137, eo137⟩ := Kd.R_slice HO455.out; subst eo137))
            go_ret3
            exact ⟨_, eR3, by (with_reducible repeat (first | apply Kd.R_alloc | apply Kd.R_drewN | apply Kd.R_drew)); exact HO455.out, bR3 HB.out⟩
           ·
            replace c131 := Bool.eq_false_iff.mpr c131
            subst c131
            rw [if_neg (show ¬ (false = true) by decide)] at H
            obtain ⟨y477, hy477⟩ : ∃ y_ : List Int, y_ = (([1] : List Int)) := ⟨_, rfl⟩
            replace H : ((vernierref04_Add.f kj5 t453 y477).bind fun t480 => (some (false, t480, 0))) = some (r1, r2, r3) := by first | (rw [hy477]; with_reducible exact H) | (have H2_ := (Option.bind_some _ _).symm.trans H; rw [hy477]; with_reducible exact H2_) | (have H2_ := (Option.bind_some _ _).symm.trans H; with_reducible exact H2_) | with_reducible exact H | (rw [hy477]; exact H) | exact H
            have Ny477 := Aside0.mk hy477
            clear hy477
            replace H := Option.bind_eq_some_iff.mp H
            obtain ⟨t480, A1380, H⟩ := H
            try dsimp -simprocs only at H
            have A138 := Aside0.mk A1380
            clear A1380
            simp only [Option.some.injEq, Prod.mk.injEq] at H
            obtain ⟨rfl, rfl, rfl⟩ := H
            go_wp2_with (first | ((with_reducible refine gX_ 25 28 rfl rfl ?_); refine goesY_ (some 28) Tryd.func25 #[.int .i64 a0, .int .u64 a1] ?_; (with_reducible refine (vernierref06_Decode.calls kj5 a0 a1 t448 false t450 t451 _ A9.out).mono ?_); rintro e w139 ⟨rfl, hb⟩; refine ⟨_, rfl, ?_⟩; replace HB := Aside0.mk (bS3 HB.out hb); (try clear hb); (try clear hk)) | ((with_reducible refine gD (N := 10) rfl ?_); (try (refine gate_guard (by rfl) ?_; dsimp only)); refine bE3 10 #[.int .i64 0, .bool false, .int .i64 0, .int .u64 0] 52 ?hr ?_; (case hr => first | (go_simp; done) | (go_simp; rfl)); intro gb452 hg w140 hbox hb; have BK452 := Aside0.mk (hbox); have GW452 := Aside0.mk ((bZ3 hg HB.out)); have GE452 := Aside0.mk ((bZ3 hg HB.out)); replace HB := Aside0.mk (bS3 HB.out hb); clear hb hbox hg; obtain ⟨hcz141_0, hcz141_1, hcz141_2, hcz141_3, hfz141_0, hfz141_1, hfz141_2, hfz141_3⟩ := cl4 BK452.out) | ((with_reducible refine gX_ 26 37 rfl rfl ?_); refine goesY_ (some 37) Tryd.func26 #[.agg #[.int .i64 t448, .bool false, .int .i64 t450, .int .u64 t451]] ?_; (with_reducible refine (vernierref16_parts.calls kj5 t448 false t450 t451 t453 true t457 _ A18.out).mono ?_); rintro e w142 ⟨v454, rfl, ho0, hb⟩; refine ⟨_, rfl, ?_⟩; have HO455 := Aside0.mk (Kd.R_lower ho0 (bZ (bR3 HB.out))); replace BK452 := Aside0.mk (bB (g := gb452) (o := .cells #[.int .i64 t448, .bool false, .int .i64 t450, .int .u64 t451] 52 (0, 0)) (bQ3 BK452.out) hb); replace HB := Aside0.mk (bS3 HB.out hb); (try clear hb); (try clear hk); (try clear ho0); obtain ⟨hcz143_0, hcz143_1, hcz143_2, hcz143_3, hfz143_0, hfz143_1, hfz143_2, hfz143_3⟩ := cl4 BK452.out) | ((with_reducible refine gD (N := 72) rfl ?_); (try (refine gate_guard (by rfl) ?_; dsimp only)); refine Kd.R_lit (Kd.int .i64) _ 3 ?hg (N := 72) ?hd (xs := ([1] : List Int)) (inner := [.int .i64 1]) (ok := fun _ => True) (okp := fun _ => True) ?hr ?hp (fun _ hk => hk) trivial (Below.refl _ _) (Nat.le_refl _) (by simp) ?_; (case hd => rfl); (case hg => rfl); (case hr => first | (go_simp; done) | (go_simp; rfl)); (case hp => exact (Reps.one (show Kd.M (Kd.int .i64) _ _ _ 1 [.int .i64 1] from rfl) (Reps.none _ _))); intro v478 w144 ho145 hb hg_ hnew_; clear hg_ hnew_; (first | rw [← Ny477.out] at ho145 | (simp only [Int.reduceToNat] at ho145; rw [← Ny477.out] at ho145)); have HO479 := Aside0.mk (Kd.R_lower (Kd.R_new' ho145 (Kd.R_lt (by (with_reducible repeat (first | apply Kd.R_alloc | apply Kd.R_drewN | apply Kd.R_drew)); exact HO455.out))) (bZ (bR3 HB.out))); replace HO455 := Aside0.mk (Kd.R_elder' (by (with_reducible repeat (first | apply Kd.R_alloc | apply Kd.R_drewN | apply Kd.R_drew)); exact HO455.out) (Kd.R_base ho145) hb); replace BK452 := Aside0.mk (bB3 BK452.out hb); replace HB := Aside0.mk (bS3 HB.out hb); clear hb ho145; obtain ⟨Ao146, co146, eo146⟩ := Kd.R_slice HO455.out; subst eo146; obtain ⟨Ao147, co147, eo147⟩ := Kd.R_slice HO479.out; subst eo147) | ((with_reducible refine gX_ 37 73 rfl rfl ?_); refine goesY_ (some 73) Tryd.func37 #[.slice Ao146 t453.length co146, .slice Ao147 y477.length co147] ?_; (with_reducible refine (vernierref04_Add.calls kj5 _ _ t453 _ _ y477 t480 _ ?side1 ?side2 ?side3 ?side4 A138.out).mono ?_); (case side1 => repeat (first | exact (Kd.R_reads' HO455.out).2.2 | (with_reducible refine Kd.C_alloc ?_ _) | (with_reducible refine Kd.C_drewN ?_ _) | (with_reducible refine Kd.C_drew ?_))); (case side2 => exact (Kd.R_reads' HO455.out).2.1); (case side3 => repeat (first | exact (Kd.R_reads' HO479.out).2.2 | (with_reducible refine Kd.C_alloc ?_ _) | (with_reducible refine Kd.C_drewN ?_ _) | (with_reducible refine Kd.C_drew ?_))); (case side4 => exact (Kd.R_reads' HO479.out).2.1); rintro e w148 ⟨v481, rfl, ho0, hb⟩; refine ⟨_, rfl, ?_⟩; have HO482 := Aside0.mk (Kd.R_lower (Kd.R_new' (Kd.R_new' ho0 (Kd.R_lt (by (with_reducible repeat (first | apply Kd.R_alloc | apply Kd.R_drewN | apply Kd.R_drew)); exact HO455.out))) (Kd.R_lt (by (with_reducible repeat (first | apply Kd.R_alloc | apply Kd.R_drewN | apply Kd.R_drew)); exact HO479.out))) (bZ (bR3 HB.out))); replace HO455 := Aside0.mk (Kd.R_elder' (by (with_reducible repeat (first | apply Kd.R_alloc | apply Kd.R_drewN | apply Kd.R_drew)); exact HO455.out) (Kd.R_base ho0) hb); replace HO479 := Aside0.mk (Kd.R_elder' (by (with_reducible repeat (first | apply Kd.R_alloc | apply Kd.R_drewN | apply Kd.R_drew)); exact HO479.out) (Kd.R_base ho0) hb); replace BK452 := Aside0.mk (bB3 BK452.out hb); replace HB := Aside0.mk (bS3 HB.out hb); (try clear hb); (try clear hk); (try clear ho0); obtain ⟨hcz149_0, hcz149_1, hcz149_2, hcz149_3, hfz149_0, hfz149_1, hfz149_2, hfz149_3⟩ := cl4 BK452.out))
            go_ret3
            exact ⟨_, eR3, by (with_reducible repeat (first | apply Kd.R_alloc | apply Kd.R_drewN | apply Kd.R_drew)); exact Kd.R_mono HO482.out (fun _ hk => trivial), bR3 HB.out⟩
          ·
           replace c130 := Bool.eq_false_iff.mpr c130
           subst c130
           rw [if_neg (show ¬ (false = true) by decide)] at H
           by_cases c150 : t449 = true
           ·
            subst c150
            rw [if_pos rfl] at H
            simp only [Option.some.injEq, Prod.mk.injEq] at H
            obtain ⟨rfl, rfl, rfl⟩ := H
            go_wp2_with (first | ((with_reducible refine gX_ 25 28 rfl rfl ?_); refine goesY_ (some 28) Tryd.func25 #[.int .i64 a0, .int .u64 a1] ?_; (with_reducible refine (vernierref06_Decode.calls kj5 a0 a1 t448 true t450 t451 _ A9.out).mono ?_); rintro e w151 ⟨rfl, hb⟩; refine ⟨_, rfl, ?_⟩; replace HB := Aside0.mk (bS3 HB.out hb); (try clear hb); (try clear hk)) | ((with_reducible refine gD (N := 10) rfl ?_); (try (refine gate_guard (by rfl) ?_; dsimp only)); refine bE3 10 #[.int .i64 0, .bool false, .int .i64 0, .int .u64 0] 52 ?hr ?_; (case hr => first | (go_simp; done) | (go_simp; rfl)); intro gb452 hg w152 hbox hb; have BK452 := Aside0.mk (hbox); have GW452 := Aside0.mk ((bZ3 hg HB.out)); have GE452 := Aside0.mk ((bZ3 hg HB.out)); replace HB := Aside0.mk (bS3 HB.out hb); clear hb hbox hg; obtain ⟨hcz153_0, hcz153_1, hcz153_2, hcz153_3, hfz153_0, hfz153_1, hfz153_2, hfz153_3⟩ := cl4 BK452.out) | ((with_reducible refine gX_ 26 37 rfl rfl ?_); refine goesY_ (some 37) Tryd.func26 #[.agg #[.int .i64 t448, .bool true, .int .i64 t450, .int .u64 t451]] ?_; (with_reducible refine (vernierref16_parts.calls kj5 t448 true t450 t451 t453 false t457 _ A18.out).mono ?_); rintro e w154 ⟨v454, rfl, ho0, hb⟩; refine ⟨_, rfl, ?_⟩; have HO455 := Aside0.mk (Kd.R_lower ho0 (bZ (bR3 HB.out))); replace BK452 := Aside0.mk (bB (g := gb452) (o := .cells #[.int .i64 t448, .bool true, .int .i64 t450, .int .u64 t451] 52 (0, 0)) (bQ3 BK452.out) hb); replace HB := Aside0.mk (bS3 HB.out hb); (try clear hb); (try clear hk); (try clear ho0); obtain ⟨hcz155_0, hcz155_1, hcz155_2, hcz155_3, hfz155_0, hfz155_1, hfz155_2, hfz155_3⟩ := cl4 BK452.out; obtain ⟨Ao156, co156, eo156⟩ := Kd.R_slice HO455.out; subst eo156))
            go_ret3
            exact ⟨_, eR3, by (with_reducible repeat (first | apply Kd.R_alloc | apply Kd.R_drewN | apply Kd.R_drew)); exact HO455.out, bR3 HB.out⟩
           ·
            replace c150 := Bool.eq_false_iff.mpr c150
            subst c150
            rw [if_neg (show ¬ (false = true) by decide)] at H
            simp only [Option.some.injEq, Prod.mk.injEq] at H
            obtain ⟨rfl, rfl, rfl⟩ := H
            go_wp2_with (first | ((with_reducible refine gX_ 25 28 rfl rfl ?_); refine goesY_ (some 28) Tryd.func25 #[.int .i64 a0, .int .u64 a1] ?_; (with_reducible refine (vernierref06_Decode.calls kj5 a0 a1 t448 false t450 t451 _ A9.out).mono ?_); rintro e w157 ⟨rfl, hb⟩; refine ⟨_, rfl, ?_⟩; replace HB := Aside0.mk (bS3 HB.out hb); (try clear hb); (try clear hk)) | ((with_reducible refine gD (N := 10) rfl ?_); (try (refine gate_guard (by rfl) ?_; dsimp only)); refine bE3 10 #[.int .i64 0, .bool false, .int .i64 0, .int .u64 0] 52 ?hr ?_; (case hr => first | (go_simp; done) | (go_simp; rfl)); intro gb452 hg w158 hbox hb; have BK452 := Aside0.mk (hbox); have GW452 := Aside0.mk ((bZ3 hg HB.out)); have GE452 := Aside0.mk ((bZ3 hg HB.out)); replace HB := Aside0.mk (bS3 HB.out hb); clear hb hbox hg; obtain ⟨hcz159_0, hcz159_1, hcz159_2, hcz159_3, hfz159_0, hfz159_1, hfz159_2, hfz159_3⟩ := cl4 BK452.out) | ((with_reducible refine gX_ 26 37 rfl rfl ?_); refine goesY_ (some 37) Tryd.func26 #[.agg #[.int .i64 t448, .bool false, .int .i64 t450, .int .u64 t451]] ?_; (with_reducible refine (vernierref16_parts.calls kj5 t448 false t450 t451 t453 false t457 _ A18.out).mono ?_); rintro e w160 ⟨v454, rfl, ho0, hb⟩; refine ⟨_, rfl, ?_⟩; have HO455 := Aside0.mk (Kd.R_lower ho0 (bZ (bR3 HB.out))); replace BK452 := Aside0.mk (bB (g := gb452) (o := .cells #[.int .i64 t448, .bool false, .int .i64 t450, .int .u64 t451] 52 (0, 0)) (bQ3 BK452.out) hb); replace HB := Aside0.mk (bS3 HB.out hb); (try clear hb); (try clear hk); (try clear ho0); obtain ⟨hcz161_0, hcz161_1, hcz161_2, hcz161_3, hfz161_0, hfz161_1, hfz161_2, hfz161_3⟩ := cl4 BK452.out))
            go_ret3
            exact ⟨_, eR3, by (with_reducible repeat (first | apply Kd.R_alloc | apply Kd.R_drewN | apply Kd.R_drew)); exact HO455.out, bR3 HB.out⟩
         ·
          rw [if_neg c129] at H
          have c129b0 : (a2 == 2) = false := beq_eq_false_iff_ne.mpr c129
          have c129b1 : (a2 != 2) = true := bne_iff_ne.mpr c129
          by_cases c162 : t449 = true
          ·
           subst c162
           rw [if_pos rfl] at H
           simp only [Option.some.injEq, Prod.mk.injEq] at H
           obtain ⟨rfl, rfl, rfl⟩ := H
           go_wp2_with (first | ((with_reducible refine gX_ 25 28 rfl rfl ?_); refine goesY_ (some 28) Tryd.func25 #[.int .i64 a0, .int .u64 a1] ?_; (with_reducible refine (vernierref06_Decode.calls kj5 a0 a1 t448 true t450 t451 _ A9.out).mono ?_); rintro e w163 ⟨rfl, hb⟩; refine ⟨_, rfl, ?_⟩; replace HB := Aside0.mk (bS3 HB.out hb); (try clear hb); (try clear hk)) | ((with_reducible refine gD (N := 10) rfl ?_); (try (refine gate_guard (by rfl) ?_; dsimp only)); refine bE3 10 #[.int .i64 0, .bool false, .int .i64 0, .int .u64 0] 52 ?hr ?_; (case hr => first | (go_simp; done) | (go_simp; rfl)); intro gb452 hg w164 hbox hb; have BK452 := Aside0.mk (hbox); have GW452 := Aside0.mk ((bZ3 hg HB.out)); have GE452 := Aside0.mk ((bZ3 hg HB.out)); replace HB := Aside0.mk (bS3 HB.out hb); clear hb hbox hg; obtain ⟨hcz165_0, hcz165_1, hcz165_2, hcz165_3, hfz165_0, hfz165_1, hfz165_2, hfz165_3⟩ := cl4 BK452.out) | ((with_reducible refine gX_ 26 37 rfl rfl ?_); refine goesY_ (some 37) Tryd.func26 #[.agg #[.int .i64 t448, .bool true, .int .i64 t450, .int .u64 t451]] ?_; (with_reducible refine (vernierref16_parts.calls kj5 t448 true t450 t451 t453 t456 t457 _ A18.out).mono ?_); rintro e w166 ⟨v454, rfl, ho0, hb⟩; refine ⟨_, rfl, ?_⟩; have HO455 := Aside0.mk (Kd.R_lower ho0 (bZ (bR3 HB.out))); replace BK452 := Aside0.mk (bB (g := gb452) (o := .cells #[.int .i64 t448, .bool true, .int .i64 t450, .int .u64 t451] 52 (0, 0)) (bQ3 BK452.out) hb); replace HB := Aside0.mk (bS3 HB.out hb); (try clear hb); (try clear hk); (try clear ho0); obtain ⟨hcz167_0, hcz167_1, hcz167_2, hcz167_3, hfz167_0, hfz167_1, hfz167_2, hfz167_3⟩ := cl4 BK452.out; obtain ⟨Ao168, co168, eo168⟩ := Kd.R_slice HO455.out; subst eo168))
           go_ret3
           exact ⟨_, eR3, by (with_reducible repeat (first | apply Kd.R_alloc | apply Kd.R_drewN | apply Kd.R_drew)); exact HO455.out, bR3 HB.out⟩
          ·
           replace c162 := Bool.eq_false_iff.mpr c162
           subst c162
           rw [if_neg (show ¬ (false = true) by decide)] at H
           simp only [Option.some.injEq, Prod.mk.injEq] at H
           obtain ⟨rfl, rfl, rfl⟩ := H
           go_wp2_with (first | ((with_reducible refine gX_ 25 28 rfl rfl ?_); refine goesY_ (some 28) Tryd.func25 #[.int .i64 a0, .int .u64 a1] ?_; (with_reducible refine (vernierref06_Decode.calls kj5 a0 a1 t448 false t450 t451 _ A9.out).mono ?_); rintro e w169 ⟨rfl, hb⟩; refine ⟨_, rfl, ?_⟩; replace HB := Aside0.mk (bS3 HB.out hb); (try clear hb); (try clear hk)) | ((with_reducible refine gD (N := 10) rfl ?_); (try (refine gate_guard (by rfl) ?_; dsimp only)); refine bE3 10 #[.int .i64 0, .bool false, .int .i64 0, .int .u64 0] 52 ?hr ?_; (case hr => first | (go_simp; done) | (go_simp; rfl)); intro gb452 hg w170 hbox hb; have BK452 := Aside0.mk (hbox); have GW452 := Aside0.mk ((bZ3 hg HB.out)); have GE452 := Aside0.mk ((bZ3 hg HB.out)); replace HB := Aside0.mk (bS3 HB.out hb); clear hb hbox hg; obtain ⟨hcz171_0, hcz171_1, hcz171_2, hcz171_3, hfz171_0, hfz171_1, hfz171_2, hfz171_3⟩ := cl4 BK452.out) | ((with_reducible refine gX_ 26 37 rfl rfl ?_); refine goesY_ (some 37) Tryd.func26 #[.agg #[.int .i64 t448, .bool false, .int .i64 t450, .int .u64 t451]] ?_; (with_reducible refine (vernierref16_parts.calls kj5 t448 false t450 t451 t453 t456 t457 _ A18.out).mono ?_); rintro e w172 ⟨v454, rfl, ho0, hb⟩; refine ⟨_, rfl, ?_⟩; have HO455 := Aside0.mk (Kd.R_lower ho0 (bZ (bR3 HB.out))); replace BK452 := Aside0.mk (bB (g := gb452) (o := .cells #[.int .i64 t448, .bool false, .int .i64 t450, .int .u64 t451] 52 (0, 0)) (bQ3 BK452.out) hb); replace HB := Aside0.mk (bS3 HB.out hb); (try clear hb); (try clear hk); (try clear ho0); obtain ⟨hcz173_0, hcz173_1, hcz173_2, hcz173_3, hfz173_0, hfz173_1, hfz173_2, hfz173_3⟩ := cl4 BK452.out))
           go_ret3
           exact ⟨_, eR3, by (with_reducible repeat (first | apply Kd.R_alloc | apply Kd.R_drewN | apply Kd.R_drew)); exact HO455.out, bR3 HB.out⟩
 ·
  replace c5 := Bool.eq_false_iff.mpr c5
  subst c5
  rw [if_neg (show ¬ (false = true) by decide)] at H
  simp only [Option.some.injEq, Prod.mk.injEq] at H
  obtain ⟨rfl, rfl, rfl⟩ := H
  go_enter Tryd.func21, Tryd.ntmps21
  go_wp2_with (first | ((with_reducible refine gX_ 24 17 rfl rfl ?_); refine goesY_ (some 17) Tryd.func24 #[.int .i64 a0] ?_; (with_reducible refine (vernierref05_Is.calls a0 false _ A4.out).mono ?_); rintro e w' ⟨rfl, ⟨nd, rfl⟩⟩; refine ⟨_, rfl, ?_⟩))
  go_ret3
  exact ⟨_, eR3, by first | exact Kd.R_nil _ _ _ _ _ | exact Kd.N_nil _ _ _ _ _ | exact Kd.V_nil _ _ _ _ _ | exact Kd.Q_nil _ _ _ _ _ | exact Kd.S_nil _ _ _ _ _, bR3 HB.out⟩
def vernierref16_Whole.f (k : Nat) (a0 : Int) (a1 : Int) (a2 : Int) : Option (Int × Int) := (vernierref16_To.f k a0 a1 a2).bind fun bt546 => (if bt546.2.2 = 0 then ((vernierref07_Exactly.f k bt546.1 bt546.2.1 0 false).bind fun bt551 => ((vernierref07_Round.f k a0 bt551.1 bt551.2.1 bt551.2.2.1 bt551.2.2.2.1 bt551.2.2.2.2.1 bt551.2.2.2.2.2).bind fun t557 => (some (t557, 0)))) else (some (0, bt546.2.2)))
set_option maxHeartbeats 8000000 in
set_option maxRecDepth 100000 in
theorem vernierref16_Whole.calls (k : Nat) (a0 : Int) (a1 : Int) (a2 : Int) (r1 : Int) (r2 : Int) (w : World) (h : vernierref16_Whole.f k a0 a1 a2 = some (r1, r2)) :
  Calls Tryd.prog 8 #[.int .i64 a0, .int .u64 a1, .int .i64 a2] w fun e w' => e = .returned (.tuple #[.int .u64 r1, .int .i64 r2]) ∧ Below w.heap.size w w' := by
 have HB := Aside0.mk (Below.refl w.heap.size w)
 have H : ((vernierref16_To.f k a0 a1 a2).bind fun bt546 => (if bt546.2.2 = 0 then ((vernierref07_Exactly.f k bt546.1 bt546.2.1 0 false).bind fun bt551 => ((vernierref07_Round.f k a0 bt551.1 bt551.2.1 bt551.2.2.1 bt551.2.2.2.1 bt551.2.2.2.2.1 bt551.2.2.2.2.2).bind fun t557 => (some (t557, 0)))) else (some (0, bt546.2.2)))) = some (r1, r2) := h
 clear h
 replace H := Option.bind_eq_some_iff.mp H
 obtain ⟨⟨t546, t547, t548⟩, A40, H⟩ := H
 try dsimp -simprocs only at H
 have A4 := Aside0.mk A40
 clear A40
 by_cases c5 : t548 = 0
 ·
  rw [if_pos c5] at H
  have c5b0 : (t548 == 0) = true := beq_iff_eq.mpr c5
  have c5b1 : (t548 != 0) = false := bne_eq_false_iff_eq.mpr c5
  clear c5
  replace H := Option.bind_eq_some_iff.mp H
  obtain ⟨⟨t551, t552, t553, t554, t555, t556⟩, A60, H⟩ := H
  try dsimp -simprocs only at H
  have A6 := Aside0.mk A60
  clear A60
  replace H := Option.bind_eq_some_iff.mp H
  obtain ⟨t557, A70, H⟩ := H
  try dsimp -simprocs only at H
  have A7 := Aside0.mk A70
  clear A70
  simp only [Option.some.injEq, Prod.mk.injEq] at H
  obtain ⟨rfl, rfl⟩ := H
  go_enter Tryd.func8, Tryd.ntmps8
  go_wp2_with (first | ((with_reducible refine gX_ 21 15 rfl rfl ?_); refine goesY_ (some 15) Tryd.func21 #[.int .i64 a0, .int .u64 a1, .int .i64 a2] ?_; (with_reducible refine (vernierref16_To.calls k a0 a1 a2 t546 t547 t548 _ A4.out).mono ?_); rintro e w8 ⟨v549, rfl, ho0, hb⟩; refine ⟨_, rfl, ?_⟩; have HO550 := Aside0.mk (Kd.R_lower ho0 (bZ (bR3 HB.out))); replace HB := Aside0.mk (bS3 HB.out hb); (try clear hb); (try clear hk); (try clear ho0); obtain ⟨Ao9, co9, eo9⟩ := Kd.R_slice HO550.out; subst eo9) | ((with_reducible refine gX_ 23 25 rfl rfl ?_); refine goesY_ (some 25) Tryd.func23 #[.bool t546, .slice Ao9 t547.length co9, .int .i64 0, .bool false] ?_; (with_reducible refine (vernierref07_Exactly.calls k t546 (fun k_ => some k_ = (.slice Ao9 t547.length co9 : Value).ownBlock) (.slice Ao9 t547.length co9) t547 0 false t551 t552 t553 t554 t555 t556 w _ ?side1 ?side2 A6.out).mono ?_); (case side1 => repeat (first | (with_reducible first | exact HB.out | apply pA | apply pN | apply p1) | exact HB.out)); (case side2 => exact Kd.R_tight rfl HO550.out); rintro e w10 ⟨rfl, hb, hkp⟩; refine ⟨_, rfl, ?_⟩; replace HB := Aside0.mk (hb); clear HO550; (try clear hb); (try clear hkp)) | ((with_reducible refine gX_ 22 26 rfl rfl ?_); refine goesY_ (some 26) Tryd.func22 #[.int .i64 a0, .agg #[.int .i64 t551, .bool t552, .int .i64 t553, .int .u64 t554, .int .u64 t555, .bool t556]] ?_; (with_reducible refine (vernierref07_Round.calls k a0 t551 t552 t553 t554 t555 t556 t557 _ A7.out).mono ?_); rintro e w11 ⟨rfl, hb⟩; refine ⟨_, rfl, ?_⟩; replace HB := Aside0.mk (bS3 HB.out hb); (try clear hb); (try clear hk)))
  go_ret2
  exact ⟨eR3, bR3 HB.out⟩
 ·
  rw [if_neg c5] at H
  have c5b0 : (t548 == 0) = false := beq_eq_false_iff_ne.mpr c5
  have c5b1 : (t548 != 0) = true := bne_iff_ne.mpr c5
  simp only [Option.some.injEq, Prod.mk.injEq] at H
  obtain ⟨rfl, rfl⟩ := H
  go_enter Tryd.func8, Tryd.ntmps8
  go_wp2_with (first | ((with_reducible refine gX_ 21 15 rfl rfl ?_); refine goesY_ (some 15) Tryd.func21 #[.int .i64 a0, .int .u64 a1, .int .i64 a2] ?_; (with_reducible refine (vernierref16_To.calls k a0 a1 a2 t546 t547 t548 _ A4.out).mono ?_); rintro e w12 ⟨v549, rfl, ho0, hb⟩; refine ⟨_, rfl, ?_⟩; have HO550 := Aside0.mk (Kd.R_lower ho0 (bZ (bR3 HB.out))); replace HB := Aside0.mk (bS3 HB.out hb); (try clear hb); (try clear hk); (try clear ho0)))
  go_ret2
  exact ⟨eR3, bR3 HB.out⟩
def vernierref16_IsWhole.f (k : Nat) (a0 : Int) (a1 : Int) : Option (Bool × Int) := (vernierref05_Is.f a0).bind fun t558 => (if t558 = true then ((vernierref06_Decode.f k a0 a1).bind fun bt559 => (if bt559.1 = 2 then (some (false, 9)) else (if bt559.1 = 0 then (some (true, 0)) else ((vernierref16_parts.f k bt559.1 bt559.2.1 bt559.2.2.1 bt559.2.2.2).bind fun bt564 => (some (!bt564.2.1, 0)))))) else (some (false, 2)))
set_option maxHeartbeats 8000000 in
set_option maxRecDepth 100000 in
theorem vernierref16_IsWhole.calls (k : Nat) (a0 : Int) (a1 : Int) (r1 : Bool) (r2 : Int) (w : World) (h : vernierref16_IsWhole.f k a0 a1 = some (r1, r2)) :
  Calls Tryd.prog 9 #[.int .i64 a0, .int .u64 a1] w fun e w' => e = .returned (.tuple #[.bool r1, .int .i64 r2]) ∧ Below w.heap.size w w' := by
 have hu52 := Tryd.underlying52
 have HB := Aside0.mk (Below.refl w.heap.size w)
 have H : ((vernierref05_Is.f a0).bind fun t558 => (if t558 = true then ((vernierref06_Decode.f k a0 a1).bind fun bt559 => (if bt559.1 = 2 then (some (false, 9)) else (if bt559.1 = 0 then (some (true, 0)) else ((vernierref16_parts.f k bt559.1 bt559.2.1 bt559.2.2.1 bt559.2.2.2).bind fun bt564 => (some (!bt564.2.1, 0)))))) else (some (false, 2)))) = some (r1, r2) := h
 clear h
 replace H := Option.bind_eq_some_iff.mp H
 obtain ⟨t558, A30, H⟩ := H
 try dsimp -simprocs only at H
 have A3 := Aside0.mk A30
 clear A30
 by_cases c4 : t558 = true
 ·
  subst c4
  rw [if_pos rfl] at H
  replace H := Option.bind_eq_some_iff.mp H
  obtain ⟨⟨t559, t560, t561, t562⟩, A50, H⟩ := H
  try dsimp -simprocs only at H
  have A5 := Aside0.mk A50
  clear A50
  by_cases c6 : t559 = 2
  ·
   rw [if_pos c6] at H
   have c6b0 : (t559 == 2) = true := beq_iff_eq.mpr c6
   have c6b1 : (t559 != 2) = false := bne_eq_false_iff_eq.mpr c6
   clear c6
   simp only [Option.some.injEq, Prod.mk.injEq] at H
   obtain ⟨rfl, rfl⟩ := H
   go_enter Tryd.func9, Tryd.ntmps9
   go_wp2_with (first | ((with_reducible refine gX_ 24 12 rfl rfl ?_); refine goesY_ (some 12) Tryd.func24 #[.int .i64 a0] ?_; (with_reducible refine (vernierref05_Is.calls a0 true _ A3.out).mono ?_); rintro e w' ⟨rfl, ⟨nd, rfl⟩⟩; refine ⟨_, rfl, ?_⟩) | ((with_reducible refine gX_ 25 17 rfl rfl ?_); refine goesY_ (some 17) Tryd.func25 #[.int .i64 a0, .int .u64 a1] ?_; (with_reducible refine (vernierref06_Decode.calls k a0 a1 t559 t560 t561 t562 _ A5.out).mono ?_); rintro e w7 ⟨rfl, hb⟩; refine ⟨_, rfl, ?_⟩; replace HB := Aside0.mk (bS3 HB.out hb); (try clear hb); (try clear hk)) | ((with_reducible refine gD (N := 7) rfl ?_); refine bE3 7 #[.int .i64 0, .bool false, .int .i64 0, .int .u64 0] 52 ?hr ?_; (case hr => first | (go_simp; done) | (go_simp; rfl)); intro gb563 hg w8 hbox hb; have BK563 := Aside0.mk (hbox); have GW563 := Aside0.mk ((bZ3 hg HB.out)); have GE563 := Aside0.mk ((bZ3 hg HB.out)); replace HB := Aside0.mk (bS3 HB.out hb); clear hb hbox hg; obtain ⟨hcz9_0, hcz9_1, hcz9_2, hcz9_3, hfz9_0, hfz9_1, hfz9_2, hfz9_3⟩ := cl4 BK563.out))
   go_ret2
   exact ⟨eR3, bR3 HB.out⟩
  ·
   rw [if_neg c6] at H
   have c6b0 : (t559 == 2) = false := beq_eq_false_iff_ne.mpr c6
   have c6b1 : (t559 != 2) = true := bne_iff_ne.mpr c6
   by_cases c10 : t559 = 0
   ·
    rw [if_pos c10] at H
    have c10b0 : (t559 == 0) = true := beq_iff_eq.mpr c10
    have c10b1 : (t559 != 0) = false := bne_eq_false_iff_eq.mpr c10
    clear c10
    simp only [Option.some.injEq, Prod.mk.injEq] at H
    obtain ⟨rfl, rfl⟩ := H
    go_enter Tryd.func9, Tryd.ntmps9
    go_wp2_with (first | ((with_reducible refine gX_ 24 12 rfl rfl ?_); refine goesY_ (some 12) Tryd.func24 #[.int .i64 a0] ?_; (with_reducible refine (vernierref05_Is.calls a0 true _ A3.out).mono ?_); rintro e w' ⟨rfl, ⟨nd, rfl⟩⟩; refine ⟨_, rfl, ?_⟩) | ((with_reducible refine gX_ 25 17 rfl rfl ?_); refine goesY_ (some 17) Tryd.func25 #[.int .i64 a0, .int .u64 a1] ?_; (with_reducible refine (vernierref06_Decode.calls k a0 a1 t559 t560 t561 t562 _ A5.out).mono ?_); rintro e w11 ⟨rfl, hb⟩; refine ⟨_, rfl, ?_⟩; replace HB := Aside0.mk (bS3 HB.out hb); (try clear hb); (try clear hk)) | ((with_reducible refine gD (N := 7) rfl ?_); refine bE3 7 #[.int .i64 0, .bool false, .int .i64 0, .int .u64 0] 52 ?hr ?_; (case hr => first | (go_simp; done) | (go_simp; rfl)); intro gb563 hg w12 hbox hb; have BK563 := Aside0.mk (hbox); have GW563 := Aside0.mk ((bZ3 hg HB.out)); have GE563 := Aside0.mk ((bZ3 hg HB.out)); replace HB := Aside0.mk (bS3 HB.out hb); clear hb hbox hg; obtain ⟨hcz13_0, hcz13_1, hcz13_2, hcz13_3, hfz13_0, hfz13_1, hfz13_2, hfz13_3⟩ := cl4 BK563.out))
    go_ret2
    exact ⟨eR3, bR3 HB.out⟩
   ·
    rw [if_neg c10] at H
    have c10b0 : (t559 == 0) = false := beq_eq_false_iff_ne.mpr c10
    have c10b1 : (t559 != 0) = true := bne_iff_ne.mpr c10
    replace H := Option.bind_eq_some_iff.mp H
    obtain ⟨⟨t564, t567, t568⟩, A140, H⟩ := H
    try dsimp -simprocs only at H
    have A14 := Aside0.mk A140
    clear A140
    simp only [Option.some.injEq, Prod.mk.injEq] at H
    obtain ⟨rfl, rfl⟩ := H
    go_enter Tryd.func9, Tryd.ntmps9
    go_wp2_with (first | ((with_reducible refine gX_ 24 12 rfl rfl ?_); refine goesY_ (some 12) Tryd.func24 #[.int .i64 a0] ?_; (with_reducible refine (vernierref05_Is.calls a0 true _ A3.out).mono ?_); rintro e w' ⟨rfl, ⟨nd, rfl⟩⟩; refine ⟨_, rfl, ?_⟩) | ((with_reducible refine gX_ 25 17 rfl rfl ?_); refine goesY_ (some 17) Tryd.func25 #[.int .i64 a0, .int .u64 a1] ?_; (with_reducible refine (vernierref06_Decode.calls k a0 a1 t559 t560 t561 t562 _ A5.out).mono ?_); rintro e w15 ⟨rfl, hb⟩; refine ⟨_, rfl, ?_⟩; replace HB := Aside0.mk (bS3 HB.out hb); (try clear hb); (try clear hk)) | ((with_reducible refine gD (N := 7) rfl ?_); refine bE3 7 #[.int .i64 0, .bool false, .int .i64 0, .int .u64 0] 52 ?hr ?_; (case hr => first | (go_simp; done) | (go_simp; rfl)); intro gb563 hg w16 hbox hb; have BK563 := Aside0.mk (hbox); have GW563 := Aside0.mk ((bZ3 hg HB.out)); have GE563 := Aside0.mk ((bZ3 hg HB.out)); replace HB := Aside0.mk (bS3 HB.out hb); clear hb hbox hg; obtain ⟨hcz17_0, hcz17_1, hcz17_2, hcz17_3, hfz17_0, hfz17_1, hfz17_2, hfz17_3⟩ := cl4 BK563.out) | ((with_reducible refine gX_ 26 26 rfl rfl ?_); refine goesY_ (some 26) Tryd.func26 #[.agg #[.int .i64 t559, .bool t560, .int .i64 t561, .int .u64 t562]] ?_; (with_reducible refine (vernierref16_parts.calls k t559 t560 t561 t562 t564 t567 t568 _ A14.out).mono ?_); rintro e w18 ⟨v565, rfl, ho0, hb⟩; refine ⟨_, rfl, ?_⟩; have HO566 := Aside0.mk (Kd.R_lower ho0 (bZ (bR3 HB.out))); replace BK563 := Aside0.mk (bB (g := gb563) (o := .cells #[.int .i64 t559, .bool t560, .int .i64 t561, .int .u64 t562] 52 (0, 0)) (bQ3 BK563.out) hb); replace HB := Aside0.mk (bS3 HB.out hb); (try clear hb); (try clear hk); (try clear ho0)))
    go_ret2
    exact ⟨eR3, bR3 HB.out⟩
 ·
  replace c4 := Bool.eq_false_iff.mpr c4
  subst c4
  rw [if_neg (show ¬ (false = true) by decide)] at H
  simp only [Option.some.injEq, Prod.mk.injEq] at H
  obtain ⟨rfl, rfl⟩ := H
  go_enter Tryd.func9, Tryd.ntmps9
  go_wp2_with (first | ((with_reducible refine gX_ 24 12 rfl rfl ?_); refine goesY_ (some 12) Tryd.func24 #[.int .i64 a0] ?_; (with_reducible refine (vernierref05_Is.calls a0 false _ A3.out).mono ?_); rintro e w' ⟨rfl, ⟨nd, rfl⟩⟩; refine ⟨_, rfl, ?_⟩))
  go_ret2
  exact ⟨eR3, bR3 HB.out⟩
end Go.Proofs.YtlllaoihpkdpmaaDoor.F
