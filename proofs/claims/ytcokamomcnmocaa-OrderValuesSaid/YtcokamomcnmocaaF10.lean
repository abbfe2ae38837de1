/- Functions of the given program as plain Lean functions, and for each a proof that the program's call comes to just these answers; no further conditions. (Written by a program of this repo out of the translation.) -/
import Derived.Test.YtcokamomcnmocaaF0
import Derived.Test.YtcokamomcnmocaaF2
import Derived.Test.YtcokamomcnmocaaF9
namespace Go.Proofs.Ytcokamomcnmocaa.F
open Go.RowKit Go.Proofs.YtcokamomcnmocaaW.PrintWords Go.Proofs.YtcokamomcnmocaaW.PrintLast Go.Proofs.YtcokamomcnmocaaW.PrintMore
attribute [local go_sem high] xor_u64 xor_u32 eqErr25 neErr25 eqErrL25 neErrL25
attribute [local go_sem] max2_int min2_int max_two min_two max_three min_three max_four min_four   -- for this text's walks alone
set_option linter.unusedVariables false
set_option linter.unusedSimpArgs false

attribute [local go_sem high] eqA36
/-! ### vernierref07_Of: function 9 -/
def vernierref07_Of.f (a0_0 : Int) (a0_1 : Bool) (a0_2 : Int) (a0_3 : Int) : Option (Int × Bool × Int × Int × Int × Bool × Int) := (vernierref06_Sound.f a0_0 a0_1 a0_2 a0_3).bind fun t190 => (if t190 = true then (some (a0_0, a0_1, a0_2, a0_3, 0, false, 0)) else (some (0, false, 0, 0, 0, false, 1)))
set_option maxHeartbeats 8000000 in
set_option maxRecDepth 100000 in
theorem vernierref07_Of.calls (a0_0 : Int) (a0_1 : Bool) (a0_2 : Int) (a0_3 : Int) (r1 : Int) (r2 : Bool) (r3 : Int) (r4 : Int) (r5 : Int) (r6 : Bool) (r7 : Int) (w : World) (h : vernierref07_Of.f a0_0 a0_1 a0_2 a0_3 = some (r1, r2, r3, r4, r5, r6, r7)) :
    Calls Try.prog 9 #[.agg #[.int .i64 a0_0, .bool a0_1, .int .i64 a0_2, .int .u64 a0_3]] w fun e w' => e = .returned (.tuple #[.agg #[.int .i64 r1, .bool r2, .int .i64 r3, .int .u64 r4, .int .u64 r5, .bool r6], .int .i64 r7]) ∧ Below w.heap.size w w' := by
  have hu31 := Try.underlying31
  have hu36 := Try.underlying36
  have HB := Aside0.mk (Below.refl w.heap.size w)
  have H : ((vernierref06_Sound.f a0_0 a0_1 a0_2 a0_3).bind fun t190 => (if t190 = true then (some (a0_0, a0_1, a0_2, a0_3, 0, false, 0)) else (some (0, false, 0, 0, 0, false, 1)))) = some (r1, r2, r3, r4, r5, r6, r7) := h
  clear h
  replace H := Option.bind_eq_some_iff.mp H
  obtain ⟨t190, A20, H⟩ := H
  replace H : (if t190 = true then (some (a0_0, a0_1, a0_2, a0_3, 0, false, 0)) else (some (0, false, 0, 0, 0, false, 1))) = some (r1, r2, r3, r4, r5, r6, r7) := H
  have A2 := Aside0.mk A20
  clear A20
  by_cases c3 : t190 = true
  · subst c3
    have H1 : (some (a0_0, a0_1, a0_2, a0_3, 0, false, 0)) = some (r1, r2, r3, r4, r5, r6, r7) := by rw [if_pos rfl] at H; exact H
    clear H
    have H := H1
    clear H1
    simp only [Option.some.injEq, Prod.mk.injEq] at H
    obtain ⟨rfl, rfl, rfl, rfl, rfl, rfl, rfl⟩ := H
    go_enter Try.func9, Try.ntmps9
    go_wp2_with (first | ((with_reducible refine gD (N := 1) rfl ?_); refine bE3 1 #[.int .i64 a0_0, .bool a0_1, .int .i64 a0_2, .int .u64 a0_3] 31 ?hr ?_; (case hr => first | (go_simp; done) | (go_simp; rfl)); intro gb188 hg w4 hbox hb; have n0_ := Aside0.mk (bS3 HB.out hb); have n1_ := Aside0.mk (hbox); have n2_ := Aside0.mk ((bZ3 hg HB.out)); have n3_ := Aside0.mk ((bZ3 hg HB.out)); clear HB; have HB := n0_; have BK188 := n1_; have GW188 := n2_; have GE188 := n3_; clear n0_ n1_ n2_ n3_; clear hb hbox hg) | ((with_reducible refine gD (N := 2) rfl ?_); refine bE3 2 #[.int .i64 0, .bool false, .int .i64 0, .int .u64 0, .int .u64 0, .bool false] 36 ?hr ?_; (case hr => first | (go_simp; done) | (go_simp; rfl)); intro gb189 hg w5 hbox hb; have n0_ := Aside0.mk (bB3 BK188.out hb); have n1_ := Aside0.mk (bS3 HB.out hb); have n2_ := Aside0.mk (hbox); have n3_ := Aside0.mk ((bZ3 hg HB.out)); have n4_ := Aside0.mk ((bZ3 hg HB.out)); have n5_ := Aside0.mk ((bL3 hg BK188.out)); have n6_ := Aside0.mk ((bG3 hg BK188.out)); clear BK188; clear HB; have BK188 := n0_; have HB := n1_; have BK189 := n2_; have GW189 := n3_; have GE189 := n4_; have NB188_189 := n5_; have NB189_188 := n6_; clear n0_ n1_ n2_ n3_ n4_ n5_ n6_; clear hb hbox hg; have hnb6 := NB188_189.out; have hnc6 := NB189_188.out; have hcz7_0 : w5.cell? ⟨gb188, 0, none⟩ = some (.int .i64 a0_0) := (blk_cell BK188.out 0).trans rfl; have hcz7_1 : w5.cell? ⟨gb188, 1, none⟩ = some (.bool a0_1) := (blk_cell BK188.out 1).trans rfl; have hcz7_2 : w5.cell? ⟨gb188, 2, none⟩ = some (.int .i64 a0_2) := (blk_cell BK188.out 2).trans rfl; have hcz7_3 : w5.cell? ⟨gb188, 3, none⟩ = some (.int .u64 a0_3) := (blk_cell BK188.out 3).trans rfl; have hfz7_0 := blk_frozen BK188.out 0; have hfz7_1 := blk_frozen BK188.out 1; have hfz7_2 := blk_frozen BK188.out 2; have hfz7_3 := blk_frozen BK188.out 3) | ((with_reducible refine gC (f := 15) rfl ?_); (with_reducible refine gD (N := 6) rfl ?_); refine goesY_ (some 6) Try.func15 #[.agg #[.int .i64 a0_0, .bool a0_1, .int .i64 a0_2, .int .u64 a0_3]] ?_; (with_reducible refine (vernierref06_Sound.calls a0_0 a0_1 a0_2 a0_3 true _ A2.out).mono ?_); rintro e w8 ⟨rfl, hb⟩; refine ⟨_, rfl, ?_⟩; have n0_ := Aside0.mk (bB3 BK188.out hb); have n1_ := Aside0.mk (bB3 BK189.out hb); have n2_ := Aside0.mk (bS3 HB.out hb); clear BK188; clear BK189; clear HB; have BK188 := n0_; have BK189 := n1_; have HB := n2_; clear n0_ n1_ n2_; (try clear hb); (try clear hb2); (try clear hk); (try clear hi); have hcz9_0 : w8.cell? ⟨gb188, 0, none⟩ = some (.int .i64 a0_0) := (blk_cell BK188.out 0).trans rfl; have hcz9_1 : w8.cell? ⟨gb188, 1, none⟩ = some (.bool a0_1) := (blk_cell BK188.out 1).trans rfl; have hcz9_2 : w8.cell? ⟨gb188, 2, none⟩ = some (.int .i64 a0_2) := (blk_cell BK188.out 2).trans rfl; have hcz9_3 : w8.cell? ⟨gb188, 3, none⟩ = some (.int .u64 a0_3) := (blk_cell BK188.out 3).trans rfl; have hfz9_0 := blk_frozen BK188.out 0; have hfz9_1 := blk_frozen BK188.out 1; have hfz9_2 := blk_frozen BK188.out 2; have hfz9_3 := blk_frozen BK188.out 3; have hcz10_0 : w8.cell? ⟨gb189, 0, none⟩ = some (.int .i64 0) := (blk_cell BK189.out 0).trans rfl; have hcz10_1 : w8.cell? ⟨gb189, 1, none⟩ = some (.bool false) := (blk_cell BK189.out 1).trans rfl; have hcz10_2 : w8.cell? ⟨gb189, 2, none⟩ = some (.int .i64 0) := (blk_cell BK189.out 2).trans rfl; have hcz10_3 : w8.cell? ⟨gb189, 3, none⟩ = some (.int .u64 0) := (blk_cell BK189.out 3).trans rfl; have hcz10_4 : w8.cell? ⟨gb189, 4, none⟩ = some (.int .u64 0) := (blk_cell BK189.out 4).trans rfl; have hcz10_5 : w8.cell? ⟨gb189, 5, none⟩ = some (.bool false) := (blk_cell BK189.out 5).trans rfl; have hfz10_0 := blk_frozen BK189.out 0; have hfz10_1 := blk_frozen BK189.out 1; have hfz10_2 := blk_frozen BK189.out 2; have hfz10_3 := blk_frozen BK189.out 3; have hfz10_4 := blk_frozen BK189.out 4; have hfz10_5 := blk_frozen BK189.out 5))
    refine bodyPost_ret (results_ct rfl _ _ gb189 36 #[.int .i64 a0_0, .bool a0_1, .int .i64 a0_2, .int .u64 a0_3, .int .u64 0, .bool false] (0, 0) _ rfl (by (with_reducible repeat (first | refine bN ?_ _ | refine bD ?_ | refine bA ?_ _)); refine blk_put (cs := #[.int .i64 a0_0, .bool a0_1, .int .i64 a0_2, .int .u64 a0_3, .int .u64 0, .bool false]) ?_ 5 _ rfl; (with_reducible repeat (first | refine bN ?_ _ | refine bD ?_ | refine bA ?_ _)); refine blk_put (cs := #[.int .i64 a0_0, .bool a0_1, .int .i64 a0_2, .int .u64 a0_3, .int .u64 0, .bool false]) ?_ 4 _ rfl; (with_reducible repeat (first | refine bN ?_ _ | refine bD ?_ | refine bA ?_ _)); refine blk_put (cs := #[.int .i64 a0_0, .bool a0_1, .int .i64 a0_2, .int .u64 0, .int .u64 0, .bool false]) ?_ 3 _ rfl; (with_reducible repeat (first | refine bN ?_ _ | refine bD ?_ | refine bA ?_ _)); refine blk_put (cs := #[.int .i64 a0_0, .bool a0_1, .int .i64 0, .int .u64 0, .int .u64 0, .bool false]) ?_ 2 _ rfl; (with_reducible repeat (first | refine bN ?_ _ | refine bD ?_ | refine bA ?_ _)); refine blk_put (cs := #[.int .i64 a0_0, .bool false, .int .i64 0, .int .u64 0, .int .u64 0, .bool false]) ?_ 1 _ rfl; (with_reducible repeat (first | refine bN ?_ _ | refine bD ?_ | refine bA ?_ _)); refine blk_put (cs := #[.int .i64 0, .bool false, .int .i64 0, .int .u64 0, .int .u64 0, .bool false]) ?_ 0 _ rfl; (with_reducible repeat (first | refine bN ?_ _ | refine bD ?_ | refine bA ?_ _)); exact BK189.out) Try.underlying36 rfl (by kernel_rfl)) rfl ?_
    exact ⟨by first | rfl | (simp [errW_none, errW_some] <;> rfl) | (simp [*, errW_none, errW_some] <;> rfl), by repeat (first | (with_reducible first | exact HB.out | apply pA | apply pN | apply p1 | refine pS ?_ GE188.out | refine pS ?_ GE189.out) | exact HB.out)⟩
  · replace c3 := Bool.eq_false_iff.mpr c3
    subst c3
    have H1 : (some (0, false, 0, 0, 0, false, 1)) = some (r1, r2, r3, r4, r5, r6, r7) := by rw [if_neg (show ¬ (false = true) by decide)] at H; exact H
    clear H
    have H := H1
    clear H1
    simp only [Option.some.injEq, Prod.mk.injEq] at H
    obtain ⟨rfl, rfl, rfl, rfl, rfl, rfl, rfl⟩ := H
    go_enter Try.func9, Try.ntmps9
    go_wp2_with (first | ((with_reducible refine gD (N := 1) rfl ?_); refine bE3 1 #[.int .i64 a0_0, .bool a0_1, .int .i64 a0_2, .int .u64 a0_3] 31 ?hr ?_; (case hr => first | (go_simp; done) | (go_simp; rfl)); intro gb188 hg w11 hbox hb; have n0_ := Aside0.mk (bS3 HB.out hb); have n1_ := Aside0.mk (hbox); have n2_ := Aside0.mk ((bZ3 hg HB.out)); have n3_ := Aside0.mk ((bZ3 hg HB.out)); clear HB; have HB := n0_; have BK188 := n1_; have GW188 := n2_; have GE188 := n3_; clear n0_ n1_ n2_ n3_; clear hb hbox hg) | ((with_reducible refine gD (N := 2) rfl ?_); refine bE3 2 #[.int .i64 0, .bool false, .int .i64 0, .int .u64 0, .int .u64 0, .bool false] 36 ?hr ?_; (case hr => first | (go_simp; done) | (go_simp; rfl)); intro gb189 hg w12 hbox hb; have n0_ := Aside0.mk (bB3 BK188.out hb); have n1_ := Aside0.mk (bS3 HB.out hb); have n2_ := Aside0.mk (hbox); have n3_ := Aside0.mk ((bZ3 hg HB.out)); have n4_ := Aside0.mk ((bZ3 hg HB.out)); have n5_ := Aside0.mk ((bL3 hg BK188.out)); have n6_ := Aside0.mk ((bG3 hg BK188.out)); clear BK188; clear HB; have BK188 := n0_; have HB := n1_; have BK189 := n2_; have GW189 := n3_; have GE189 := n4_; have NB188_189 := n5_; have NB189_188 := n6_; clear n0_ n1_ n2_ n3_ n4_ n5_ n6_; clear hb hbox hg; have hnb13 := NB188_189.out; have hnc13 := NB189_188.out; have hcz14_0 : w12.cell? ⟨gb188, 0, none⟩ = some (.int .i64 a0_0) := (blk_cell BK188.out 0).trans rfl; have hcz14_1 : w12.cell? ⟨gb188, 1, none⟩ = some (.bool a0_1) := (blk_cell BK188.out 1).trans rfl; have hcz14_2 : w12.cell? ⟨gb188, 2, none⟩ = some (.int .i64 a0_2) := (blk_cell BK188.out 2).trans rfl; have hcz14_3 : w12.cell? ⟨gb188, 3, none⟩ = some (.int .u64 a0_3) := (blk_cell BK188.out 3).trans rfl; have hfz14_0 := blk_frozen BK188.out 0; have hfz14_1 := blk_frozen BK188.out 1; have hfz14_2 := blk_frozen BK188.out 2; have hfz14_3 := blk_frozen BK188.out 3) | ((with_reducible refine gC (f := 15) rfl ?_); (with_reducible refine gD (N := 6) rfl ?_); refine goesY_ (some 6) Try.func15 #[.agg #[.int .i64 a0_0, .bool a0_1, .int .i64 a0_2, .int .u64 a0_3]] ?_; (with_reducible refine (vernierref06_Sound.calls a0_0 a0_1 a0_2 a0_3 false _ A2.out).mono ?_); rintro e w15 ⟨rfl, hb⟩; refine ⟨_, rfl, ?_⟩; have n0_ := Aside0.mk (bB3 BK188.out hb); have n1_ := Aside0.mk (bB3 BK189.out hb); have n2_ := Aside0.mk (bS3 HB.out hb); clear BK188; clear BK189; clear HB; have BK188 := n0_; have BK189 := n1_; have HB := n2_; clear n0_ n1_ n2_; (try clear hb); (try clear hb2); (try clear hk); (try clear hi); have hcz16_0 : w15.cell? ⟨gb189, 0, none⟩ = some (.int .i64 0) := (blk_cell BK189.out 0).trans rfl; have hcz16_1 : w15.cell? ⟨gb189, 1, none⟩ = some (.bool false) := (blk_cell BK189.out 1).trans rfl; have hcz16_2 : w15.cell? ⟨gb189, 2, none⟩ = some (.int .i64 0) := (blk_cell BK189.out 2).trans rfl; have hcz16_3 : w15.cell? ⟨gb189, 3, none⟩ = some (.int .u64 0) := (blk_cell BK189.out 3).trans rfl; have hcz16_4 : w15.cell? ⟨gb189, 4, none⟩ = some (.int .u64 0) := (blk_cell BK189.out 4).trans rfl; have hcz16_5 : w15.cell? ⟨gb189, 5, none⟩ = some (.bool false) := (blk_cell BK189.out 5).trans rfl; have hfz16_0 := blk_frozen BK189.out 0; have hfz16_1 := blk_frozen BK189.out 1; have hfz16_2 := blk_frozen BK189.out 2; have hfz16_3 := blk_frozen BK189.out 3; have hfz16_4 := blk_frozen BK189.out 4; have hfz16_5 := blk_frozen BK189.out 5))
    refine bodyPost_ret (results_ct rfl _ _ gb189 36 #[.int .i64 0, .bool false, .int .i64 0, .int .u64 0, .int .u64 0, .bool false] (0, 0) _ rfl (by (with_reducible repeat (first | refine bN ?_ _ | refine bD ?_ | refine bA ?_ _)); refine blk_put (cs := #[.int .i64 0, .bool false, .int .i64 0, .int .u64 0, .int .u64 0, .bool false]) ?_ 5 _ rfl; (with_reducible repeat (first | refine bN ?_ _ | refine bD ?_ | refine bA ?_ _)); refine blk_put (cs := #[.int .i64 0, .bool false, .int .i64 0, .int .u64 0, .int .u64 0, .bool false]) ?_ 4 _ rfl; (with_reducible repeat (first | refine bN ?_ _ | refine bD ?_ | refine bA ?_ _)); refine blk_put (cs := #[.int .i64 0, .bool false, .int .i64 0, .int .u64 0, .int .u64 0, .bool false]) ?_ 3 _ rfl; (with_reducible repeat (first | refine bN ?_ _ | refine bD ?_ | refine bA ?_ _)); refine blk_put (cs := #[.int .i64 0, .bool false, .int .i64 0, .int .u64 0, .int .u64 0, .bool false]) ?_ 2 _ rfl; (with_reducible repeat (first | refine bN ?_ _ | refine bD ?_ | refine bA ?_ _)); refine blk_put (cs := #[.int .i64 0, .bool false, .int .i64 0, .int .u64 0, .int .u64 0, .bool false]) ?_ 1 _ rfl; (with_reducible repeat (first | refine bN ?_ _ | refine bD ?_ | refine bA ?_ _)); refine blk_put (cs := #[.int .i64 0, .bool false, .int .i64 0, .int .u64 0, .int .u64 0, .bool false]) ?_ 0 _ rfl; (with_reducible repeat (first | refine bN ?_ _ | refine bD ?_ | refine bA ?_ _)); exact BK189.out) Try.underlying36 rfl (by kernel_rfl)) rfl ?_
    exact ⟨by first | rfl | (simp [errW_none, errW_some] <;> rfl) | (simp [*, errW_none, errW_some] <;> rfl), by repeat (first | (with_reducible first | exact HB.out | apply pA | apply pN | apply p1 | refine pS ?_ GE188.out | refine pS ?_ GE189.out) | exact HB.out)⟩

/-! ### vernierref07_sign: function 16 -/
def vernierref07_sign.f (a0_0 : Int) (a0_1 : Bool) (a0_2 : Int) (a0_3 : Int) (a0_4 : Int) (a0_5 : Bool) : Option (Int) := if a0_0 = 1 then (if a0_1 = true then (some (-1)) else (some 1)) else (some 0)
set_option maxHeartbeats 8000000 in
set_option maxRecDepth 100000 in
theorem vernierref07_sign.calls (a0_0 : Int) (a0_1 : Bool) (a0_2 : Int) (a0_3 : Int) (a0_4 : Int) (a0_5 : Bool) (r : Int) (w : World) (h : vernierref07_sign.f a0_0 a0_1 a0_2 a0_3 a0_4 a0_5 = some r) :
    Calls Try.prog 16 #[.agg #[.int .i64 a0_0, .bool a0_1, .int .i64 a0_2, .int .u64 a0_3, .int .u64 a0_4, .bool a0_5]] w fun e w' => e = .returned (.int .i64 r) ∧ Below w.heap.size w w' := by
  have hu36 := Try.underlying36
  have HB := Aside0.mk (Below.refl w.heap.size w)
  have H : (if a0_0 = 1 then (if a0_1 = true then (some (-1)) else (some 1)) else (some 0)) = some r := h
  clear h
  by_cases c2 : a0_0 = 1
  · rw [if_pos c2] at H
    have c2b0 : (a0_0 == 1) = true := beq_iff_eq.mpr c2
    have c2b1 : (a0_0 != 1) = false := bne_eq_false_iff_eq.mpr c2
    clear c2
    by_cases c3 : a0_1 = true
    · subst c3
      have H1 : (some (-1)) = some r := by rw [if_pos rfl] at H; exact H
      clear H
      have H := H1
      clear H1
      obtain rfl := Option.some.inj H
      go_enter Try.func16, Try.ntmps16
      go_wp2_with (first | ((with_reducible refine gD (N := 1) rfl ?_); refine bE3 1 #[.int .i64 a0_0, .bool true, .int .i64 a0_2, .int .u64 a0_3, .int .u64 a0_4, .bool a0_5] 36 ?hr ?_; (case hr => first | (go_simp; done) | (go_simp; rfl)); intro gb191 hg w4 hbox hb; have n0_ := Aside0.mk (bS3 HB.out hb); have n1_ := Aside0.mk (hbox); have n2_ := Aside0.mk ((bZ3 hg HB.out)); have n3_ := Aside0.mk ((bZ3 hg HB.out)); clear HB; have HB := n0_; have BK191 := n1_; have GW191 := n2_; have GE191 := n3_; clear n0_ n1_ n2_ n3_; clear hb hbox hg; have hcz5_0 : w4.cell? ⟨gb191, 0, none⟩ = some (.int .i64 a0_0) := (blk_cell BK191.out 0).trans rfl; have hcz5_1 : w4.cell? ⟨gb191, 1, none⟩ = some (.bool true) := (blk_cell BK191.out 1).trans rfl; have hcz5_2 : w4.cell? ⟨gb191, 2, none⟩ = some (.int .i64 a0_2) := (blk_cell BK191.out 2).trans rfl; have hcz5_3 : w4.cell? ⟨gb191, 3, none⟩ = some (.int .u64 a0_3) := (blk_cell BK191.out 3).trans rfl; have hcz5_4 : w4.cell? ⟨gb191, 4, none⟩ = some (.int .u64 a0_4) := (blk_cell BK191.out 4).trans rfl; have hcz5_5 : w4.cell? ⟨gb191, 5, none⟩ = some (.bool a0_5) := (blk_cell BK191.out 5).trans rfl; have hfz5_0 := blk_frozen BK191.out 0; have hfz5_1 := blk_frozen BK191.out 1; have hfz5_2 := blk_frozen BK191.out 2; have hfz5_3 := blk_frozen BK191.out 3; have hfz5_4 := blk_frozen BK191.out 4; have hfz5_5 := blk_frozen BK191.out 5))
      go_ret
      exact ⟨by first | rfl | (simp [errW_none, errW_some] <;> rfl) | (simp [*, errW_none, errW_some] <;> rfl), by repeat (first | (with_reducible first | exact HB.out | apply pA | apply pN | apply p1 | refine pS ?_ GE191.out) | exact HB.out)⟩
    · replace c3 := Bool.eq_false_iff.mpr c3
      subst c3
      have H1 : (some 1) = some r := by rw [if_neg (show ¬ (false = true) by decide)] at H; exact H
      clear H
      have H := H1
      clear H1
      obtain rfl := Option.some.inj H
      go_enter Try.func16, Try.ntmps16
      go_wp2_with (first | ((with_reducible refine gD (N := 1) rfl ?_); refine bE3 1 #[.int .i64 a0_0, .bool false, .int .i64 a0_2, .int .u64 a0_3, .int .u64 a0_4, .bool a0_5] 36 ?hr ?_; (case hr => first | (go_simp; done) | (go_simp; rfl)); intro gb191 hg w6 hbox hb; have n0_ := Aside0.mk (bS3 HB.out hb); have n1_ := Aside0.mk (hbox); have n2_ := Aside0.mk ((bZ3 hg HB.out)); have n3_ := Aside0.mk ((bZ3 hg HB.out)); clear HB; have HB := n0_; have BK191 := n1_; have GW191 := n2_; have GE191 := n3_; clear n0_ n1_ n2_ n3_; clear hb hbox hg; have hcz7_0 : w6.cell? ⟨gb191, 0, none⟩ = some (.int .i64 a0_0) := (blk_cell BK191.out 0).trans rfl; have hcz7_1 : w6.cell? ⟨gb191, 1, none⟩ = some (.bool false) := (blk_cell BK191.out 1).trans rfl; have hcz7_2 : w6.cell? ⟨gb191, 2, none⟩ = some (.int .i64 a0_2) := (blk_cell BK191.out 2).trans rfl; have hcz7_3 : w6.cell? ⟨gb191, 3, none⟩ = some (.int .u64 a0_3) := (blk_cell BK191.out 3).trans rfl; have hcz7_4 : w6.cell? ⟨gb191, 4, none⟩ = some (.int .u64 a0_4) := (blk_cell BK191.out 4).trans rfl; have hcz7_5 : w6.cell? ⟨gb191, 5, none⟩ = some (.bool a0_5) := (blk_cell BK191.out 5).trans rfl; have hfz7_0 := blk_frozen BK191.out 0; have hfz7_1 := blk_frozen BK191.out 1; have hfz7_2 := blk_frozen BK191.out 2; have hfz7_3 := blk_frozen BK191.out 3; have hfz7_4 := blk_frozen BK191.out 4; have hfz7_5 := blk_frozen BK191.out 5))
      go_ret
      exact ⟨by first | rfl | (simp [errW_none, errW_some] <;> rfl) | (simp [*, errW_none, errW_some] <;> rfl), by repeat (first | (with_reducible first | exact HB.out | apply pA | apply pN | apply p1 | refine pS ?_ GE191.out) | exact HB.out)⟩
  · rw [if_neg c2] at H
    have c2b0 : (a0_0 == 1) = false := beq_eq_false_iff_ne.mpr c2
    have c2b1 : (a0_0 != 1) = true := bne_iff_ne.mpr c2
    obtain rfl := Option.some.inj H
    go_enter Try.func16, Try.ntmps16
    go_wp2_with (first | ((with_reducible refine gD (N := 1) rfl ?_); refine bE3 1 #[.int .i64 a0_0, .bool a0_1, .int .i64 a0_2, .int .u64 a0_3, .int .u64 a0_4, .bool a0_5] 36 ?hr ?_; (case hr => first | (go_simp; done) | (go_simp; rfl)); intro gb191 hg w8 hbox hb; have n0_ := Aside0.mk (bS3 HB.out hb); have n1_ := Aside0.mk (hbox); have n2_ := Aside0.mk ((bZ3 hg HB.out)); have n3_ := Aside0.mk ((bZ3 hg HB.out)); clear HB; have HB := n0_; have BK191 := n1_; have GW191 := n2_; have GE191 := n3_; clear n0_ n1_ n2_ n3_; clear hb hbox hg; have hcz9_0 : w8.cell? ⟨gb191, 0, none⟩ = some (.int .i64 a0_0) := (blk_cell BK191.out 0).trans rfl; have hcz9_1 : w8.cell? ⟨gb191, 1, none⟩ = some (.bool a0_1) := (blk_cell BK191.out 1).trans rfl; have hcz9_2 : w8.cell? ⟨gb191, 2, none⟩ = some (.int .i64 a0_2) := (blk_cell BK191.out 2).trans rfl; have hcz9_3 : w8.cell? ⟨gb191, 3, none⟩ = some (.int .u64 a0_3) := (blk_cell BK191.out 3).trans rfl; have hcz9_4 : w8.cell? ⟨gb191, 4, none⟩ = some (.int .u64 a0_4) := (blk_cell BK191.out 4).trans rfl; have hcz9_5 : w8.cell? ⟨gb191, 5, none⟩ = some (.bool a0_5) := (blk_cell BK191.out 5).trans rfl; have hfz9_0 := blk_frozen BK191.out 0; have hfz9_1 := blk_frozen BK191.out 1; have hfz9_2 := blk_frozen BK191.out 2; have hfz9_3 := blk_frozen BK191.out 3; have hfz9_4 := blk_frozen BK191.out 4; have hfz9_5 := blk_frozen BK191.out 5))
    go_ret
    exact ⟨by first | rfl | (simp [errW_none, errW_some] <;> rfl) | (simp [*, errW_none, errW_some] <;> rfl), by repeat (first | (with_reducible first | exact HB.out | apply pA | apply pN | apply p1 | refine pS ?_ GE191.out) | exact HB.out)⟩

/-! ### vernierref07_Cmp: function 10 -/
def vernierref07_Cmp.j0 : Nat → Int → Bool → Int → Bool → Int → Int → Int → Bool → Int → Bool → Int → Int → Int → Bool → Option (Int)
  | 0, _, _, _, _, _, _, _, _, _, _, _, _, _, _ => none
  | k + 1, x5, x19, x193000, x193001, x193002, x193003, x193004, x193005, x194000, x194001, x194002, x194003, x194004, x194005 => if x19 = true then (some 0) else (if x193002 < x194002 then (some (wrap64 (-x5))) else (if x193002 = x194002 then (if x193003 < x194003 then (some (wrap64 (-x5))) else (if x193003 = x194003 then (if x193004 < x194004 then (some (wrap64 (-x5))) else (some x5)) else (some x5))) else (some x5)))
def vernierref07_Cmp.f (k : Nat) (a0_0 : Int) (a0_1 : Bool) (a0_2 : Int) (a0_3 : Int) (a0_4 : Int) (a0_5 : Bool) (a1_0 : Int) (a1_1 : Bool) (a1_2 : Int) (a1_3 : Int) (a1_4 : Int) (a1_5 : Bool) : Option (Int) := (vernierref07_sign.f a0_0 a0_1 a0_2 a0_3 a0_4 a0_5).bind fun t194 => ((vernierref07_sign.f a1_0 a1_1 a1_2 a1_3 a1_4 a1_5).bind fun t195 => (if t194 < t195 then (some (-1)) else (if t194 > t195 then (some 1) else (if t194 = 0 then (vernierref07_Cmp.j0 k t194 true a0_0 a0_1 a0_2 a0_3 a0_4 a0_5 a1_0 a1_1 a1_2 a1_3 a1_4 a1_5) else (vernierref07_Cmp.j0 k t194 (a0_0 == a1_0 && (a0_1 == a1_1 && (a0_2 == a1_2 && (a0_3 == a1_3 && (a0_4 == a1_4 && (a0_5 == a1_5)))))) a0_0 a0_1 a0_2 a0_3 a0_4 a0_5 a1_0 a1_1 a1_2 a1_3 a1_4 a1_5)))))
theorem vernierref07_Cmp.mono_l : ∀ k, (∀ y0 y1 y2 y3 y4 y5 y6 y7 y8 y9 y10 y11 y12 y13, LeO (vernierref07_Cmp.j0 k y0 y1 y2 y3 y4 y5 y6 y7 y8 y9 y10 y11 y12 y13) (vernierref07_Cmp.j0 (k + 1) y0 y1 y2 y3 y4 y5 y6 y7 y8 y9 y10 y11 y12 y13))
  | 0 => fun _ _ _ _ _ _ _ _ _ _ _ _ _ _ r h => by simp [vernierref07_Cmp.j0] at h
  | k + 1 => by
    have ih0 := vernierref07_Cmp.mono_l k
    · intro y0 y1 y2 y3 y4 y5 y6 y7 y8 y9 y10 y11 y12 y13
      unfold vernierref07_Cmp.j0
      repeat' first
      | (with_reducible exact ih0 _ _ _ _ _ _ _ _ _ _ _ _ _ _)
      | (with_reducible exact LeO.refl _)
      | (with_reducible exact LeO.none _)
      | (with_reducible refine LeO.ite ?_ ?_)
      | (with_reducible refine LeO.bind ?_ (fun _ => ?_))
      | exact ih0 _ _ _ _ _ _ _ _ _ _ _ _ _ _
      | exact LeO.none _
      | refine LeO.ite ?_ ?_
      | refine LeO.bind ?_ (fun _ => ?_)
theorem vernierref07_Cmp.mono : ∀ a0 a1 a2 a3 a4 a5 a6 a7 a8 a9 a10 a11 k, LeO (vernierref07_Cmp.f k a0 a1 a2 a3 a4 a5 a6 a7 a8 a9 a10 a11) (vernierref07_Cmp.f (k + 1) a0 a1 a2 a3 a4 a5 a6 a7 a8 a9 a10 a11) := by
  intro a0 a1 a2 a3 a4 a5 a6 a7 a8 a9 a10 a11 k
  have ih0 := vernierref07_Cmp.mono_l k
  unfold vernierref07_Cmp.f
  repeat' first
      | (with_reducible exact ih0 _ _ _ _ _ _ _ _ _ _ _ _ _ _)
      | (with_reducible exact LeO.refl _)
      | (with_reducible exact LeO.none _)
      | (with_reducible refine LeO.ite ?_ ?_)
      | (with_reducible refine LeO.bind ?_ (fun _ => ?_))
      | exact ih0 _ _ _ _ _ _ _ _ _ _ _ _ _ _
      | exact LeO.none _
      | refine LeO.ite ?_ ?_
      | refine LeO.bind ?_ (fun _ => ?_)
set_option maxHeartbeats 8000000 in
set_option maxRecDepth 100000 in
theorem vernierref07_Cmp.calls (k : Nat) (a0_0 : Int) (a0_1 : Bool) (a0_2 : Int) (a0_3 : Int) (a0_4 : Int) (a0_5 : Bool) (a1_0 : Int) (a1_1 : Bool) (a1_2 : Int) (a1_3 : Int) (a1_4 : Int) (a1_5 : Bool) (r : Int) (w : World) (h : vernierref07_Cmp.f k a0_0 a0_1 a0_2 a0_3 a0_4 a0_5 a1_0 a1_1 a1_2 a1_3 a1_4 a1_5 = some r) :
    Calls Try.prog 10 #[.agg #[.int .i64 a0_0, .bool a0_1, .int .i64 a0_2, .int .u64 a0_3, .int .u64 a0_4, .bool a0_5], .agg #[.int .i64 a1_0, .bool a1_1, .int .i64 a1_2, .int .u64 a1_3, .int .u64 a1_4, .bool a1_5]] w fun e w' => e = .returned (.int .i64 r) ∧ Below w.heap.size w w' := by
  have hu36 := Try.underlying36
  have HB := Aside0.mk (Below.refl w.heap.size w)
  have H : ((vernierref07_sign.f a0_0 a0_1 a0_2 a0_3 a0_4 a0_5).bind fun t194 => ((vernierref07_sign.f a1_0 a1_1 a1_2 a1_3 a1_4 a1_5).bind fun t195 => (if t194 < t195 then (some (-1)) else (if t194 > t195 then (some 1) else (if t194 = 0 then (vernierref07_Cmp.j0 k t194 true a0_0 a0_1 a0_2 a0_3 a0_4 a0_5 a1_0 a1_1 a1_2 a1_3 a1_4 a1_5) else (vernierref07_Cmp.j0 k t194 (a0_0 == a1_0 && (a0_1 == a1_1 && (a0_2 == a1_2 && (a0_3 == a1_3 && (a0_4 == a1_4 && (a0_5 == a1_5)))))) a0_0 a0_1 a0_2 a0_3 a0_4 a0_5 a1_0 a1_1 a1_2 a1_3 a1_4 a1_5)))))) = some r := h
  clear h
  replace H := Option.bind_eq_some_iff.mp H
  obtain ⟨t194, A30, H⟩ := H
  replace H : ((vernierref07_sign.f a1_0 a1_1 a1_2 a1_3 a1_4 a1_5).bind fun t195 => (if t194 < t195 then (some (-1)) else (if t194 > t195 then (some 1) else (if t194 = 0 then (vernierref07_Cmp.j0 k t194 true a0_0 a0_1 a0_2 a0_3 a0_4 a0_5 a1_0 a1_1 a1_2 a1_3 a1_4 a1_5) else (vernierref07_Cmp.j0 k t194 (a0_0 == a1_0 && (a0_1 == a1_1 && (a0_2 == a1_2 && (a0_3 == a1_3 && (a0_4 == a1_4 && (a0_5 == a1_5)))))) a0_0 a0_1 a0_2 a0_3 a0_4 a0_5 a1_0 a1_1 a1_2 a1_3 a1_4 a1_5))))) = some r := H
  have A3 := Aside0.mk A30
  clear A30
  replace H := Option.bind_eq_some_iff.mp H
  obtain ⟨t195, A40, H⟩ := H
  replace H : (if t194 < t195 then (some (-1)) else (if t194 > t195 then (some 1) else (if t194 = 0 then (vernierref07_Cmp.j0 k t194 true a0_0 a0_1 a0_2 a0_3 a0_4 a0_5 a1_0 a1_1 a1_2 a1_3 a1_4 a1_5) else (vernierref07_Cmp.j0 k t194 (a0_0 == a1_0 && (a0_1 == a1_1 && (a0_2 == a1_2 && (a0_3 == a1_3 && (a0_4 == a1_4 && (a0_5 == a1_5)))))) a0_0 a0_1 a0_2 a0_3 a0_4 a0_5 a1_0 a1_1 a1_2 a1_3 a1_4 a1_5)))) = some r := H
  have A4 := Aside0.mk A40
  clear A40
  by_cases c5 : t194 < t195
  · rw [if_pos c5] at H
    have c5b0 : decide (t194 < t195) = true := decide_eq_true c5
    clear c5
    obtain rfl := Option.some.inj H
    go_enter Try.func10, Try.ntmps10
    go_wp2_with (first | ((with_reducible refine gD (N := 2) rfl ?_); refine bE3 2 #[.int .i64 a0_0, .bool a0_1, .int .i64 a0_2, .int .u64 a0_3, .int .u64 a0_4, .bool a0_5] 36 ?hr ?_; (case hr => first | (go_simp; done) | (go_simp; rfl)); intro gb192 hg w6 hbox hb; have n0_ := Aside0.mk (bS3 HB.out hb); have n1_ := Aside0.mk (hbox); have n2_ := Aside0.mk ((bZ3 hg HB.out)); have n3_ := Aside0.mk ((bZ3 hg HB.out)); clear HB; have HB := n0_; have BK192 := n1_; have GW192 := n2_; have GE192 := n3_; clear n0_ n1_ n2_ n3_; clear hb hbox hg) | ((with_reducible refine gD (N := 3) rfl ?_); refine bE3 3 #[.int .i64 a1_0, .bool a1_1, .int .i64 a1_2, .int .u64 a1_3, .int .u64 a1_4, .bool a1_5] 36 ?hr ?_; (case hr => first | (go_simp; done) | (go_simp; rfl)); intro gb193 hg w7 hbox hb; have n0_ := Aside0.mk (bB3 BK192.out hb); have n1_ := Aside0.mk (bS3 HB.out hb); have n2_ := Aside0.mk (hbox); have n3_ := Aside0.mk ((bZ3 hg HB.out)); have n4_ := Aside0.mk ((bZ3 hg HB.out)); have n5_ := Aside0.mk ((bL3 hg BK192.out)); have n6_ := Aside0.mk ((bG3 hg BK192.out)); clear BK192; clear HB; have BK192 := n0_; have HB := n1_; have BK193 := n2_; have GW193 := n3_; have GE193 := n4_; have NB192_193 := n5_; have NB193_192 := n6_; clear n0_ n1_ n2_ n3_ n4_ n5_ n6_; clear hb hbox hg; have hnb8 := NB192_193.out; have hnc8 := NB193_192.out; have hcz9_0 : w7.cell? ⟨gb192, 0, none⟩ = some (.int .i64 a0_0) := (blk_cell BK192.out 0).trans rfl; have hcz9_1 : w7.cell? ⟨gb192, 1, none⟩ = some (.bool a0_1) := (blk_cell BK192.out 1).trans rfl; have hcz9_2 : w7.cell? ⟨gb192, 2, none⟩ = some (.int .i64 a0_2) := (blk_cell BK192.out 2).trans rfl; have hcz9_3 : w7.cell? ⟨gb192, 3, none⟩ = some (.int .u64 a0_3) := (blk_cell BK192.out 3).trans rfl; have hcz9_4 : w7.cell? ⟨gb192, 4, none⟩ = some (.int .u64 a0_4) := (blk_cell BK192.out 4).trans rfl; have hcz9_5 : w7.cell? ⟨gb192, 5, none⟩ = some (.bool a0_5) := (blk_cell BK192.out 5).trans rfl; have hfz9_0 := blk_frozen BK192.out 0; have hfz9_1 := blk_frozen BK192.out 1; have hfz9_2 := blk_frozen BK192.out 2; have hfz9_3 := blk_frozen BK192.out 3; have hfz9_4 := blk_frozen BK192.out 4; have hfz9_5 := blk_frozen BK192.out 5) | ((with_reducible refine gC (f := 16) rfl ?_); (with_reducible refine gD (N := 8) rfl ?_); refine goesY_ (some 8) Try.func16 #[.agg #[.int .i64 a0_0, .bool a0_1, .int .i64 a0_2, .int .u64 a0_3, .int .u64 a0_4, .bool a0_5]] ?_; (with_reducible refine (vernierref07_sign.calls a0_0 a0_1 a0_2 a0_3 a0_4 a0_5 t194 _ A3.out).mono ?_); rintro e w10 ⟨rfl, hb⟩; refine ⟨_, rfl, ?_⟩; have n0_ := Aside0.mk (bB3 BK192.out hb); have n1_ := Aside0.mk (bB3 BK193.out hb); have n2_ := Aside0.mk (bS3 HB.out hb); clear BK192; clear BK193; clear HB; have BK192 := n0_; have BK193 := n1_; have HB := n2_; clear n0_ n1_ n2_; (try clear hb); (try clear hb2); (try clear hk); (try clear hi); have hcz11_0 : w10.cell? ⟨gb193, 0, none⟩ = some (.int .i64 a1_0) := (blk_cell BK193.out 0).trans rfl; have hcz11_1 : w10.cell? ⟨gb193, 1, none⟩ = some (.bool a1_1) := (blk_cell BK193.out 1).trans rfl; have hcz11_2 : w10.cell? ⟨gb193, 2, none⟩ = some (.int .i64 a1_2) := (blk_cell BK193.out 2).trans rfl; have hcz11_3 : w10.cell? ⟨gb193, 3, none⟩ = some (.int .u64 a1_3) := (blk_cell BK193.out 3).trans rfl; have hcz11_4 : w10.cell? ⟨gb193, 4, none⟩ = some (.int .u64 a1_4) := (blk_cell BK193.out 4).trans rfl; have hcz11_5 : w10.cell? ⟨gb193, 5, none⟩ = some (.bool a1_5) := (blk_cell BK193.out 5).trans rfl; have hfz11_0 := blk_frozen BK193.out 0; have hfz11_1 := blk_frozen BK193.out 1; have hfz11_2 := blk_frozen BK193.out 2; have hfz11_3 := blk_frozen BK193.out 3; have hfz11_4 := blk_frozen BK193.out 4; have hfz11_5 := blk_frozen BK193.out 5) | ((with_reducible refine gC (f := 16) rfl ?_); (with_reducible refine gD (N := 10) rfl ?_); refine goesY_ (some 10) Try.func16 #[.agg #[.int .i64 a1_0, .bool a1_1, .int .i64 a1_2, .int .u64 a1_3, .int .u64 a1_4, .bool a1_5]] ?_; (with_reducible refine (vernierref07_sign.calls a1_0 a1_1 a1_2 a1_3 a1_4 a1_5 t195 _ A4.out).mono ?_); rintro e w12 ⟨rfl, hb⟩; refine ⟨_, rfl, ?_⟩; have n0_ := Aside0.mk (bB3 BK192.out hb); have n1_ := Aside0.mk (bB3 BK193.out hb); have n2_ := Aside0.mk (bS3 HB.out hb); clear BK192; clear BK193; clear HB; have BK192 := n0_; have BK193 := n1_; have HB := n2_; clear n0_ n1_ n2_; (try clear hb); (try clear hb2); (try clear hk); (try clear hi)))
    go_ret
    exact ⟨by first | rfl | (simp [errW_none, errW_some] <;> rfl) | (simp [*, errW_none, errW_some] <;> rfl), by repeat (first | (with_reducible first | exact HB.out | apply pA | apply pN | apply p1 | refine pS ?_ GE192.out | refine pS ?_ GE193.out) | exact HB.out)⟩
  · rw [if_neg c5] at H
    have c5b0 : decide (t194 < t195) = false := decide_eq_false c5
    clear c5
    by_cases c13 : t194 > t195
    · rw [if_pos c13] at H
      have c13b0 : decide (t195 < t194) = true := decide_eq_true c13
      clear c13
      obtain rfl := Option.some.inj H
      go_enter Try.func10, Try.ntmps10
      go_wp2_with (first | ((with_reducible refine gD (N := 2) rfl ?_); refine bE3 2 #[.int .i64 a0_0, .bool a0_1, .int .i64 a0_2, .int .u64 a0_3, .int .u64 a0_4, .bool a0_5] 36 ?hr ?_; (case hr => first | (go_simp; done) | (go_simp; rfl)); intro gb192 hg w14 hbox hb; have n0_ := Aside0.mk (bS3 HB.out hb); have n1_ := Aside0.mk (hbox); have n2_ := Aside0.mk ((bZ3 hg HB.out)); have n3_ := Aside0.mk ((bZ3 hg HB.out)); clear HB; have HB := n0_; have BK192 := n1_; have GW192 := n2_; have GE192 := n3_; clear n0_ n1_ n2_ n3_; clear hb hbox hg) | ((with_reducible refine gD (N := 3) rfl ?_); refine bE3 3 #[.int .i64 a1_0, .bool a1_1, .int .i64 a1_2, .int .u64 a1_3, .int .u64 a1_4, .bool a1_5] 36 ?hr ?_; (case hr => first | (go_simp; done) | (go_simp; rfl)); intro gb193 hg w15 hbox hb; have n0_ := Aside0.mk (bB3 BK192.out hb); have n1_ := Aside0.mk (bS3 HB.out hb); have n2_ := Aside0.mk (hbox); have n3_ := Aside0.mk ((bZ3 hg HB.out)); have n4_ := Aside0.mk ((bZ3 hg HB.out)); have n5_ := Aside0.mk ((bL3 hg BK192.out)); have n6_ := Aside0.mk ((bG3 hg BK192.out)); clear BK192; clear HB; have BK192 := n0_; have HB := n1_; have BK193 := n2_; have GW193 := n3_; have GE193 := n4_; have NB192_193 := n5_; have NB193_192 := n6_; clear n0_ n1_ n2_ n3_ n4_ n5_ n6_; clear hb hbox hg; have hnb16 := NB192_193.out; have hnc16 := NB193_192.out; have hcz17_0 : w15.cell? ⟨gb192, 0, none⟩ = some (.int .i64 a0_0) := (blk_cell BK192.out 0).trans rfl; have hcz17_1 : w15.cell? ⟨gb192, 1, none⟩ = some (.bool a0_1) := (blk_cell BK192.out 1).trans rfl; have hcz17_2 : w15.cell? ⟨gb192, 2, none⟩ = some (.int .i64 a0_2) := (blk_cell BK192.out 2).trans rfl; have hcz17_3 : w15.cell? ⟨gb192, 3, none⟩ = some (.int .u64 a0_3) := (blk_cell BK192.out 3).trans rfl; have hcz17_4 : w15.cell? ⟨gb192, 4, none⟩ = some (.int .u64 a0_4) := (blk_cell BK192.out 4).trans rfl; have hcz17_5 : w15.cell? ⟨gb192, 5, none⟩ = some (.bool a0_5) := (blk_cell BK192.out 5).trans rfl; have hfz17_0 := blk_frozen BK192.out 0; have hfz17_1 := blk_frozen BK192.out 1; have hfz17_2 := blk_frozen BK192.out 2; have hfz17_3 := blk_frozen BK192.out 3; have hfz17_4 := blk_frozen BK192.out 4; have hfz17_5 := blk_frozen BK192.out 5) | ((with_reducible refine gC (f := 16) rfl ?_); (with_reducible refine gD (N := 8) rfl ?_); refine goesY_ (some 8) Try.func16 #[.agg #[.int .i64 a0_0, .bool a0_1, .int .i64 a0_2, .int .u64 a0_3, .int .u64 a0_4, .bool a0_5]] ?_; (with_reducible refine (vernierref07_sign.calls a0_0 a0_1 a0_2 a0_3 a0_4 a0_5 t194 _ A3.out).mono ?_); rintro e w18 ⟨rfl, hb⟩; refine ⟨_, rfl, ?_⟩; have n0_ := Aside0.mk (bB3 BK192.out hb); have n1_ := Aside0.mk (bB3 BK193.out hb); have n2_ := Aside0.mk (bS3 HB.out hb); clear BK192; clear BK193; clear HB; have BK192 := n0_; have BK193 := n1_; have HB := n2_; clear n0_ n1_ n2_; (try clear hb); (try clear hb2); (try clear hk); (try clear hi); have hcz19_0 : w18.cell? ⟨gb193, 0, none⟩ = some (.int .i64 a1_0) := (blk_cell BK193.out 0).trans rfl; have hcz19_1 : w18.cell? ⟨gb193, 1, none⟩ = some (.bool a1_1) := (blk_cell BK193.out 1).trans rfl; have hcz19_2 : w18.cell? ⟨gb193, 2, none⟩ = some (.int .i64 a1_2) := (blk_cell BK193.out 2).trans rfl; have hcz19_3 : w18.cell? ⟨gb193, 3, none⟩ = some (.int .u64 a1_3) := (blk_cell BK193.out 3).trans rfl; have hcz19_4 : w18.cell? ⟨gb193, 4, none⟩ = some (.int .u64 a1_4) := (blk_cell BK193.out 4).trans rfl; have hcz19_5 : w18.cell? ⟨gb193, 5, none⟩ = some (.bool a1_5) := (blk_cell BK193.out 5).trans rfl; have hfz19_0 := blk_frozen BK193.out 0; have hfz19_1 := blk_frozen BK193.out 1; have hfz19_2 := blk_frozen BK193.out 2; have hfz19_3 := blk_frozen BK193.out 3; have hfz19_4 := blk_frozen BK193.out 4; have hfz19_5 := blk_frozen BK193.out 5) | ((with_reducible refine gC (f := 16) rfl ?_); (with_reducible refine gD (N := 10) rfl ?_); refine goesY_ (some 10) Try.func16 #[.agg #[.int .i64 a1_0, .bool a1_1, .int .i64 a1_2, .int .u64 a1_3, .int .u64 a1_4, .bool a1_5]] ?_; (with_reducible refine (vernierref07_sign.calls a1_0 a1_1 a1_2 a1_3 a1_4 a1_5 t195 _ A4.out).mono ?_); rintro e w20 ⟨rfl, hb⟩; refine ⟨_, rfl, ?_⟩; have n0_ := Aside0.mk (bB3 BK192.out hb); have n1_ := Aside0.mk (bB3 BK193.out hb); have n2_ := Aside0.mk (bS3 HB.out hb); clear BK192; clear BK193; clear HB; have BK192 := n0_; have BK193 := n1_; have HB := n2_; clear n0_ n1_ n2_; (try clear hb); (try clear hb2); (try clear hk); (try clear hi)))
      go_ret
      exact ⟨by first | rfl | (simp [errW_none, errW_some] <;> rfl) | (simp [*, errW_none, errW_some] <;> rfl), by repeat (first | (with_reducible first | exact HB.out | apply pA | apply pN | apply p1 | refine pS ?_ GE192.out | refine pS ?_ GE193.out) | exact HB.out)⟩
    · rw [if_neg c13] at H
      have c13b0 : decide (t195 < t194) = false := decide_eq_false c13
      clear c13
      have HC21 := Aside0.mk H
      clear H
      go_enter Try.func10, Try.ntmps10
      go_upto_region 7 with (first | ((with_reducible refine gD (N := 2) rfl ?_); refine bE3 2 #[.int .i64 a0_0, .bool a0_1, .int .i64 a0_2, .int .u64 a0_3, .int .u64 a0_4, .bool a0_5] 36 ?hr ?_; (case hr => first | (go_simp; done) | (go_simp; rfl)); intro gb192 hg w22 hbox hb; have n0_ := Aside0.mk (bS3 HB.out hb); have n1_ := Aside0.mk (hbox); have n2_ := Aside0.mk ((bZ3 hg HB.out)); have n3_ := Aside0.mk ((bZ3 hg HB.out)); clear HB; have HB := n0_; have BK192 := n1_; have GW192 := n2_; have GE192 := n3_; clear n0_ n1_ n2_ n3_; clear hb hbox hg) | ((with_reducible refine gD (N := 3) rfl ?_); refine bE3 3 #[.int .i64 a1_0, .bool a1_1, .int .i64 a1_2, .int .u64 a1_3, .int .u64 a1_4, .bool a1_5] 36 ?hr ?_; (case hr => first | (go_simp; done) | (go_simp; rfl)); intro gb193 hg w23 hbox hb; have n0_ := Aside0.mk (bB3 BK192.out hb); have n1_ := Aside0.mk (bS3 HB.out hb); have n2_ := Aside0.mk (hbox); have n3_ := Aside0.mk ((bZ3 hg HB.out)); have n4_ := Aside0.mk ((bZ3 hg HB.out)); have n5_ := Aside0.mk ((bL3 hg BK192.out)); have n6_ := Aside0.mk ((bG3 hg BK192.out)); clear BK192; clear HB; have BK192 := n0_; have HB := n1_; have BK193 := n2_; have GW193 := n3_; have GE193 := n4_; have NB192_193 := n5_; have NB193_192 := n6_; clear n0_ n1_ n2_ n3_ n4_ n5_ n6_; clear hb hbox hg; have hnb24 := NB192_193.out; have hnc24 := NB193_192.out; have hcz25_0 : w23.cell? ⟨gb192, 0, none⟩ = some (.int .i64 a0_0) := (blk_cell BK192.out 0).trans rfl; have hcz25_1 : w23.cell? ⟨gb192, 1, none⟩ = some (.bool a0_1) := (blk_cell BK192.out 1).trans rfl; have hcz25_2 : w23.cell? ⟨gb192, 2, none⟩ = some (.int .i64 a0_2) := (blk_cell BK192.out 2).trans rfl; have hcz25_3 : w23.cell? ⟨gb192, 3, none⟩ = some (.int .u64 a0_3) := (blk_cell BK192.out 3).trans rfl; have hcz25_4 : w23.cell? ⟨gb192, 4, none⟩ = some (.int .u64 a0_4) := (blk_cell BK192.out 4).trans rfl; have hcz25_5 : w23.cell? ⟨gb192, 5, none⟩ = some (.bool a0_5) := (blk_cell BK192.out 5).trans rfl; have hfz25_0 := blk_frozen BK192.out 0; have hfz25_1 := blk_frozen BK192.out 1; have hfz25_2 := blk_frozen BK192.out 2; have hfz25_3 := blk_frozen BK192.out 3; have hfz25_4 := blk_frozen BK192.out 4; have hfz25_5 := blk_frozen BK192.out 5) | ((with_reducible refine gC (f := 16) rfl ?_); (with_reducible refine gD (N := 8) rfl ?_); refine goesY_ (some 8) Try.func16 #[.agg #[.int .i64 a0_0, .bool a0_1, .int .i64 a0_2, .int .u64 a0_3, .int .u64 a0_4, .bool a0_5]] ?_; (with_reducible refine (vernierref07_sign.calls a0_0 a0_1 a0_2 a0_3 a0_4 a0_5 t194 _ A3.out).mono ?_); rintro e w26 ⟨rfl, hb⟩; refine ⟨_, rfl, ?_⟩; have n0_ := Aside0.mk (bB3 BK192.out hb); have n1_ := Aside0.mk (bB3 BK193.out hb); have n2_ := Aside0.mk (bS3 HB.out hb); clear BK192; clear BK193; clear HB; have BK192 := n0_; have BK193 := n1_; have HB := n2_; clear n0_ n1_ n2_; (try clear hb); (try clear hb2); (try clear hk); (try clear hi); have hcz27_0 : w26.cell? ⟨gb193, 0, none⟩ = some (.int .i64 a1_0) := (blk_cell BK193.out 0).trans rfl; have hcz27_1 : w26.cell? ⟨gb193, 1, none⟩ = some (.bool a1_1) := (blk_cell BK193.out 1).trans rfl; have hcz27_2 : w26.cell? ⟨gb193, 2, none⟩ = some (.int .i64 a1_2) := (blk_cell BK193.out 2).trans rfl; have hcz27_3 : w26.cell? ⟨gb193, 3, none⟩ = some (.int .u64 a1_3) := (blk_cell BK193.out 3).trans rfl; have hcz27_4 : w26.cell? ⟨gb193, 4, none⟩ = some (.int .u64 a1_4) := (blk_cell BK193.out 4).trans rfl; have hcz27_5 : w26.cell? ⟨gb193, 5, none⟩ = some (.bool a1_5) := (blk_cell BK193.out 5).trans rfl; have hfz27_0 := blk_frozen BK193.out 0; have hfz27_1 := blk_frozen BK193.out 1; have hfz27_2 := blk_frozen BK193.out 2; have hfz27_3 := blk_frozen BK193.out 3; have hfz27_4 := blk_frozen BK193.out 4; have hfz27_5 := blk_frozen BK193.out 5) | ((with_reducible refine gC (f := 16) rfl ?_); (with_reducible refine gD (N := 10) rfl ?_); refine goesY_ (some 10) Try.func16 #[.agg #[.int .i64 a1_0, .bool a1_1, .int .i64 a1_2, .int .u64 a1_3, .int .u64 a1_4, .bool a1_5]] ?_; (with_reducible refine (vernierref07_sign.calls a1_0 a1_1 a1_2 a1_3 a1_4 a1_5 t195 _ A4.out).mono ?_); rintro e w28 ⟨rfl, hb⟩; refine ⟨_, rfl, ?_⟩; have n0_ := Aside0.mk (bB3 BK192.out hb); have n1_ := Aside0.mk (bB3 BK193.out hb); have n2_ := Aside0.mk (bS3 HB.out hb); clear BK192; clear BK193; clear HB; have BK192 := n0_; have BK193 := n1_; have HB := n2_; clear n0_ n1_ n2_; (try clear hb); (try clear hb2); (try clear hk); (try clear hi)))
      (try simp only [Act.put, List.setIfInBounds_toArray, List.set_cons_zero, List.set_cons_succ])
      go_cut [19] (fun v19 wc => ∃ (kq : Nat) (x19_20 : Bool), v19 = .bool x19_20 ∧ Aside0 (vernierref07_Cmp.j0 kq t194 x19_20 a0_0 a0_1 a0_2 a0_3 a0_4 a0_5 a1_0 a1_1 a1_2 a1_3 a1_4 a1_5 = some r) ∧ Aside0 (kq ≤ k) ∧ Aside0 (wc.heap[gb192]? = some (.cells #[.int .i64 a0_0, .bool a0_1, .int .i64 a0_2, .int .u64 a0_3, .int .u64 a0_4, .bool a0_5] 36 (0, 0))) ∧ Aside0 (wc.heap[gb193]? = some (.cells #[.int .i64 a1_0, .bool a1_1, .int .i64 a1_2, .int .u64 a1_3, .int .u64 a1_4, .bool a1_5] 36 (0, 0))) ∧ Aside0 (Below w.heap.size w wc))
      case first =>
        have H := HC21.out
        clear HC21
        by_cases c29 : t194 = 0
        · rw [if_pos c29] at H
          have c29b0 : (t194 == 0) = true := beq_iff_eq.mpr c29
          have c29b1 : (t194 != 0) = false := bne_eq_false_iff_eq.mpr c29
          clear c29
          (first | rw [c29b0] | (simp only [i64_w, i32_w]; rw [c29b0]) | skip)
          have H' := Aside0.mk H
          clear H
          go_wp2
          go_meet
          case rel => exact ⟨_, (true), (by first | rfl | (simp; done) | (simp [*]; done)), H', ⟨by first | omega | exact Nat.le_refl _⟩, ⟨by (with_reducible repeat (first | refine bN ?_ _ | refine bD ?_ | refine bA ?_ _)); exact BK192.out⟩, ⟨by (with_reducible repeat (first | refine bN ?_ _ | refine bD ?_ | refine bA ?_ _)); exact BK193.out⟩, ⟨by repeat (first | (with_reducible first | exact HB.out | apply pA | apply pN | apply p1 | refine pS ?_ GE192.out | refine pS ?_ GE193.out) | exact HB.out)⟩⟩
        · rw [if_neg c29] at H
          have c29b0 : (t194 == 0) = false := beq_eq_false_iff_ne.mpr c29
          have c29b1 : (t194 != 0) = true := bne_iff_ne.mpr c29
          (first | rw [c29b0] | (simp only [i64_w, i32_w]; rw [c29b0]) | skip)
          have H' := Aside0.mk H
          clear H
          have hnb30 := NB192_193.out
          have hnc30 := NB193_192.out
          have hcz31_0 : w28.cell? ⟨gb192, 0, none⟩ = some (.int .i64 a0_0) := (blk_cell BK192.out 0).trans rfl
          have hcz31_1 : w28.cell? ⟨gb192, 1, none⟩ = some (.bool a0_1) := (blk_cell BK192.out 1).trans rfl
          have hcz31_2 : w28.cell? ⟨gb192, 2, none⟩ = some (.int .i64 a0_2) := (blk_cell BK192.out 2).trans rfl
          have hcz31_3 : w28.cell? ⟨gb192, 3, none⟩ = some (.int .u64 a0_3) := (blk_cell BK192.out 3).trans rfl
          have hcz31_4 : w28.cell? ⟨gb192, 4, none⟩ = some (.int .u64 a0_4) := (blk_cell BK192.out 4).trans rfl
          have hcz31_5 : w28.cell? ⟨gb192, 5, none⟩ = some (.bool a0_5) := (blk_cell BK192.out 5).trans rfl
          have hfz31_0 := blk_frozen BK192.out 0
          have hfz31_1 := blk_frozen BK192.out 1
          have hfz31_2 := blk_frozen BK192.out 2
          have hfz31_3 := blk_frozen BK192.out 3
          have hfz31_4 := blk_frozen BK192.out 4
          have hfz31_5 := blk_frozen BK192.out 5
          have hcz32_0 : w28.cell? ⟨gb193, 0, none⟩ = some (.int .i64 a1_0) := (blk_cell BK193.out 0).trans rfl
          have hcz32_1 : w28.cell? ⟨gb193, 1, none⟩ = some (.bool a1_1) := (blk_cell BK193.out 1).trans rfl
          have hcz32_2 : w28.cell? ⟨gb193, 2, none⟩ = some (.int .i64 a1_2) := (blk_cell BK193.out 2).trans rfl
          have hcz32_3 : w28.cell? ⟨gb193, 3, none⟩ = some (.int .u64 a1_3) := (blk_cell BK193.out 3).trans rfl
          have hcz32_4 : w28.cell? ⟨gb193, 4, none⟩ = some (.int .u64 a1_4) := (blk_cell BK193.out 4).trans rfl
          have hcz32_5 : w28.cell? ⟨gb193, 5, none⟩ = some (.bool a1_5) := (blk_cell BK193.out 5).trans rfl
          have hfz32_0 := blk_frozen BK193.out 0
          have hfz32_1 := blk_frozen BK193.out 1
          have hfz32_2 := blk_frozen BK193.out 2
          have hfz32_3 := blk_frozen BK193.out 3
          have hfz32_4 := blk_frozen BK193.out 4
          have hfz32_5 := blk_frozen BK193.out 5
          go_wp2
          go_meet
          case rel => exact ⟨_, ((a0_0 == a1_0 && (a0_1 == a1_1 && (a0_2 == a1_2 && (a0_3 == a1_3 && (a0_4 == a1_4 && (a0_5 == a1_5))))))), (by first | rfl | (simp; done) | (simp [*]; done)), H', ⟨by first | omega | exact Nat.le_refl _⟩, ⟨by (with_reducible repeat (first | refine bN ?_ _ | refine bD ?_ | refine bA ?_ _)); exact BK192.out⟩, ⟨by (with_reducible repeat (first | refine bN ?_ _ | refine bD ?_ | refine bA ?_ _)); exact BK193.out⟩, ⟨by repeat (first | (with_reducible first | exact HB.out | apply pA | apply pN | apply p1 | refine pS ?_ GE192.out | refine pS ?_ GE193.out) | exact HB.out)⟩⟩
      case rest =>
        clear HC21
        try clear c1
        try clear c2
        try clear p2
        try clear c3
        try clear c5
        try clear c5b0
        try clear c8
        try clear c10
        try clear c13
        try clear c13b0
        try clear c16
        try clear c24
        try clear c29
        try clear c29b0
        try clear c29b1
        try clear c30
        try clear hcz11_0
        try clear hcz11_1
        try clear hcz11_2
        try clear hcz11_3
        try clear hcz11_4
        try clear hcz11_5
        try clear hcz17_0
        try clear hcz17_1
        try clear hcz17_2
        try clear hcz17_3
        try clear hcz17_4
        try clear hcz17_5
        try clear hcz19_0
        try clear hcz19_1
        try clear hcz19_2
        try clear hcz19_3
        try clear hcz19_4
        try clear hcz19_5
        try clear hcz25_0
        try clear hcz25_1
        try clear hcz25_2
        try clear hcz25_3
        try clear hcz25_4
        try clear hcz25_5
        try clear hcz27_0
        try clear hcz27_1
        try clear hcz27_2
        try clear hcz27_3
        try clear hcz27_4
        try clear hcz27_5
        try clear hcz31_0
        try clear hcz31_1
        try clear hcz31_2
        try clear hcz31_3
        try clear hcz31_4
        try clear hcz31_5
        try clear hcz32_0
        try clear hcz32_1
        try clear hcz32_2
        try clear hcz32_3
        try clear hcz32_4
        try clear hcz32_5
        try clear hcz9_0
        try clear hcz9_1
        try clear hcz9_2
        try clear hcz9_3
        try clear hcz9_4
        try clear hcz9_5
        try clear hfz11_0
        try clear hfz11_1
        try clear hfz11_2
        try clear hfz11_3
        try clear hfz11_4
        try clear hfz11_5
        try clear hfz17_0
        try clear hfz17_1
        try clear hfz17_2
        try clear hfz17_3
        try clear hfz17_4
        try clear hfz17_5
        try clear hfz19_0
        try clear hfz19_1
        try clear hfz19_2
        try clear hfz19_3
        try clear hfz19_4
        try clear hfz19_5
        try clear hfz25_0
        try clear hfz25_1
        try clear hfz25_2
        try clear hfz25_3
        try clear hfz25_4
        try clear hfz25_5
        try clear hfz27_0
        try clear hfz27_1
        try clear hfz27_2
        try clear hfz27_3
        try clear hfz27_4
        try clear hfz27_5
        try clear hfz31_0
        try clear hfz31_1
        try clear hfz31_2
        try clear hfz31_3
        try clear hfz31_4
        try clear hfz31_5
        try clear hfz32_0
        try clear hfz32_1
        try clear hfz32_2
        try clear hfz32_3
        try clear hfz32_4
        try clear hfz32_5
        try clear hfz9_0
        try clear hfz9_1
        try clear hfz9_2
        try clear hfz9_3
        try clear hfz9_4
        try clear hfz9_5
        obtain ⟨kq, x19_20, rfl, HA, HJ20, BK192, BK193, HB⟩ := hcut
        cases kq with
        | zero => exact absurd HA.out (by simp [vernierref07_Cmp.j0])
        | succ kj20 =>
          have H := HA.out
          clear HA
          simp only [vernierref07_Cmp.j0] at H
          by_cases c33 : x19_20 = true
          · subst c33
            have H1 : (some 0) = some r := by rw [if_pos rfl] at H; exact H
            clear H
            have H := H1
            clear H1
            obtain rfl := Option.some.inj H
            go_wp2
            go_ret
            exact ⟨by first | rfl | (simp [errW_none, errW_some] <;> rfl) | (simp [*, errW_none, errW_some] <;> rfl), by repeat (first | (with_reducible first | exact HB.out | apply pA | apply pN | apply p1 | refine pS ?_ GE192.out | refine pS ?_ GE193.out) | exact HB.out)⟩
          · replace c33 := Bool.eq_false_iff.mpr c33
            subst c33
            have H1 : (if a0_2 < a1_2 then (some (wrap64 (-t194))) else (if a0_2 = a1_2 then (if a0_3 < a1_3 then (some (wrap64 (-t194))) else (if a0_3 = a1_3 then (if a0_4 < a1_4 then (some (wrap64 (-t194))) else (some t194)) else (some t194))) else (some t194))) = some r := by rw [if_neg (show ¬ (false = true) by decide)] at H; exact H
            clear H
            have H := H1
            clear H1
            by_cases c34 : a0_2 < a1_2
            · rw [if_pos c34] at H
              have c34b0 : decide (a0_2 < a1_2) = true := decide_eq_true c34
              clear c34
              obtain rfl := Option.some.inj H
              have hnb35 := NB192_193.out
              have hnc35 := NB193_192.out
              have hcz36_0 : wc.cell? ⟨gb192, 0, none⟩ = some (.int .i64 a0_0) := (blk_cell BK192.out 0).trans rfl
              have hcz36_1 : wc.cell? ⟨gb192, 1, none⟩ = some (.bool a0_1) := (blk_cell BK192.out 1).trans rfl
              have hcz36_2 : wc.cell? ⟨gb192, 2, none⟩ = some (.int .i64 a0_2) := (blk_cell BK192.out 2).trans rfl
              have hcz36_3 : wc.cell? ⟨gb192, 3, none⟩ = some (.int .u64 a0_3) := (blk_cell BK192.out 3).trans rfl
              have hcz36_4 : wc.cell? ⟨gb192, 4, none⟩ = some (.int .u64 a0_4) := (blk_cell BK192.out 4).trans rfl
              have hcz36_5 : wc.cell? ⟨gb192, 5, none⟩ = some (.bool a0_5) := (blk_cell BK192.out 5).trans rfl
              have hfz36_0 := blk_frozen BK192.out 0
              have hfz36_1 := blk_frozen BK192.out 1
              have hfz36_2 := blk_frozen BK192.out 2
              have hfz36_3 := blk_frozen BK192.out 3
              have hfz36_4 := blk_frozen BK192.out 4
              have hfz36_5 := blk_frozen BK192.out 5
              have hcz37_0 : wc.cell? ⟨gb193, 0, none⟩ = some (.int .i64 a1_0) := (blk_cell BK193.out 0).trans rfl
              have hcz37_1 : wc.cell? ⟨gb193, 1, none⟩ = some (.bool a1_1) := (blk_cell BK193.out 1).trans rfl
              have hcz37_2 : wc.cell? ⟨gb193, 2, none⟩ = some (.int .i64 a1_2) := (blk_cell BK193.out 2).trans rfl
              have hcz37_3 : wc.cell? ⟨gb193, 3, none⟩ = some (.int .u64 a1_3) := (blk_cell BK193.out 3).trans rfl
              have hcz37_4 : wc.cell? ⟨gb193, 4, none⟩ = some (.int .u64 a1_4) := (blk_cell BK193.out 4).trans rfl
              have hcz37_5 : wc.cell? ⟨gb193, 5, none⟩ = some (.bool a1_5) := (blk_cell BK193.out 5).trans rfl
              have hfz37_0 := blk_frozen BK193.out 0
              have hfz37_1 := blk_frozen BK193.out 1
              have hfz37_2 := blk_frozen BK193.out 2
              have hfz37_3 := blk_frozen BK193.out 3
              have hfz37_4 := blk_frozen BK193.out 4
              have hfz37_5 := blk_frozen BK193.out 5
              go_wp2
              go_ret
              exact ⟨by first | rfl | (simp [errW_none, errW_some] <;> rfl) | (simp [*, errW_none, errW_some] <;> rfl), by repeat (first | (with_reducible first | exact HB.out | apply pA | apply pN | apply p1 | refine pS ?_ GE192.out | refine pS ?_ GE193.out) | exact HB.out)⟩
            · rw [if_neg c34] at H
              have c34b0 : decide (a0_2 < a1_2) = false := decide_eq_false c34
              clear c34
              by_cases c38 : a0_2 = a1_2
              · rw [if_pos c38] at H
                have c38b0 : (a0_2 == a1_2) = true := beq_iff_eq.mpr c38
                have c38b1 : (a0_2 != a1_2) = false := bne_eq_false_iff_eq.mpr c38
                clear c38
                by_cases c39 : a0_3 < a1_3
                · rw [if_pos c39] at H
                  have c39b0 : decide (a0_3 < a1_3) = true := decide_eq_true c39
                  clear c39
                  obtain rfl := Option.some.inj H
                  have hnb40 := NB192_193.out
                  have hnc40 := NB193_192.out
                  have hcz41_0 : wc.cell? ⟨gb192, 0, none⟩ = some (.int .i64 a0_0) := (blk_cell BK192.out 0).trans rfl
                  have hcz41_1 : wc.cell? ⟨gb192, 1, none⟩ = some (.bool a0_1) := (blk_cell BK192.out 1).trans rfl
                  have hcz41_2 : wc.cell? ⟨gb192, 2, none⟩ = some (.int .i64 a0_2) := (blk_cell BK192.out 2).trans rfl
                  have hcz41_3 : wc.cell? ⟨gb192, 3, none⟩ = some (.int .u64 a0_3) := (blk_cell BK192.out 3).trans rfl
                  have hcz41_4 : wc.cell? ⟨gb192, 4, none⟩ = some (.int .u64 a0_4) := (blk_cell BK192.out 4).trans rfl
                  have hcz41_5 : wc.cell? ⟨gb192, 5, none⟩ = some (.bool a0_5) := (blk_cell BK192.out 5).trans rfl
                  have hfz41_0 := blk_frozen BK192.out 0
                  have hfz41_1 := blk_frozen BK192.out 1
                  have hfz41_2 := blk_frozen BK192.out 2
                  have hfz41_3 := blk_frozen BK192.out 3
                  have hfz41_4 := blk_frozen BK192.out 4
                  have hfz41_5 := blk_frozen BK192.out 5
                  have hcz42_0 : wc.cell? ⟨gb193, 0, none⟩ = some (.int .i64 a1_0) := (blk_cell BK193.out 0).trans rfl
                  have hcz42_1 : wc.cell? ⟨gb193, 1, none⟩ = some (.bool a1_1) := (blk_cell BK193.out 1).trans rfl
                  have hcz42_2 : wc.cell? ⟨gb193, 2, none⟩ = some (.int .i64 a1_2) := (blk_cell BK193.out 2).trans rfl
                  have hcz42_3 : wc.cell? ⟨gb193, 3, none⟩ = some (.int .u64 a1_3) := (blk_cell BK193.out 3).trans rfl
                  have hcz42_4 : wc.cell? ⟨gb193, 4, none⟩ = some (.int .u64 a1_4) := (blk_cell BK193.out 4).trans rfl
                  have hcz42_5 : wc.cell? ⟨gb193, 5, none⟩ = some (.bool a1_5) := (blk_cell BK193.out 5).trans rfl
                  have hfz42_0 := blk_frozen BK193.out 0
                  have hfz42_1 := blk_frozen BK193.out 1
                  have hfz42_2 := blk_frozen BK193.out 2
                  have hfz42_3 := blk_frozen BK193.out 3
                  have hfz42_4 := blk_frozen BK193.out 4
                  have hfz42_5 := blk_frozen BK193.out 5
                  go_wp2
                  go_ret
                  exact ⟨by first | rfl | (simp [errW_none, errW_some] <;> rfl) | (simp [*, errW_none, errW_some] <;> rfl), by repeat (first | (with_reducible first | exact HB.out | apply pA | apply pN | apply p1 | refine pS ?_ GE192.out | refine pS ?_ GE193.out) | exact HB.out)⟩
                · rw [if_neg c39] at H
                  have c39b0 : decide (a0_3 < a1_3) = false := decide_eq_false c39
                  clear c39
                  by_cases c43 : a0_3 = a1_3
                  · rw [if_pos c43] at H
                    have c43b0 : (a0_3 == a1_3) = true := beq_iff_eq.mpr c43
                    have c43b1 : (a0_3 != a1_3) = false := bne_eq_false_iff_eq.mpr c43
                    clear c43
                    by_cases c44 : a0_4 < a1_4
                    · rw [if_pos c44] at H
                      have c44b0 : decide (a0_4 < a1_4) = true := decide_eq_true c44
                      clear c44
                      obtain rfl := Option.some.inj H
                      have hnb45 := NB192_193.out
                      have hnc45 := NB193_192.out
                      have hcz46_0 : wc.cell? ⟨gb192, 0, none⟩ = some (.int .i64 a0_0) := (blk_cell BK192.out 0).trans rfl
                      have hcz46_1 : wc.cell? ⟨gb192, 1, none⟩ = some (.bool a0_1) := (blk_cell BK192.out 1).trans rfl
                      have hcz46_2 : wc.cell? ⟨gb192, 2, none⟩ = some (.int .i64 a0_2) := (blk_cell BK192.out 2).trans rfl
                      have hcz46_3 : wc.cell? ⟨gb192, 3, none⟩ = some (.int .u64 a0_3) := (blk_cell BK192.out 3).trans rfl
                      have hcz46_4 : wc.cell? ⟨gb192, 4, none⟩ = some (.int .u64 a0_4) := (blk_cell BK192.out 4).trans rfl
                      have hcz46_5 : wc.cell? ⟨gb192, 5, none⟩ = some (.bool a0_5) := (blk_cell BK192.out 5).trans rfl
                      have hfz46_0 := blk_frozen BK192.out 0
                      have hfz46_1 := blk_frozen BK192.out 1
                      have hfz46_2 := blk_frozen BK192.out 2
                      have hfz46_3 := blk_frozen BK192.out 3
                      have hfz46_4 := blk_frozen BK192.out 4
                      have hfz46_5 := blk_frozen BK192.out 5
                      have hcz47_0 : wc.cell? ⟨gb193, 0, none⟩ = some (.int .i64 a1_0) := (blk_cell BK193.out 0).trans rfl
                      have hcz47_1 : wc.cell? ⟨gb193, 1, none⟩ = some (.bool a1_1) := (blk_cell BK193.out 1).trans rfl
                      have hcz47_2 : wc.cell? ⟨gb193, 2, none⟩ = some (.int .i64 a1_2) := (blk_cell BK193.out 2).trans rfl
                      have hcz47_3 : wc.cell? ⟨gb193, 3, none⟩ = some (.int .u64 a1_3) := (blk_cell BK193.out 3).trans rfl
                      have hcz47_4 : wc.cell? ⟨gb193, 4, none⟩ = some (.int .u64 a1_4) := (blk_cell BK193.out 4).trans rfl
                      have hcz47_5 : wc.cell? ⟨gb193, 5, none⟩ = some (.bool a1_5) := (blk_cell BK193.out 5).trans rfl
                      have hfz47_0 := blk_frozen BK193.out 0
                      have hfz47_1 := blk_frozen BK193.out 1
                      have hfz47_2 := blk_frozen BK193.out 2
                      have hfz47_3 := blk_frozen BK193.out 3
                      have hfz47_4 := blk_frozen BK193.out 4
                      have hfz47_5 := blk_frozen BK193.out 5
                      go_wp2
                      go_ret
                      exact ⟨by first | rfl | (simp [errW_none, errW_some] <;> rfl) | (simp [*, errW_none, errW_some] <;> rfl), by repeat (first | (with_reducible first | exact HB.out | apply pA | apply pN | apply p1 | refine pS ?_ GE192.out | refine pS ?_ GE193.out) | exact HB.out)⟩
                    · rw [if_neg c44] at H
                      have c44b0 : decide (a0_4 < a1_4) = false := decide_eq_false c44
                      clear c44
                      obtain rfl := Option.some.inj H
                      have hnb48 := NB192_193.out
                      have hnc48 := NB193_192.out
                      have hcz49_0 : wc.cell? ⟨gb192, 0, none⟩ = some (.int .i64 a0_0) := (blk_cell BK192.out 0).trans rfl
                      have hcz49_1 : wc.cell? ⟨gb192, 1, none⟩ = some (.bool a0_1) := (blk_cell BK192.out 1).trans rfl
                      have hcz49_2 : wc.cell? ⟨gb192, 2, none⟩ = some (.int .i64 a0_2) := (blk_cell BK192.out 2).trans rfl
                      have hcz49_3 : wc.cell? ⟨gb192, 3, none⟩ = some (.int .u64 a0_3) := (blk_cell BK192.out 3).trans rfl
                      have hcz49_4 : wc.cell? ⟨gb192, 4, none⟩ = some (.int .u64 a0_4) := (blk_cell BK192.out 4).trans rfl
                      have hcz49_5 : wc.cell? ⟨gb192, 5, none⟩ = some (.bool a0_5) := (blk_cell BK192.out 5).trans rfl
                      have hfz49_0 := blk_frozen BK192.out 0
                      have hfz49_1 := blk_frozen BK192.out 1
                      have hfz49_2 := blk_frozen BK192.out 2
                      have hfz49_3 := blk_frozen BK192.out 3
                      have hfz49_4 := blk_frozen BK192.out 4
                      have hfz49_5 := blk_frozen BK192.out 5
                      have hcz50_0 : wc.cell? ⟨gb193, 0, none⟩ = some (.int .i64 a1_0) := (blk_cell BK193.out 0).trans rfl
                      have hcz50_1 : wc.cell? ⟨gb193, 1, none⟩ = some (.bool a1_1) := (blk_cell BK193.out 1).trans rfl
                      have hcz50_2 : wc.cell? ⟨gb193, 2, none⟩ = some (.int .i64 a1_2) := (blk_cell BK193.out 2).trans rfl
                      have hcz50_3 : wc.cell? ⟨gb193, 3, none⟩ = some (.int .u64 a1_3) := (blk_cell BK193.out 3).trans rfl
                      have hcz50_4 : wc.cell? ⟨gb193, 4, none⟩ = some (.int .u64 a1_4) := (blk_cell BK193.out 4).trans rfl
                      have hcz50_5 : wc.cell? ⟨gb193, 5, none⟩ = some (.bool a1_5) := (blk_cell BK193.out 5).trans rfl
                      have hfz50_0 := blk_frozen BK193.out 0
                      have hfz50_1 := blk_frozen BK193.out 1
                      have hfz50_2 := blk_frozen BK193.out 2
                      have hfz50_3 := blk_frozen BK193.out 3
                      have hfz50_4 := blk_frozen BK193.out 4
                      have hfz50_5 := blk_frozen BK193.out 5
                      go_wp2
                      go_ret
                      exact ⟨by first | rfl | (simp [errW_none, errW_some] <;> rfl) | (simp [*, errW_none, errW_some] <;> rfl), by repeat (first | (with_reducible first | exact HB.out | apply pA | apply pN | apply p1 | refine pS ?_ GE192.out | refine pS ?_ GE193.out) | exact HB.out)⟩
                  · rw [if_neg c43] at H
                    have c43b0 : (a0_3 == a1_3) = false := beq_eq_false_iff_ne.mpr c43
                    have c43b1 : (a0_3 != a1_3) = true := bne_iff_ne.mpr c43
                    obtain rfl := Option.some.inj H
                    have hnb51 := NB192_193.out
                    have hnc51 := NB193_192.out
                    have hcz52_0 : wc.cell? ⟨gb192, 0, none⟩ = some (.int .i64 a0_0) := (blk_cell BK192.out 0).trans rfl
                    have hcz52_1 : wc.cell? ⟨gb192, 1, none⟩ = some (.bool a0_1) := (blk_cell BK192.out 1).trans rfl
                    have hcz52_2 : wc.cell? ⟨gb192, 2, none⟩ = some (.int .i64 a0_2) := (blk_cell BK192.out 2).trans rfl
                    have hcz52_3 : wc.cell? ⟨gb192, 3, none⟩ = some (.int .u64 a0_3) := (blk_cell BK192.out 3).trans rfl
                    have hcz52_4 : wc.cell? ⟨gb192, 4, none⟩ = some (.int .u64 a0_4) := (blk_cell BK192.out 4).trans rfl
                    have hcz52_5 : wc.cell? ⟨gb192, 5, none⟩ = some (.bool a0_5) := (blk_cell BK192.out 5).trans rfl
                    have hfz52_0 := blk_frozen BK192.out 0
                    have hfz52_1 := blk_frozen BK192.out 1
                    have hfz52_2 := blk_frozen BK192.out 2
                    have hfz52_3 := blk_frozen BK192.out 3
                    have hfz52_4 := blk_frozen BK192.out 4
                    have hfz52_5 := blk_frozen BK192.out 5
                    have hcz53_0 : wc.cell? ⟨gb193, 0, none⟩ = some (.int .i64 a1_0) := (blk_cell BK193.out 0).trans rfl
                    have hcz53_1 : wc.cell? ⟨gb193, 1, none⟩ = some (.bool a1_1) := (blk_cell BK193.out 1).trans rfl
                    have hcz53_2 : wc.cell? ⟨gb193, 2, none⟩ = some (.int .i64 a1_2) := (blk_cell BK193.out 2).trans rfl
                    have hcz53_3 : wc.cell? ⟨gb193, 3, none⟩ = some (.int .u64 a1_3) := (blk_cell BK193.out 3).trans rfl
                    have hcz53_4 : wc.cell? ⟨gb193, 4, none⟩ = some (.int .u64 a1_4) := (blk_cell BK193.out 4).trans rfl
                    have hcz53_5 : wc.cell? ⟨gb193, 5, none⟩ = some (.bool a1_5) := (blk_cell BK193.out 5).trans rfl
                    have hfz53_0 := blk_frozen BK193.out 0
                    have hfz53_1 := blk_frozen BK193.out 1
                    have hfz53_2 := blk_frozen BK193.out 2
                    have hfz53_3 := blk_frozen BK193.out 3
                    have hfz53_4 := blk_frozen BK193.out 4
                    have hfz53_5 := blk_frozen BK193.out 5
                    go_wp2
                    go_ret
                    exact ⟨by first | rfl | (simp [errW_none, errW_some] <;> rfl) | (simp [*, errW_none, errW_some] <;> rfl), by repeat (first | (with_reducible first | exact HB.out | apply pA | apply pN | apply p1 | refine pS ?_ GE192.out | refine pS ?_ GE193.out) | exact HB.out)⟩
              · rw [if_neg c38] at H
                have c38b0 : (a0_2 == a1_2) = false := beq_eq_false_iff_ne.mpr c38
                have c38b1 : (a0_2 != a1_2) = true := bne_iff_ne.mpr c38
                obtain rfl := Option.some.inj H
                have hnb54 := NB192_193.out
                have hnc54 := NB193_192.out
                have hcz55_0 : wc.cell? ⟨gb192, 0, none⟩ = some (.int .i64 a0_0) := (blk_cell BK192.out 0).trans rfl
                have hcz55_1 : wc.cell? ⟨gb192, 1, none⟩ = some (.bool a0_1) := (blk_cell BK192.out 1).trans rfl
                have hcz55_2 : wc.cell? ⟨gb192, 2, none⟩ = some (.int .i64 a0_2) := (blk_cell BK192.out 2).trans rfl
                have hcz55_3 : wc.cell? ⟨gb192, 3, none⟩ = some (.int .u64 a0_3) := (blk_cell BK192.out 3).trans rfl
                have hcz55_4 : wc.cell? ⟨gb192, 4, none⟩ = some (.int .u64 a0_4) := (blk_cell BK192.out 4).trans rfl
                have hcz55_5 : wc.cell? ⟨gb192, 5, none⟩ = some (.bool a0_5) := (blk_cell BK192.out 5).trans rfl
                have hfz55_0 := blk_frozen BK192.out 0
                have hfz55_1 := blk_frozen BK192.out 1
                have hfz55_2 := blk_frozen BK192.out 2
                have hfz55_3 := blk_frozen BK192.out 3
                have hfz55_4 := blk_frozen BK192.out 4
                have hfz55_5 := blk_frozen BK192.out 5
                have hcz56_0 : wc.cell? ⟨gb193, 0, none⟩ = some (.int .i64 a1_0) := (blk_cell BK193.out 0).trans rfl
                have hcz56_1 : wc.cell? ⟨gb193, 1, none⟩ = some (.bool a1_1) := (blk_cell BK193.out 1).trans rfl
                have hcz56_2 : wc.cell? ⟨gb193, 2, none⟩ = some (.int .i64 a1_2) := (blk_cell BK193.out 2).trans rfl
                have hcz56_3 : wc.cell? ⟨gb193, 3, none⟩ = some (.int .u64 a1_3) := (blk_cell BK193.out 3).trans rfl
                have hcz56_4 : wc.cell? ⟨gb193, 4, none⟩ = some (.int .u64 a1_4) := (blk_cell BK193.out 4).trans rfl
                have hcz56_5 : wc.cell? ⟨gb193, 5, none⟩ = some (.bool a1_5) := (blk_cell BK193.out 5).trans rfl
                have hfz56_0 := blk_frozen BK193.out 0
                have hfz56_1 := blk_frozen BK193.out 1
                have hfz56_2 := blk_frozen BK193.out 2
                have hfz56_3 := blk_frozen BK193.out 3
                have hfz56_4 := blk_frozen BK193.out 4
                have hfz56_5 := blk_frozen BK193.out 5
                go_wp2
                go_ret
                exact ⟨by first | rfl | (simp [errW_none, errW_some] <;> rfl) | (simp [*, errW_none, errW_some] <;> rfl), by repeat (first | (with_reducible first | exact HB.out | apply pA | apply pN | apply p1 | refine pS ?_ GE192.out | refine pS ?_ GE193.out) | exact HB.out)⟩

end Go.Proofs.Ytcokamomcnmocaa.F
