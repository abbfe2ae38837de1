/- Functions of the given program as plain Lean functions, and for each a proof that the program's call comes to just these answers; no further conditions. (Written by a program of this repo out of the translation.) -/
import Derived.Test.YtcnpnnodgfpheaaF0
import Derived.Test.YtcnpnnodgfpheaaF1
import Derived.Test.YtcnpnnodgfpheaaF2
namespace Go.Proofs.Ytcnpnnodgfpheaa.F
open Go.RowKit Go.Proofs.YtcnpnnodgfpheaaW.PrintWords Go.Proofs.YtcnpnnodgfpheaaW.PrintLast Go.Proofs.YtcnpnnodgfpheaaW.PrintMore
attribute [local go_sem high] xor_u64 xor_u32 eqErr27 neErr27 eqErrL27 neErrL27
attribute [local go_sem] max2_int min2_int max_two min_two max_three min_three max_four min_four   -- for this text's walks alone
set_option linter.unusedVariables false
set_option linter.unusedSimpArgs false

attribute [local go_sem high] eqA24
/-! ### twin_Mul: function 11 -/
def twin_Mul.f (a0 : Int) (a1 : Int) : Option (Int × Int) := (bits_Mul64.f a0 a1).bind fun bt107 => (some (bt107.1, bt107.2))
set_option maxHeartbeats 8000000 in
set_option maxRecDepth 100000 in
theorem twin_Mul.calls (a0 : Int) (a1 : Int) (r1 : Int) (r2 : Int) (w : World) (h : twin_Mul.f a0 a1 = some (r1, r2)) :
    Calls Try.prog 11 #[.int .u64 a0, .int .u64 a1] w fun e w' => e = .returned (.agg #[.int .u64 r1, .int .u64 r2]) ∧ Below w.heap.size w w' := by
  have hu24 := Try.underlying24
  have HB := Aside0.mk (Below.refl w.heap.size w)
  have H : ((bits_Mul64.f a0 a1).bind fun bt107 => (some (bt107.1, bt107.2))) = some (r1, r2) := h
  clear h
  replace H := Option.bind_eq_some_iff.mp H
  obtain ⟨⟨t107, t108⟩, A30, H⟩ := H
  replace H : (some (t107, t108)) = some (r1, r2) := H
  have A3 := Aside0.mk A30
  clear A30
  simp only [Option.some.injEq, Prod.mk.injEq] at H
  obtain ⟨rfl, rfl⟩ := H
  go_enter Try.func11, Try.ntmps11
  go_wp2_with (first | ((with_reducible refine gD (N := 4) rfl ?_); refine bE3 4 #[.int .u64 0, .int .u64 0] 24 ?hr ?_; (case hr => first | (go_simp; done) | (go_simp; rfl)); intro gb106 hg w4 hbox hb; have n0_ := Aside0.mk (bS3 HB.out hb); have n1_ := Aside0.mk (hbox); have n2_ := Aside0.mk ((bZ3 hg HB.out)); have n3_ := Aside0.mk ((bZ3 hg HB.out)); clear HB; have HB := n0_; have BK106 := n1_; have GW106 := n2_; have GE106 := n3_; clear n0_ n1_ n2_ n3_; clear hb hbox hg) | ((with_reducible refine gC (f := 25) rfl ?_); (with_reducible refine gD (N := 10) rfl ?_); refine goesY_ (some 10) Try.func25 #[.int .u64 a0, .int .u64 a1] ?_; (with_reducible refine (bits_Mul64.calls a0 a1 t107 t108 _ A3.out).mono ?_); rintro e w' ⟨rfl, ⟨nd, rfl⟩⟩; refine ⟨_, rfl, ?_⟩; (try (rw [drewN_self w4]; generalize hq_ : World.drewN w4 _ = w4; have n0_ : Aside0 (w4.heap[gb106]? = some (.cells #[.int .u64 0, .int .u64 0] 24 (0, 0))) := ⟨by rw [← hq_]; exact (by (with_reducible repeat (first | refine bN ?_ _ | refine bD ?_ | refine bA ?_ _)); exact BK106.out)⟩; have n1_ : Aside0 (Below w.heap.size w w4) := ⟨by rw [← hq_]; exact (by repeat (first | (with_reducible first | exact HB.out | apply pA | apply pN | apply p1 | refine pS ?_ GE106.out) | exact HB.out))⟩; clear BK106 HB hq_; have BK106 := n0_; have HB := n1_; clear n0_ n1_)); have hcz5_0 : w4.cell? ⟨gb106, 0, none⟩ = some (.int .u64 0) := (blk_cell BK106.out 0).trans rfl; have hcz5_1 : w4.cell? ⟨gb106, 1, none⟩ = some (.int .u64 0) := (blk_cell BK106.out 1).trans rfl; have hfz5_0 := blk_frozen BK106.out 0; have hfz5_1 := blk_frozen BK106.out 1))
  refine bodyPost_ret (results_cell_row rfl _ _ gb106 24 #[.int .u64 t107, .int .u64 t108] (0, 0) _ rfl (by (with_reducible repeat (first | refine bN ?_ _ | refine bD ?_ | refine bA ?_ _)); refine blk_put (cs := #[.int .u64 t107, .int .u64 0]) ?_ 1 _ rfl; (with_reducible repeat (first | refine bN ?_ _ | refine bD ?_ | refine bA ?_ _)); refine blk_put (cs := #[.int .u64 0, .int .u64 0]) ?_ 0 _ rfl; (with_reducible repeat (first | refine bN ?_ _ | refine bD ?_ | refine bA ?_ _)); exact BK106.out) Try.underlying24 rfl (by kernel_rfl)) rfl ?_
  exact ⟨by first | rfl | (simp [errW_none, errW_some] <;> rfl) | (simp [*, errW_none, errW_some] <;> rfl), by repeat (first | (with_reducible first | exact HB.out | apply pA | apply pN | apply p1 | refine pS ?_ GE106.out) | exact HB.out)⟩

/-! ### twin_Sub: function 19 -/
def twin_Sub.f (a0_0 : Int) (a0_1 : Int) (a1_0 : Int) (a1_1 : Int) : Option (Int × Int × Bool) := (bits_Sub64.f a0_1 a1_1 0).bind fun bt112 => ((bits_Sub64.f a0_0 a1_0 bt112.2).bind fun bt114 => (some (bt114.1, bt112.1, (bt114.2 == 1))))
set_option maxHeartbeats 8000000 in
set_option maxRecDepth 100000 in
theorem twin_Sub.calls (a0_0 : Int) (a0_1 : Int) (a1_0 : Int) (a1_1 : Int) (r1 : Int) (r2 : Int) (r3 : Bool) (w : World) (h : twin_Sub.f a0_0 a0_1 a1_0 a1_1 = some (r1, r2, r3)) :
    Calls Try.prog 19 #[.agg #[.int .u64 a0_0, .int .u64 a0_1], .agg #[.int .u64 a1_0, .int .u64 a1_1]] w fun e w' => e = .returned (.tuple #[.agg #[.int .u64 r1, .int .u64 r2], .bool r3]) ∧ Below w.heap.size w w' := by
  have hu24 := Try.underlying24
  have HB := Aside0.mk (Below.refl w.heap.size w)
  have H : ((bits_Sub64.f a0_1 a1_1 0).bind fun bt112 => ((bits_Sub64.f a0_0 a1_0 bt112.2).bind fun bt114 => (some (bt114.1, bt112.1, (bt114.2 == 1))))) = some (r1, r2, r3) := h
  clear h
  replace H := Option.bind_eq_some_iff.mp H
  obtain ⟨⟨t112, t113⟩, A30, H⟩ := H
  replace H : ((bits_Sub64.f a0_0 a1_0 t113).bind fun bt114 => (some (bt114.1, t112, (bt114.2 == 1)))) = some (r1, r2, r3) := H
  have A3 := Aside0.mk A30
  clear A30
  replace H := Option.bind_eq_some_iff.mp H
  obtain ⟨⟨t114, t115⟩, A40, H⟩ := H
  replace H : (some (t114, t112, (t115 == 1))) = some (r1, r2, r3) := H
  have A4 := Aside0.mk A40
  clear A40
  simp only [Option.some.injEq, Prod.mk.injEq] at H
  obtain ⟨rfl, rfl, rfl⟩ := H
  go_enter Try.func19, Try.ntmps19
  go_wp2_with (first | ((with_reducible refine gD (N := 2) rfl ?_); refine bE3 2 #[.int .u64 a0_0, .int .u64 a0_1] 24 ?hr ?_; (case hr => first | (go_simp; done) | (go_simp; rfl)); intro gb109 hg w5 hbox hb; have n0_ := Aside0.mk (bS3 HB.out hb); have n1_ := Aside0.mk (hbox); have n2_ := Aside0.mk ((bZ3 hg HB.out)); have n3_ := Aside0.mk ((bZ3 hg HB.out)); clear HB; have HB := n0_; have BK109 := n1_; have GW109 := n2_; have GE109 := n3_; clear n0_ n1_ n2_ n3_; clear hb hbox hg) | ((with_reducible refine gD (N := 3) rfl ?_); refine bE3 3 #[.int .u64 a1_0, .int .u64 a1_1] 24 ?hr ?_; (case hr => first | (go_simp; done) | (go_simp; rfl)); intro gb110 hg w6 hbox hb; have n0_ := Aside0.mk (bB3 BK109.out hb); have n1_ := Aside0.mk (bS3 HB.out hb); have n2_ := Aside0.mk (hbox); have n3_ := Aside0.mk ((bZ3 hg HB.out)); have n4_ := Aside0.mk ((bZ3 hg HB.out)); have n5_ := Aside0.mk ((bL3 hg BK109.out)); have n6_ := Aside0.mk ((bG3 hg BK109.out)); clear BK109; clear HB; have BK109 := n0_; have HB := n1_; have BK110 := n2_; have GW110 := n3_; have GE110 := n4_; have NB109_110 := n5_; have NB110_109 := n6_; clear n0_ n1_ n2_ n3_ n4_ n5_ n6_; clear hb hbox hg) | ((with_reducible refine gD (N := 4) rfl ?_); refine bE3 4 #[.int .u64 0, .int .u64 0] 24 ?hr ?_; (case hr => first | (go_simp; done) | (go_simp; rfl)); intro gb111 hg w7 hbox hb; have n0_ := Aside0.mk (bB3 BK109.out hb); have n1_ := Aside0.mk (bB3 BK110.out hb); have n2_ := Aside0.mk (bS3 HB.out hb); have n3_ := Aside0.mk (hbox); have n4_ := Aside0.mk ((bZ3 hg HB.out)); have n5_ := Aside0.mk ((bZ3 hg HB.out)); have n6_ := Aside0.mk ((bL3 hg BK109.out)); have n7_ := Aside0.mk ((bG3 hg BK109.out)); have n8_ := Aside0.mk ((bL3 hg BK110.out)); have n9_ := Aside0.mk ((bG3 hg BK110.out)); clear BK109; clear BK110; clear HB; have BK109 := n0_; have BK110 := n1_; have HB := n2_; have BK111 := n3_; have GW111 := n4_; have GE111 := n5_; have NB109_111 := n6_; have NB111_109 := n7_; have NB110_111 := n8_; have NB111_110 := n9_; clear n0_ n1_ n2_ n3_ n4_ n5_ n6_ n7_ n8_ n9_; clear hb hbox hg; have hnb8 := NB109_110.out; have hnc8 := NB110_109.out; have hnb9 := NB109_111.out; have hnc9 := NB111_109.out; have hcz10_0 : w7.cell? ⟨gb109, 0, none⟩ = some (.int .u64 a0_0) := (blk_cell BK109.out 0).trans rfl; have hcz10_1 : w7.cell? ⟨gb109, 1, none⟩ = some (.int .u64 a0_1) := (blk_cell BK109.out 1).trans rfl; have hfz10_0 := blk_frozen BK109.out 0; have hfz10_1 := blk_frozen BK109.out 1; have hnb11 := NB110_111.out; have hnc11 := NB111_110.out; have hcz12_0 : w7.cell? ⟨gb110, 0, none⟩ = some (.int .u64 a1_0) := (blk_cell BK110.out 0).trans rfl; have hcz12_1 : w7.cell? ⟨gb110, 1, none⟩ = some (.int .u64 a1_1) := (blk_cell BK110.out 1).trans rfl; have hfz12_0 := blk_frozen BK110.out 0; have hfz12_1 := blk_frozen BK110.out 1) | ((with_reducible refine gC (f := 31) rfl ?_); (with_reducible refine gD (N := 14) rfl ?_); refine goesX_ (some 14) #[.int .u64 a0_1, .int .u64 a1_1, .int .u64 0] ?_; (with_reducible refine (bits_Sub64.calls a0_1 a1_1 0 t112 t113 _ A3.out).mono ?_); rintro e w' ⟨rfl, rfl⟩; refine ⟨_, rfl, ?_⟩) | ((with_reducible refine gC (f := 31) rfl ?_); (with_reducible refine gD (N := 23) rfl ?_); refine goesX_ (some 23) #[.int .u64 a0_0, .int .u64 a1_0, .int .u64 t113] ?_; (with_reducible refine (bits_Sub64.calls a0_0 a1_0 t113 t114 t115 _ A4.out).mono ?_); rintro e w' ⟨rfl, rfl⟩; refine ⟨_, rfl, ?_⟩; have hcz13_0 : w7.cell? ⟨gb111, 0, none⟩ = some (.int .u64 0) := (blk_cell BK111.out 0).trans rfl; have hcz13_1 : w7.cell? ⟨gb111, 1, none⟩ = some (.int .u64 0) := (blk_cell BK111.out 1).trans rfl; have hfz13_0 := blk_frozen BK111.out 0; have hfz13_1 := blk_frozen BK111.out 1))
  refine bodyPost_ret (results_ct rfl _ _ gb111 24 #[.int .u64 t114, .int .u64 t112] (0, 0) _ rfl (by (with_reducible repeat (first | refine bN ?_ _ | refine bD ?_ | refine bA ?_ _)); refine blk_put (cs := #[.int .u64 t114, .int .u64 0]) ?_ 1 _ rfl; (with_reducible repeat (first | refine bN ?_ _ | refine bD ?_ | refine bA ?_ _)); refine blk_put (cs := #[.int .u64 0, .int .u64 0]) ?_ 0 _ rfl; (with_reducible repeat (first | refine bN ?_ _ | refine bD ?_ | refine bA ?_ _)); exact BK111.out) Try.underlying24 rfl (by kernel_rfl)) rfl ?_
  exact ⟨by first | rfl | (simp [errW_none, errW_some] <;> rfl) | (simp [*, errW_none, errW_some] <;> rfl), by repeat (first | (with_reducible first | exact HB.out | apply pA | apply pN | apply p1 | refine pS ?_ GE109.out | refine pS ?_ GE110.out | refine pS ?_ GE111.out) | exact HB.out)⟩

/-! ### twin_Cmp: function 20 -/
def twin_Cmp.f (a0_0 : Int) (a0_1 : Int) (a1_0 : Int) (a1_1 : Int) : Option (Int) := if (a0_0 == a1_0 && (a0_1 == a1_1)) = true then (some 0) else (if a0_0 < a1_0 then (some (-1)) else (if a0_0 = a1_0 then (if a0_1 < a1_1 then (some (-1)) else (some 1)) else (some 1)))
set_option maxHeartbeats 8000000 in
set_option maxRecDepth 100000 in
theorem twin_Cmp.calls (a0_0 : Int) (a0_1 : Int) (a1_0 : Int) (a1_1 : Int) (r : Int) (w : World) (h : twin_Cmp.f a0_0 a0_1 a1_0 a1_1 = some r) :
    Calls Try.prog 20 #[.agg #[.int .u64 a0_0, .int .u64 a0_1], .agg #[.int .u64 a1_0, .int .u64 a1_1]] w fun e w' => e = .returned (.int .i64 r) ∧ Below w.heap.size w w' := by
  have hu24 := Try.underlying24
  have HB := Aside0.mk (Below.refl w.heap.size w)
  have H : (if (a0_0 == a1_0 && (a0_1 == a1_1)) = true then (some 0) else (if a0_0 < a1_0 then (some (-1)) else (if a0_0 = a1_0 then (if a0_1 < a1_1 then (some (-1)) else (some 1)) else (some 1)))) = some r := h
  clear h
  by_cases c3 : (a0_0 == a1_0 && (a0_1 == a1_1)) = true
  · rw [if_pos c3] at H
    have c3b0 : (a0_0 == a1_0 && (a0_1 == a1_1)) = true := c3
    (try (have c3b1 : decide (a0_0 = a1_0 && (a0_1 == a1_1)) = true := by simpa using c3))
    (try (have c3b2 : (a0_0 == a1_0 && (a0_1 == a1_1)) = true := by simpa using c3))
    clear c3
    obtain rfl := Option.some.inj H
    (try (have z_ := c3b0; simp only [c15b0, Bool.true_and] at z_))
    go_enter Try.func20, Try.ntmps20
    go_wp2_with (first | ((with_reducible refine gD (N := 2) rfl ?_); refine bE3 2 #[.int .u64 a0_0, .int .u64 a0_1] 24 ?hr ?_; (case hr => first | (go_simp; done) | (go_simp; rfl)); intro gb116 hg w4 hbox hb; have n0_ := Aside0.mk (bS3 HB.out hb); have n1_ := Aside0.mk (hbox); have n2_ := Aside0.mk ((bZ3 hg HB.out)); have n3_ := Aside0.mk ((bZ3 hg HB.out)); clear HB; have HB := n0_; have BK116 := n1_; have GW116 := n2_; have GE116 := n3_; clear n0_ n1_ n2_ n3_; clear hb hbox hg) | ((with_reducible refine gD (N := 3) rfl ?_); refine bE3 3 #[.int .u64 a1_0, .int .u64 a1_1] 24 ?hr ?_; (case hr => first | (go_simp; done) | (go_simp; rfl)); intro gb117 hg w5 hbox hb; have n0_ := Aside0.mk (bB3 BK116.out hb); have n1_ := Aside0.mk (bS3 HB.out hb); have n2_ := Aside0.mk (hbox); have n3_ := Aside0.mk ((bZ3 hg HB.out)); have n4_ := Aside0.mk ((bZ3 hg HB.out)); have n5_ := Aside0.mk ((bL3 hg BK116.out)); have n6_ := Aside0.mk ((bG3 hg BK116.out)); clear BK116; clear HB; have BK116 := n0_; have HB := n1_; have BK117 := n2_; have GW117 := n3_; have GE117 := n4_; have NB116_117 := n5_; have NB117_116 := n6_; clear n0_ n1_ n2_ n3_ n4_ n5_ n6_; clear hb hbox hg; have hnb6 := NB116_117.out; have hnc6 := NB117_116.out; have hcz7_0 : w5.cell? ⟨gb116, 0, none⟩ = some (.int .u64 a0_0) := (blk_cell BK116.out 0).trans rfl; have hcz7_1 : w5.cell? ⟨gb116, 1, none⟩ = some (.int .u64 a0_1) := (blk_cell BK116.out 1).trans rfl; have hfz7_0 := blk_frozen BK116.out 0; have hfz7_1 := blk_frozen BK116.out 1; have hcz8_0 : w5.cell? ⟨gb117, 0, none⟩ = some (.int .u64 a1_0) := (blk_cell BK117.out 0).trans rfl; have hcz8_1 : w5.cell? ⟨gb117, 1, none⟩ = some (.int .u64 a1_1) := (blk_cell BK117.out 1).trans rfl; have hfz8_0 := blk_frozen BK117.out 0; have hfz8_1 := blk_frozen BK117.out 1))
    go_ret
    exact ⟨by first | rfl | (simp [errW_none, errW_some] <;> rfl) | (simp [*, errW_none, errW_some] <;> rfl), by repeat (first | (with_reducible first | exact HB.out | apply pA | apply pN | apply p1 | refine pS ?_ GE116.out | refine pS ?_ GE117.out) | exact HB.out)⟩
  · rw [if_neg c3] at H
    have c3b0 : (a0_0 == a1_0 && (a0_1 == a1_1)) = false := by simpa using c3
    (try (have c3b1 : decide (a0_0 = a1_0 && (a0_1 == a1_1)) = false := by simpa using c3))
    (try (have c3b2 : (a0_0 == a1_0 && (a0_1 == a1_1)) = false := by simpa using c3))
    (try (have c3b3 : ¬ (a0_0 = a1_0 && (a0_1 == a1_1)) := by simpa using c3))
    clear c3
    by_cases c9 : a0_0 < a1_0
    · rw [if_pos c9] at H
      have c9b0 : decide (a0_0 < a1_0) = true := decide_eq_true c9
      clear c9
      obtain rfl := Option.some.inj H
      (try (have z_ := c3b0; simp only [c15b0, Bool.true_and] at z_))
      go_enter Try.func20, Try.ntmps20
      go_wp2_with (first | ((with_reducible refine gD (N := 2) rfl ?_); refine bE3 2 #[.int .u64 a0_0, .int .u64 a0_1] 24 ?hr ?_; (case hr => first | (go_simp; done) | (go_simp; rfl)); intro gb116 hg w10 hbox hb; have n0_ := Aside0.mk (bS3 HB.out hb); have n1_ := Aside0.mk (hbox); have n2_ := Aside0.mk ((bZ3 hg HB.out)); have n3_ := Aside0.mk ((bZ3 hg HB.out)); clear HB; have HB := n0_; have BK116 := n1_; have GW116 := n2_; have GE116 := n3_; clear n0_ n1_ n2_ n3_; clear hb hbox hg) | ((with_reducible refine gD (N := 3) rfl ?_); refine bE3 3 #[.int .u64 a1_0, .int .u64 a1_1] 24 ?hr ?_; (case hr => first | (go_simp; done) | (go_simp; rfl)); intro gb117 hg w11 hbox hb; have n0_ := Aside0.mk (bB3 BK116.out hb); have n1_ := Aside0.mk (bS3 HB.out hb); have n2_ := Aside0.mk (hbox); have n3_ := Aside0.mk ((bZ3 hg HB.out)); have n4_ := Aside0.mk ((bZ3 hg HB.out)); have n5_ := Aside0.mk ((bL3 hg BK116.out)); have n6_ := Aside0.mk ((bG3 hg BK116.out)); clear BK116; clear HB; have BK116 := n0_; have HB := n1_; have BK117 := n2_; have GW117 := n3_; have GE117 := n4_; have NB116_117 := n5_; have NB117_116 := n6_; clear n0_ n1_ n2_ n3_ n4_ n5_ n6_; clear hb hbox hg; have hnb12 := NB116_117.out; have hnc12 := NB117_116.out; have hcz13_0 : w11.cell? ⟨gb116, 0, none⟩ = some (.int .u64 a0_0) := (blk_cell BK116.out 0).trans rfl; have hcz13_1 : w11.cell? ⟨gb116, 1, none⟩ = some (.int .u64 a0_1) := (blk_cell BK116.out 1).trans rfl; have hfz13_0 := blk_frozen BK116.out 0; have hfz13_1 := blk_frozen BK116.out 1; have hcz14_0 : w11.cell? ⟨gb117, 0, none⟩ = some (.int .u64 a1_0) := (blk_cell BK117.out 0).trans rfl; have hcz14_1 : w11.cell? ⟨gb117, 1, none⟩ = some (.int .u64 a1_1) := (blk_cell BK117.out 1).trans rfl; have hfz14_0 := blk_frozen BK117.out 0; have hfz14_1 := blk_frozen BK117.out 1))
      go_ret
      exact ⟨by first | rfl | (simp [errW_none, errW_some] <;> rfl) | (simp [*, errW_none, errW_some] <;> rfl), by repeat (first | (with_reducible first | exact HB.out | apply pA | apply pN | apply p1 | refine pS ?_ GE116.out | refine pS ?_ GE117.out) | exact HB.out)⟩
    · rw [if_neg c9] at H
      have c9b0 : decide (a0_0 < a1_0) = false := decide_eq_false c9
      clear c9
      by_cases c15 : a0_0 = a1_0
      · rw [if_pos c15] at H
        have c15b0 : (a0_0 == a1_0) = true := beq_iff_eq.mpr c15
        have c15b1 : (a0_0 != a1_0) = false := bne_eq_false_iff_eq.mpr c15
        clear c15
        by_cases c16 : a0_1 < a1_1
        · rw [if_pos c16] at H
          have c16b0 : decide (a0_1 < a1_1) = true := decide_eq_true c16
          clear c16
          obtain rfl := Option.some.inj H
          (try (have z_ := c3b0; simp only [c15b0, Bool.true_and] at z_))
          go_enter Try.func20, Try.ntmps20
          go_wp2_with (first | ((with_reducible refine gD (N := 2) rfl ?_); refine bE3 2 #[.int .u64 a0_0, .int .u64 a0_1] 24 ?hr ?_; (case hr => first | (go_simp; done) | (go_simp; rfl)); intro gb116 hg w17 hbox hb; have n0_ := Aside0.mk (bS3 HB.out hb); have n1_ := Aside0.mk (hbox); have n2_ := Aside0.mk ((bZ3 hg HB.out)); have n3_ := Aside0.mk ((bZ3 hg HB.out)); clear HB; have HB := n0_; have BK116 := n1_; have GW116 := n2_; have GE116 := n3_; clear n0_ n1_ n2_ n3_; clear hb hbox hg) | ((with_reducible refine gD (N := 3) rfl ?_); refine bE3 3 #[.int .u64 a1_0, .int .u64 a1_1] 24 ?hr ?_; (case hr => first | (go_simp; done) | (go_simp; rfl)); intro gb117 hg w18 hbox hb; have n0_ := Aside0.mk (bB3 BK116.out hb); have n1_ := Aside0.mk (bS3 HB.out hb); have n2_ := Aside0.mk (hbox); have n3_ := Aside0.mk ((bZ3 hg HB.out)); have n4_ := Aside0.mk ((bZ3 hg HB.out)); have n5_ := Aside0.mk ((bL3 hg BK116.out)); have n6_ := Aside0.mk ((bG3 hg BK116.out)); clear BK116; clear HB; have BK116 := n0_; have HB := n1_; have BK117 := n2_; have GW117 := n3_; have GE117 := n4_; have NB116_117 := n5_; have NB117_116 := n6_; clear n0_ n1_ n2_ n3_ n4_ n5_ n6_; clear hb hbox hg; have hnb19 := NB116_117.out; have hnc19 := NB117_116.out; have hcz20_0 : w18.cell? ⟨gb116, 0, none⟩ = some (.int .u64 a0_0) := (blk_cell BK116.out 0).trans rfl; have hcz20_1 : w18.cell? ⟨gb116, 1, none⟩ = some (.int .u64 a0_1) := (blk_cell BK116.out 1).trans rfl; have hfz20_0 := blk_frozen BK116.out 0; have hfz20_1 := blk_frozen BK116.out 1; have hcz21_0 : w18.cell? ⟨gb117, 0, none⟩ = some (.int .u64 a1_0) := (blk_cell BK117.out 0).trans rfl; have hcz21_1 : w18.cell? ⟨gb117, 1, none⟩ = some (.int .u64 a1_1) := (blk_cell BK117.out 1).trans rfl; have hfz21_0 := blk_frozen BK117.out 0; have hfz21_1 := blk_frozen BK117.out 1))
          go_ret
          exact ⟨by first | rfl | (simp [errW_none, errW_some] <;> rfl) | (simp [*, errW_none, errW_some] <;> rfl), by repeat (first | (with_reducible first | exact HB.out | apply pA | apply pN | apply p1 | refine pS ?_ GE116.out | refine pS ?_ GE117.out) | exact HB.out)⟩
        · rw [if_neg c16] at H
          have c16b0 : decide (a0_1 < a1_1) = false := decide_eq_false c16
          clear c16
          obtain rfl := Option.some.inj H
          (try (have z_ := c3b0; simp only [c15b0, Bool.true_and] at z_))
          go_enter Try.func20, Try.ntmps20
          go_wp2_with (first | ((with_reducible refine gD (N := 2) rfl ?_); refine bE3 2 #[.int .u64 a0_0, .int .u64 a0_1] 24 ?hr ?_; (case hr => first | (go_simp; done) | (go_simp; rfl)); intro gb116 hg w22 hbox hb; have n0_ := Aside0.mk (bS3 HB.out hb); have n1_ := Aside0.mk (hbox); have n2_ := Aside0.mk ((bZ3 hg HB.out)); have n3_ := Aside0.mk ((bZ3 hg HB.out)); clear HB; have HB := n0_; have BK116 := n1_; have GW116 := n2_; have GE116 := n3_; clear n0_ n1_ n2_ n3_; clear hb hbox hg) | ((with_reducible refine gD (N := 3) rfl ?_); refine bE3 3 #[.int .u64 a1_0, .int .u64 a1_1] 24 ?hr ?_; (case hr => first | (go_simp; done) | (go_simp; rfl)); intro gb117 hg w23 hbox hb; have n0_ := Aside0.mk (bB3 BK116.out hb); have n1_ := Aside0.mk (bS3 HB.out hb); have n2_ := Aside0.mk (hbox); have n3_ := Aside0.mk ((bZ3 hg HB.out)); have n4_ := Aside0.mk ((bZ3 hg HB.out)); have n5_ := Aside0.mk ((bL3 hg BK116.out)); have n6_ := Aside0.mk ((bG3 hg BK116.out)); clear BK116; clear HB; have BK116 := n0_; have HB := n1_; have BK117 := n2_; have GW117 := n3_; have GE117 := n4_; have NB116_117 := n5_; have NB117_116 := n6_; clear n0_ n1_ n2_ n3_ n4_ n5_ n6_; clear hb hbox hg; have hnb24 := NB116_117.out; have hnc24 := NB117_116.out; have hcz25_0 : w23.cell? ⟨gb116, 0, none⟩ = some (.int .u64 a0_0) := (blk_cell BK116.out 0).trans rfl; have hcz25_1 : w23.cell? ⟨gb116, 1, none⟩ = some (.int .u64 a0_1) := (blk_cell BK116.out 1).trans rfl; have hfz25_0 := blk_frozen BK116.out 0; have hfz25_1 := blk_frozen BK116.out 1; have hcz26_0 : w23.cell? ⟨gb117, 0, none⟩ = some (.int .u64 a1_0) := (blk_cell BK117.out 0).trans rfl; have hcz26_1 : w23.cell? ⟨gb117, 1, none⟩ = some (.int .u64 a1_1) := (blk_cell BK117.out 1).trans rfl; have hfz26_0 := blk_frozen BK117.out 0; have hfz26_1 := blk_frozen BK117.out 1))
          go_ret
          exact ⟨by first | rfl | (simp [errW_none, errW_some] <;> rfl) | (simp [*, errW_none, errW_some] <;> rfl), by repeat (first | (with_reducible first | exact HB.out | apply pA | apply pN | apply p1 | refine pS ?_ GE116.out | refine pS ?_ GE117.out) | exact HB.out)⟩
      · rw [if_neg c15] at H
        have c15b0 : (a0_0 == a1_0) = false := beq_eq_false_iff_ne.mpr c15
        have c15b1 : (a0_0 != a1_0) = true := bne_iff_ne.mpr c15
        obtain rfl := Option.some.inj H
        (try (have z_ := c3b0; simp only [c15b0, Bool.true_and] at z_))
        go_enter Try.func20, Try.ntmps20
        go_wp2_with (first | ((with_reducible refine gD (N := 2) rfl ?_); refine bE3 2 #[.int .u64 a0_0, .int .u64 a0_1] 24 ?hr ?_; (case hr => first | (go_simp; done) | (go_simp; rfl)); intro gb116 hg w27 hbox hb; have n0_ := Aside0.mk (bS3 HB.out hb); have n1_ := Aside0.mk (hbox); have n2_ := Aside0.mk ((bZ3 hg HB.out)); have n3_ := Aside0.mk ((bZ3 hg HB.out)); clear HB; have HB := n0_; have BK116 := n1_; have GW116 := n2_; have GE116 := n3_; clear n0_ n1_ n2_ n3_; clear hb hbox hg) | ((with_reducible refine gD (N := 3) rfl ?_); refine bE3 3 #[.int .u64 a1_0, .int .u64 a1_1] 24 ?hr ?_; (case hr => first | (go_simp; done) | (go_simp; rfl)); intro gb117 hg w28 hbox hb; have n0_ := Aside0.mk (bB3 BK116.out hb); have n1_ := Aside0.mk (bS3 HB.out hb); have n2_ := Aside0.mk (hbox); have n3_ := Aside0.mk ((bZ3 hg HB.out)); have n4_ := Aside0.mk ((bZ3 hg HB.out)); have n5_ := Aside0.mk ((bL3 hg BK116.out)); have n6_ := Aside0.mk ((bG3 hg BK116.out)); clear BK116; clear HB; have BK116 := n0_; have HB := n1_; have BK117 := n2_; have GW117 := n3_; have GE117 := n4_; have NB116_117 := n5_; have NB117_116 := n6_; clear n0_ n1_ n2_ n3_ n4_ n5_ n6_; clear hb hbox hg; have hnb29 := NB116_117.out; have hnc29 := NB117_116.out; have hcz30_0 : w28.cell? ⟨gb116, 0, none⟩ = some (.int .u64 a0_0) := (blk_cell BK116.out 0).trans rfl; have hcz30_1 : w28.cell? ⟨gb116, 1, none⟩ = some (.int .u64 a0_1) := (blk_cell BK116.out 1).trans rfl; have hfz30_0 := blk_frozen BK116.out 0; have hfz30_1 := blk_frozen BK116.out 1; have hcz31_0 : w28.cell? ⟨gb117, 0, none⟩ = some (.int .u64 a1_0) := (blk_cell BK117.out 0).trans rfl; have hcz31_1 : w28.cell? ⟨gb117, 1, none⟩ = some (.int .u64 a1_1) := (blk_cell BK117.out 1).trans rfl; have hfz31_0 := blk_frozen BK117.out 0; have hfz31_1 := blk_frozen BK117.out 1))
        go_ret
        exact ⟨by first | rfl | (simp [errW_none, errW_some] <;> rfl) | (simp [*, errW_none, errW_some] <;> rfl), by repeat (first | (with_reducible first | exact HB.out | apply pA | apply pN | apply p1 | refine pS ?_ GE116.out | refine pS ?_ GE117.out) | exact HB.out)⟩

/-! ### twin_shl: function 26 -/
def twin_shl.f (a0_0 : Int) (a0_1 : Int) (a1 : Int) : Option (Int × Int) := if a1 ≥ 64 then (if 0 ≤ (wrap64 (a1 - 64)) then (some (shl .u64 a0_1 (wrap64 (a1 - 64)), 0)) else (none)) else (if 0 ≤ a1 then (if 0 ≤ (wrap64 (64 - a1)) then (some (Go.bits .or .u64 (shl .u64 a0_0 a1) (shr .u64 a0_1 (wrap64 (64 - a1))), shl .u64 a0_1 a1)) else (none)) else (none))
def twin_shl.T3 : Bool × List (List Nat × List Nat) := (true, [([], []), ([0], [0]), ([], []), ([1, 2], [1, 2]), ([], []), ([4], [4]), ([], []), ([6], [6]), ([5, 7], [5, 7]), ([3, 8], [3, 8]), ([], []), ([10], [10]), ([], []), ([11, 12], [11, 12]), ([9, 13], [9, 13]), ([14, 0, 1, 2, 3, 4, 5, 6, 7, 8, 9, 10, 11, 12, 13, 14], [14])])
def twin_shl.B3 : List Nat := [0, 1, 0, 7, 0, 16, 0, 64, 240, 511, 0, 1024, 0, 7168, 16383, 32767]
theorem twin_shl.tab3 : rtab .any (opsOf Try.f26 3) = twin_shl.T3 := by kernel_rfl
theorem twin_shl.bits3 : waitsOk twin_shl.T3.2 twin_shl.B3 = true := by kernel_rfl
set_option maxHeartbeats 8000000 in
set_option maxRecDepth 100000 in
theorem twin_shl.calls (a0_0 : Int) (a0_1 : Int) (a1 : Int) (r1 : Int) (r2 : Int) (w : World) (h : twin_shl.f a0_0 a0_1 a1 = some (r1, r2)) :
    Calls Try.prog 26 #[.agg #[.int .u64 a0_0, .int .u64 a0_1], .int .i64 a1] w fun e w' => e = .returned (.agg #[.int .u64 r1, .int .u64 r2]) ∧ Below w.heap.size w w' := by
  have hu24 := Try.underlying24
  have HB := Aside0.mk (Below.refl w.heap.size w)
  have H : (if a1 ≥ 64 then (if 0 ≤ (wrap64 (a1 - 64)) then (some (shl .u64 a0_1 (wrap64 (a1 - 64)), 0)) else (none)) else (if 0 ≤ a1 then (if 0 ≤ (wrap64 (64 - a1)) then (some (Go.bits .or .u64 (shl .u64 a0_0 a1) (shr .u64 a0_1 (wrap64 (64 - a1))), shl .u64 a0_1 a1)) else (none)) else (none))) = some (r1, r2) := h
  clear h
  by_cases c3 : a1 ≥ 64
  · rw [if_pos c3] at H
    have c3b0 : decide (64 ≤ a1) = true := decide_eq_true c3
    clear c3
    obtain ⟨ji4, hji4⟩ : ∃ j_ : Int, (wrap64 (a1 - 64)) = j_ := ⟨_, rfl⟩
    replace H : (if 0 ≤ (ji4) then (some (shl .u64 a0_1 (ji4), 0)) else (none)) = some (r1, r2) := by first | (rw [hji4] at H; exact H) | (simp only [hji4] at H ⊢; exact H)
    have hji4w : (IntKind.i64.wrap (a1 - 64)) = ji4 := (i64_w _).trans hji4
    by_cases c5 : 0 ≤ (ji4)
    · rw [if_pos c5] at H
      have c5b0 := eq_true c5
      have c5b1 : decide (0 ≤ (ji4)) = true := decide_eq_true c5
      clear c5
      obtain ⟨ji6, hji6⟩ : ∃ j_ : Int, (shl .u64 a0_1 (ji4)) = j_ := ⟨_, rfl⟩
      replace H : (some (ji6, 0)) = some (r1, r2) := by first | (rw [hji6] at H; exact H) | (simp only [hji6] at H ⊢; exact H)
      have hji6_ : (IntKind.u64.wrap (a0_1 * 2 ^ min (ji4).toNat 64)) = ji6 := hji6
      have hji6z : (ji4) ≤ 64 → (IntKind.u64.wrap (a0_1 * 2 ^ (ji4).toNat)) = ji6 := shl_small hji6
      simp only [Option.some.injEq, Prod.mk.injEq] at H
      obtain ⟨rfl, rfl⟩ := H
      go_enter Try.func26, Try.ntmps26
      go_wp2_with (first | ((with_reducible refine gD (N := 2) rfl ?_); refine bE3 2 #[.int .u64 a0_0, .int .u64 a0_1] 24 ?hr ?_; (case hr => first | (go_simp; done) | (go_simp; rfl)); intro gb141 hg w7 hbox hb; have n0_ := Aside0.mk (bS3 HB.out hb); have n1_ := Aside0.mk (hbox); have n2_ := Aside0.mk ((bZ3 hg HB.out)); have n3_ := Aside0.mk ((bZ3 hg HB.out)); clear HB; have HB := n0_; have BK141 := n1_; have GW141 := n2_; have GE141 := n3_; clear n0_ n1_ n2_ n3_; clear hb hbox hg) | ((with_reducible refine gD (N := 4) rfl ?_); refine bE3 4 #[.int .u64 0, .int .u64 0] 24 ?hr ?_; (case hr => first | (go_simp; done) | (go_simp; rfl)); intro gb142 hg w8 hbox hb; have n0_ := Aside0.mk (bB3 BK141.out hb); have n1_ := Aside0.mk (bS3 HB.out hb); have n2_ := Aside0.mk (hbox); have n3_ := Aside0.mk ((bZ3 hg HB.out)); have n4_ := Aside0.mk ((bZ3 hg HB.out)); have n5_ := Aside0.mk ((bL3 hg BK141.out)); have n6_ := Aside0.mk ((bG3 hg BK141.out)); clear BK141; clear HB; have BK141 := n0_; have HB := n1_; have BK142 := n2_; have GW142 := n3_; have GE142 := n4_; have NB141_142 := n5_; have NB142_141 := n6_; clear n0_ n1_ n2_ n3_ n4_ n5_ n6_; clear hb hbox hg; have hnb9 := NB141_142.out; have hnc9 := NB142_141.out; have hcz10_0 : w8.cell? ⟨gb141, 0, none⟩ = some (.int .u64 a0_0) := (blk_cell BK141.out 0).trans rfl; have hcz10_1 : w8.cell? ⟨gb141, 1, none⟩ = some (.int .u64 a0_1) := (blk_cell BK141.out 1).trans rfl; have hfz10_0 := blk_frozen BK141.out 0; have hfz10_1 := blk_frozen BK141.out 1; have hcz11_0 : w8.cell? ⟨gb142, 0, none⟩ = some (.int .u64 0) := (blk_cell BK142.out 0).trans rfl; have hcz11_1 : w8.cell? ⟨gb142, 1, none⟩ = some (.int .u64 0) := (blk_cell BK142.out 1).trans rfl; have hfz11_0 := blk_frozen BK142.out 0; have hfz11_1 := blk_frozen BK142.out 1))
      refine bodyPost_ret (results_cell_row rfl _ _ gb142 24 #[.int .u64 ji6, .int .u64 0] (0, 0) _ rfl (by (with_reducible repeat (first | refine bN ?_ _ | refine bD ?_ | refine bA ?_ _)); refine blk_put (cs := #[.int .u64 ji6, .int .u64 0]) ?_ 1 _ rfl; (with_reducible repeat (first | refine bN ?_ _ | refine bD ?_ | refine bA ?_ _)); refine blk_put (cs := #[.int .u64 0, .int .u64 0]) ?_ 0 _ rfl; (with_reducible repeat (first | refine bN ?_ _ | refine bD ?_ | refine bA ?_ _)); exact BK142.out) Try.underlying24 rfl (by kernel_rfl)) rfl ?_
      exact ⟨by first | rfl | (simp [errW_none, errW_some] <;> rfl) | (simp only [← hji4, ← hji6]; first | rfl | (simp [errW_none, errW_some] <;> rfl)) | (simp [*, errW_none, errW_some] <;> rfl), by repeat (first | (with_reducible first | exact HB.out | apply pA | apply pN | apply p1 | refine pS ?_ GE141.out | refine pS ?_ GE142.out) | exact HB.out)⟩
    · rw [if_neg c5] at H
      exact absurd H (by simp)
  · rw [if_neg c3] at H
    have c3b0 : decide (64 ≤ a1) = false := decide_eq_false c3
    clear c3
    by_cases c12 : 0 ≤ a1
    · rw [if_pos c12] at H
      have c12b0 := eq_true c12
      have c12b1 : decide (0 ≤ a1) = true := decide_eq_true c12
      clear c12
      obtain ⟨ji13, hji13⟩ : ∃ j_ : Int, (shl .u64 a0_0 a1) = j_ := ⟨_, rfl⟩
      replace H : (if 0 ≤ (wrap64 (64 - a1)) then (some (Go.bits .or .u64 (ji13) (shr .u64 a0_1 (wrap64 (64 - a1))), shl .u64 a0_1 a1)) else (none)) = some (r1, r2) := by first | (rw [hji13] at H; exact H) | (simp only [hji13] at H ⊢; exact H)
      have hji13_ : (IntKind.u64.wrap (a0_0 * 2 ^ min a1.toNat 64)) = ji13 := hji13
      have hji13z : a1 ≤ 64 → (IntKind.u64.wrap (a0_0 * 2 ^ a1.toNat)) = ji13 := shl_small hji13
      obtain ⟨ji14, hji14⟩ : ∃ j_ : Int, (wrap64 (64 - a1)) = j_ := ⟨_, rfl⟩
      replace H : (if 0 ≤ (ji14) then (some (Go.bits .or .u64 (ji13) (shr .u64 a0_1 (ji14)), shl .u64 a0_1 a1)) else (none)) = some (r1, r2) := by first | (rw [hji14] at H; exact H) | (simp only [hji14] at H ⊢; exact H)
      have hji14w : (IntKind.i64.wrap (64 - a1)) = ji14 := (i64_w _).trans hji14
      by_cases c15 : 0 ≤ (ji14)
      · rw [if_pos c15] at H
        have c15b0 := eq_true c15
        have c15b1 : decide (0 ≤ (ji14)) = true := decide_eq_true c15
        clear c15
        obtain ⟨ji16, hji16⟩ : ∃ j_ : Int, (shr .u64 a0_1 (ji14)) = j_ := ⟨_, rfl⟩
        replace H : (some (Go.bits .or .u64 (ji13) (ji16), shl .u64 a0_1 a1)) = some (r1, r2) := by first | (rw [hji16] at H; exact H) | (simp only [hji16] at H ⊢; exact H)
        have hji16_ : (a0_1 / 2 ^ min (ji14).toNat 64) = ji16 := hji16
        have hji16z : (ji14) ≤ 64 → (a0_1 / 2 ^ (ji14).toNat) = ji16 := shr_small hji16
        have c17b0 := eq_true (of_decide_eq_true (by first | (with_reducible assumption) | assumption) : 0 ≤ a1)
        obtain ⟨ji18, hji18⟩ : ∃ j_ : Int, (shl .u64 a0_1 a1) = j_ := ⟨_, rfl⟩
        replace H : (some (Go.bits .or .u64 (ji13) (ji16), ji18)) = some (r1, r2) := by first | (rw [hji18] at H; exact H) | (simp only [hji18] at H ⊢; exact H)
        have hji18_ : (IntKind.u64.wrap (a0_1 * 2 ^ min a1.toNat 64)) = ji18 := hji18
        have hji18z : a1 ≤ 64 → (IntKind.u64.wrap (a0_1 * 2 ^ a1.toNat)) = ji18 := shl_small hji18
        simp only [Option.some.injEq, Prod.mk.injEq] at H
        obtain ⟨rfl, rfl⟩ := H
        go_enter Try.func26, Try.ntmps26
        try go_wp2_with (first | ((with_reducible refine gD (N := 2) rfl ?_); refine bE3 2 #[.int .u64 a0_0, .int .u64 a0_1] 24 ?hr ?_; (case hr => first | (go_simp; done) | (go_simp; rfl)); intro gb141 hg w19 hbox hb; have n0_ := Aside0.mk (bS3 HB.out hb); have n1_ := Aside0.mk (hbox); have n2_ := Aside0.mk ((bZ3 hg HB.out)); have n3_ := Aside0.mk ((bZ3 hg HB.out)); clear HB; have HB := n0_; have BK141 := n1_; have GW141 := n2_; have GE141 := n3_; clear n0_ n1_ n2_ n3_; clear hb hbox hg) | ((with_reducible refine gD (N := 4) rfl ?_); refine bE3 4 #[.int .u64 0, .int .u64 0] 24 ?hr ?_; (case hr => first | (go_simp; done) | (go_simp; rfl)); intro gb142 hg w20 hbox hb; have n0_ := Aside0.mk (bB3 BK141.out hb); have n1_ := Aside0.mk (bS3 HB.out hb); have n2_ := Aside0.mk (hbox); have n3_ := Aside0.mk ((bZ3 hg HB.out)); have n4_ := Aside0.mk ((bZ3 hg HB.out)); have n5_ := Aside0.mk ((bL3 hg BK141.out)); have n6_ := Aside0.mk ((bG3 hg BK141.out)); clear BK141; clear HB; have BK141 := n0_; have HB := n1_; have BK142 := n2_; have GW142 := n3_; have GE142 := n4_; have NB141_142 := n5_; have NB142_141 := n6_; clear n0_ n1_ n2_ n3_ n4_ n5_ n6_; clear hb hbox hg))
        have n0_ := Aside0.mk (bD BK141.out)
        have n1_ := Aside0.mk (bD BK142.out)
        have n2_ := Aside0.mk (p1 HB.out)
        clear BK141
        clear BK142
        clear HB
        have BK141 := n0_
        have BK142 := n1_
        have HB := n2_
        clear n0_ n1_ n2_
        refine start_ (n := 16) (S := fun w' => w'.cell? ⟨gb141, 0, none⟩ = some (.int .u64 a0_0) ∧ w'.cell? ⟨gb141, 1, none⟩ = some (.int .u64 a0_1)) (ds := []) #[false, false, false, false, false, false, false, false, false, false, false, false, false, false, false, false] (by kernel_rfl) rfl rfl ⟨(blk_cell BK141.out 0).trans rfl, (blk_cell BK141.out 1).trans rfl⟩ (fun hHeld => ?_); refine with_tabW twin_shl.tab3 twin_shl.bits3 (fun HT_ HW_ => ?_)
        generalize w20.drew = w21 at BK141 BK142 HB hHeld ⊢
        refine pure_ (i := 0) (N := some 13) (v := ?_) (a' := ?_) #[true, false, false, false, false, false, false, false, false, false, false, false, false, false, false, false] rfl rfl (any_of HT_.out (by kernel_rfl)) (fun _ _ _ h => h) (Or.inl ⟨by rfl, ?_⟩) ?_ ?_
        rotate_left
        · intro w'
          go_simp
          with_reducible rfl
        rotate_left
        · simp only [Act.put, List.setIfInBounds_toArray, List.set_cons_zero, List.set_cons_succ, i64_w, i32_w]
          rfl
        refine pure_ (i := 2) (N := some 15) (v := ?_) (a' := ?_) #[true, false, true, false, false, false, false, false, false, false, false, false, false, false, false, false] rfl rfl (any_of HT_.out (by kernel_rfl)) (fun _ _ _ h => h) (Or.inl ⟨by rfl, ?_⟩) ?_ ?_
        rotate_left
        · intro w'
          go_simp
          with_reducible rfl
        rotate_left
        · simp only [Act.put, List.setIfInBounds_toArray, List.set_cons_zero, List.set_cons_succ, i64_w, i32_w]
          rfl
        refine pure_ (i := 4) (N := some 17) (v := ?_) (a' := ?_) #[true, false, true, false, true, false, false, false, false, false, false, false, false, false, false, false] rfl rfl (any_of HT_.out (by kernel_rfl)) (fun _ _ _ h => h) (Or.inl ⟨by rfl, ?_⟩) ?_ ?_
        rotate_left
        · intro w'
          go_simp
          with_reducible rfl
        rotate_left
        · simp only [Act.put, List.setIfInBounds_toArray, List.set_cons_zero, List.set_cons_succ, i64_w, i32_w]
          rfl
        refine pure_ (i := 6) (N := some 19) (v := ?_) (a' := ?_) #[true, false, true, false, true, false, true, false, false, false, false, false, false, false, false, false] rfl rfl (any_of HT_.out (by kernel_rfl)) (fun _ _ _ h => h) (Or.inl ⟨by rfl, ?_⟩) ?_ ?_
        rotate_left
        · intro w'
          go_simp
          with_reducible rfl
        rotate_left
        · simp only [Act.put, List.setIfInBounds_toArray, List.set_cons_zero, List.set_cons_succ, i64_w, i32_w]
          rfl
        refine pure_ (i := 7) (N := some 20) (v := ?_) (a' := ?_) #[true, false, true, false, true, false, true, true, false, false, false, false, false, false, false, false] rfl rfl (any_of HT_.out (by kernel_rfl)) (fun _ _ _ h => h) (Or.inl ⟨by rfl, ?_⟩) ?_ ?_
        rotate_left
        · intro w'
          go_simp
          with_reducible rfl
        rotate_left
        · simp only [Act.put, List.setIfInBounds_toArray, List.set_cons_zero, List.set_cons_succ, i64_w, i32_w]
          rfl
        refine pure_ (i := 10) (N := some 23) (v := ?_) (a' := ?_) #[true, false, true, false, true, false, true, true, false, false, true, false, false, false, false, false] rfl rfl (any_of HT_.out (by kernel_rfl)) (fun _ _ _ h => h) (Or.inl ⟨by rfl, ?_⟩) ?_ ?_
        rotate_left
        · intro w'
          go_simp
          with_reducible rfl
        rotate_left
        · simp only [Act.put, List.setIfInBounds_toArray, List.set_cons_zero, List.set_cons_succ, i64_w, i32_w]
          rfl
        refine pure_ (i := 12) (N := some 25) (v := ?_) (a' := ?_) #[true, false, true, false, true, false, true, true, false, false, true, false, true, false, false, false] rfl rfl (any_of HT_.out (by kernel_rfl)) (fun _ _ _ h => h) (Or.inl ⟨by rfl, ?_⟩) ?_ ?_
        rotate_left
        · intro w'
          go_simp
          with_reducible rfl
        rotate_left
        · simp only [Act.put, List.setIfInBounds_toArray, List.set_cons_zero, List.set_cons_succ, i64_w, i32_w]
          rfl
        refine take_ (i := 1) (N := some 14) (v := ?_) (a' := ?_) #[true, true, true, false, true, false, true, true, false, false, true, false, true, false, false, false] rfl rfl (take_ofW HT_.out HW_.out (by kernel_rfl)) (fun _ _ _ h => h) (Or.inl ⟨by rfl, ?_⟩) hHeld ?_ ?_
        rotate_left
        · rintro w' ⟨s0, s1⟩
          go_simp
          with_reducible rfl
        rotate_left
        · simp only [Act.put, List.setIfInBounds_toArray, List.set_cons_zero, List.set_cons_succ, i64_w, i32_w]
          rfl
        refine pure_ (i := 3) (N := some 16) (v := ?_) (a' := ?_) #[true, true, true, true, true, false, true, true, false, false, true, false, true, false, false, false] rfl rfl (any_of HT_.out (by kernel_rfl)) (fun _ _ _ h => h) (Or.inl ⟨by rfl, ?_⟩) ?_ ?_
        rotate_left
        · intro w'
          go_simp
          with_reducible rfl
        rotate_left
        · simp only [Act.put, List.setIfInBounds_toArray, List.set_cons_zero, List.set_cons_succ, i64_w, i32_w]
          rfl
        refine take_ (i := 5) (N := some 18) (v := ?_) (a' := ?_) #[true, true, true, true, true, true, true, true, false, false, true, false, true, false, false, false] rfl rfl (take_ofW HT_.out HW_.out (by kernel_rfl)) (fun _ _ _ h => h) (Or.inl ⟨by rfl, ?_⟩) hHeld ?_ ?_
        rotate_left
        · rintro w' ⟨s0, s1⟩
          go_simp
          with_reducible rfl
        rotate_left
        · simp only [Act.put, List.setIfInBounds_toArray, List.set_cons_zero, List.set_cons_succ, i64_w, i32_w]
          rfl
        refine pure_ (i := 8) (N := some 21) (v := ?_) (a' := ?_) #[true, true, true, true, true, true, true, true, true, false, true, false, true, false, false, false] rfl rfl (any_of HT_.out (by kernel_rfl)) (fun _ _ _ h => h) (Or.inl ⟨by rfl, ?_⟩) ?_ ?_
        rotate_left
        · intro w'
          go_simp
          with_reducible rfl
        rotate_left
        · simp only [Act.put, List.setIfInBounds_toArray, List.set_cons_zero, List.set_cons_succ, i64_w, i32_w]
          rfl
        refine pure_ (i := 9) (N := some 22) (v := ?_) (a' := ?_) #[true, true, true, true, true, true, true, true, true, true, true, false, true, false, false, false] rfl rfl (any_of HT_.out (by kernel_rfl)) (fun _ _ _ h => h) (Or.inl ⟨by rfl, ?_⟩) ?_ ?_
        rotate_left
        · intro w'
          go_simp
          with_reducible rfl
        rotate_left
        · simp only [Act.put, List.setIfInBounds_toArray, List.set_cons_zero, List.set_cons_succ, i64_w, i32_w]
          rfl
        refine take_ (i := 11) (N := some 24) (v := ?_) (a' := ?_) #[true, true, true, true, true, true, true, true, true, true, true, true, true, false, false, false] rfl rfl (take_ofW HT_.out HW_.out (by kernel_rfl)) (fun _ _ _ h => h) (Or.inl ⟨by rfl, ?_⟩) hHeld ?_ ?_
        rotate_left
        · rintro w' ⟨s0, s1⟩
          go_simp
          with_reducible rfl
        rotate_left
        · simp only [Act.put, List.setIfInBounds_toArray, List.set_cons_zero, List.set_cons_succ, i64_w, i32_w]
          rfl
        refine pure_ (i := 13) (N := some 26) (v := ?_) (a' := ?_) #[true, true, true, true, true, true, true, true, true, true, true, true, true, true, false, false] rfl rfl (any_of HT_.out (by kernel_rfl)) (fun _ _ _ h => h) (Or.inl ⟨by rfl, ?_⟩) ?_ ?_
        rotate_left
        · intro w'
          go_simp
          with_reducible rfl
        rotate_left
        · simp only [Act.put, List.setIfInBounds_toArray, List.set_cons_zero, List.set_cons_succ, i64_w, i32_w]
          rfl
        refine pure_ (i := 14) (N := some 27) (v := ?_) (a' := ?_) #[true, true, true, true, true, true, true, true, true, true, true, true, true, true, true, false] rfl rfl (any_of HT_.out (by kernel_rfl)) (fun _ _ _ h => h) (Or.inl ⟨by rfl, ?_⟩) ?_ ?_
        rotate_left
        · intro w'
          go_simp
          with_reducible rfl
        rotate_left
        · simp only [Act.put, List.setIfInBounds_toArray, List.set_cons_zero, List.set_cons_succ, i64_w, i32_w]
          rfl
        refine one_ (i := 15) (N := none) #[true, true, true, true, true, true, true, true, true, true, true, true, true, true, true, true] rfl rfl (one_of HT_.out (by kernel_rfl)) (by decide) (fun K hK => ?_)
        have hs22 : w21.cell? ⟨gb142, 0, none⟩ = some (.int .u64 0) := (blk_cell BK142.out 0).trans rfl
        have hfs22 := blk_frozen BK142.out 0
        have hns22_0 := NB141_142.out
        have hms22_0 := NB142_141.out
        have hs23 : w21.cell? ⟨gb142, 1, none⟩ = some (.int .u64 0) := (blk_cell BK142.out 1).trans rfl
        have hfs23 := blk_frozen BK142.out 1
        have hns23_0 := NB141_142.out
        have hms23_0 := NB142_141.out
        refine skip_ (w1 := ?_) (by rfl) rfl ?_ ?_
        rotate_left
        · go_simp
          rfl
        refine hK.out _ _ ⟨((cell_far (p := ⟨gb142, _, none⟩) NB141_142.out _).trans (((cell_far (p := ⟨gb142, _, none⟩) NB141_142.out _).trans (hHeld.1)))), ((cell_far (p := ⟨gb142, _, none⟩) NB141_142.out _).trans (((cell_far (p := ⟨gb142, _, none⟩) NB141_142.out _).trans (hHeld.2))))⟩ (fun hHeld => ?_)
        clear hK K
        refine done_ (done_of HT_.out (by kernel_rfl)) ?_
        try go_wp2
        refine bodyPost_ret (results_cell_row rfl _ _ gb142 24 #[.int .u64 (Go.bits .or .u64 (ji13) (ji16)), .int .u64 ji18] (0, 0) _ rfl (by (with_reducible repeat (first | refine bN ?_ _ | refine bD ?_ | refine bA ?_ _)); refine blk_put (cs := #[.int .u64 (Go.bits .or .u64 (ji13) (ji16)), .int .u64 0]) ?_ 1 _ rfl; (with_reducible repeat (first | refine bN ?_ _ | refine bD ?_ | refine bA ?_ _)); refine blk_put (cs := #[.int .u64 0, .int .u64 0]) ?_ 0 _ rfl; (with_reducible repeat (first | refine bN ?_ _ | refine bD ?_ | refine bA ?_ _)); exact BK142.out) Try.underlying24 rfl (by kernel_rfl)) rfl ?_
        exact ⟨by first | rfl | (simp [errW_none, errW_some] <;> rfl) | (simp only [← hji13, ← hji14, ← hji16, ← hji18]; first | rfl | (simp [errW_none, errW_some] <;> rfl)) | (simp [*, errW_none, errW_some] <;> rfl), by repeat (first | (with_reducible first | exact HB.out | apply pA | apply pN | apply p1 | refine pS ?_ GE141.out | refine pS ?_ GE142.out) | exact HB.out)⟩
      · rw [if_neg c15] at H
        exact absurd H (by simp)
    · rw [if_neg c12] at H
      exact absurd H (by simp)

/-! ### twin_Len: function 27 -/
def twin_Len.f (k : Nat) (a0_0 : Int) (a0_1 : Int) : Option (Int) := if a0_0 > 0 then ((bits_Len64.f k a0_0).bind fun t144 => (some (wrap64 (64 + t144)))) else ((bits_Len64.f k a0_1).bind fun t145 => (some t145))
theorem twin_Len.mono : ∀ a0 a1 k, LeO (twin_Len.f k a0 a1) (twin_Len.f (k + 1) a0 a1) := by
  intro a0 a1 k
  unfold twin_Len.f
  repeat' first
      | (with_reducible exact bits_Len64.mono _ _)
      | (with_reducible exact LeO.refl _)
      | (with_reducible exact LeO.none _)
      | (with_reducible refine LeO.ite ?_ ?_)
      | (with_reducible refine LeO.bind ?_ (fun _ => ?_))
      | exact bits_Len64.mono _ _
      | exact LeO.none _
      | refine LeO.ite ?_ ?_
      | refine LeO.bind ?_ (fun _ => ?_)
set_option maxHeartbeats 8000000 in
set_option maxRecDepth 100000 in
theorem twin_Len.calls (k : Nat) (a0_0 : Int) (a0_1 : Int) (r : Int) (w : World) (h : twin_Len.f k a0_0 a0_1 = some r) :
    Calls Try.prog 27 #[.agg #[.int .u64 a0_0, .int .u64 a0_1]] w fun e w' => e = .returned (.int .i64 r) ∧ Below w.heap.size w w' := by
  have hu24 := Try.underlying24
  have HB := Aside0.mk (Below.refl w.heap.size w)
  have H : (if a0_0 > 0 then ((bits_Len64.f k a0_0).bind fun t144 => (some (wrap64 (64 + t144)))) else ((bits_Len64.f k a0_1).bind fun t145 => (some t145))) = some r := h
  clear h
  by_cases c2 : a0_0 > 0
  · rw [if_pos c2] at H
    have c2b0 : decide (0 < a0_0) = true := decide_eq_true c2
    clear c2
    replace H := Option.bind_eq_some_iff.mp H
    obtain ⟨t144, A30, H⟩ := H
    replace H : (some (wrap64 (64 + t144))) = some r := H
    have A3 := Aside0.mk A30
    clear A30
    obtain rfl := Option.some.inj H
    go_enter Try.func27, Try.ntmps27
    go_wp2_with (first | ((with_reducible refine gD (N := 1) rfl ?_); refine bE3 1 #[.int .u64 a0_0, .int .u64 a0_1] 24 ?hr ?_; (case hr => first | (go_simp; done) | (go_simp; rfl)); intro gb143 hg w4 hbox hb; have n0_ := Aside0.mk (bS3 HB.out hb); have n1_ := Aside0.mk (hbox); have n2_ := Aside0.mk ((bZ3 hg HB.out)); have n3_ := Aside0.mk ((bZ3 hg HB.out)); clear HB; have HB := n0_; have BK143 := n1_; have GW143 := n2_; have GE143 := n3_; clear n0_ n1_ n2_ n3_; clear hb hbox hg; have hcz5_0 : w4.cell? ⟨gb143, 0, none⟩ = some (.int .u64 a0_0) := (blk_cell BK143.out 0).trans rfl; have hcz5_1 : w4.cell? ⟨gb143, 1, none⟩ = some (.int .u64 a0_1) := (blk_cell BK143.out 1).trans rfl; have hfz5_0 := blk_frozen BK143.out 0; have hfz5_1 := blk_frozen BK143.out 1) | ((with_reducible refine gC (f := 29) rfl ?_); (with_reducible refine gD (N := 8) rfl ?_); refine goesY_ (some 8) Try.func29 #[.int .u64 a0_0] ?_; (with_reducible refine (bits_Len64.calls k a0_0 t144 _ A3.out).mono ?_); rintro e w' ⟨rfl, ⟨nd, rfl⟩⟩; refine ⟨_, rfl, ?_⟩))
    go_ret
    exact ⟨by first | rfl | (simp [errW_none, errW_some] <;> rfl) | (simp [*, errW_none, errW_some] <;> rfl), by repeat (first | (with_reducible first | exact HB.out | apply pA | apply pN | apply p1 | refine pS ?_ GE143.out) | exact HB.out)⟩
  · rw [if_neg c2] at H
    have c2b0 : decide (0 < a0_0) = false := decide_eq_false c2
    clear c2
    replace H := Option.bind_eq_some_iff.mp H
    obtain ⟨t145, A60, H⟩ := H
    replace H : (some t145) = some r := H
    have A6 := Aside0.mk A60
    clear A60
    obtain rfl := Option.some.inj H
    go_enter Try.func27, Try.ntmps27
    go_wp2_with (first | ((with_reducible refine gD (N := 1) rfl ?_); refine bE3 1 #[.int .u64 a0_0, .int .u64 a0_1] 24 ?hr ?_; (case hr => first | (go_simp; done) | (go_simp; rfl)); intro gb143 hg w7 hbox hb; have n0_ := Aside0.mk (bS3 HB.out hb); have n1_ := Aside0.mk (hbox); have n2_ := Aside0.mk ((bZ3 hg HB.out)); have n3_ := Aside0.mk ((bZ3 hg HB.out)); clear HB; have HB := n0_; have BK143 := n1_; have GW143 := n2_; have GE143 := n3_; clear n0_ n1_ n2_ n3_; clear hb hbox hg; have hcz8_0 : w7.cell? ⟨gb143, 0, none⟩ = some (.int .u64 a0_0) := (blk_cell BK143.out 0).trans rfl; have hcz8_1 : w7.cell? ⟨gb143, 1, none⟩ = some (.int .u64 a0_1) := (blk_cell BK143.out 1).trans rfl; have hfz8_0 := blk_frozen BK143.out 0; have hfz8_1 := blk_frozen BK143.out 1) | ((with_reducible refine gC (f := 29) rfl ?_); (with_reducible refine gD (N := 12) rfl ?_); refine goesY_ (some 12) Try.func29 #[.int .u64 a0_1] ?_; (with_reducible refine (bits_Len64.calls k a0_1 t145 _ A6.out).mono ?_); rintro e w' ⟨rfl, ⟨nd, rfl⟩⟩; refine ⟨_, rfl, ?_⟩))
    go_ret
    exact ⟨by first | rfl | (simp [errW_none, errW_some] <;> rfl) | (simp [*, errW_none, errW_some] <;> rfl), by repeat (first | (with_reducible first | exact HB.out | apply pA | apply pN | apply p1 | refine pS ?_ GE143.out) | exact HB.out)⟩

/-! ### twin_Shl: function 12 -/
def twin_Shl.f (k : Nat) (a0_0 : Int) (a0_1 : Int) (a1 : Int) : Option (Int × Int × Bool × Option Int) := if a1 < 0 then (some (0, 0, false, some 1)) else ((twin_shl.f a0_0 a0_1 (mn a1 128)).bind fun bt148 => ((twin_Len.f k a0_0 a0_1).bind fun t150 => (some (bt148.1, bt148.2, decide (t150 > (wrap64 (128 - (mn a1 128)))), none))))
theorem twin_Shl.mono : ∀ a0 a1 a2 k, LeO (twin_Shl.f k a0 a1 a2) (twin_Shl.f (k + 1) a0 a1 a2) := by
  intro a0 a1 a2 k
  unfold twin_Shl.f
  repeat' first
      | (with_reducible exact twin_Len.mono _ _ _)
      | (with_reducible exact LeO.refl _)
      | (with_reducible exact LeO.none _)
      | (with_reducible refine LeO.ite ?_ ?_)
      | (with_reducible refine LeO.bind ?_ (fun _ => ?_))
      | exact twin_Len.mono _ _ _
      | exact LeO.none _
      | refine LeO.ite ?_ ?_
      | refine LeO.bind ?_ (fun _ => ?_)
def twin_Shl.T4 : Bool × List (List Nat × List Nat) := (true, [([], []), ([], []), ([0, 1], [0, 1]), ([], []), ([3, 2], [3]), ([], []), ([5], [5]), ([4, 6], [4, 6]), ([2, 4, 0, 1, 2], [2]), ([7, 8, 0, 1, 2, 3, 4, 5, 6, 7, 8], [7]), ([9, 0, 1, 2, 3, 4, 5, 6, 7, 8, 9], [])])
def twin_Shl.B4 : List Nat := [0, 0, 3, 0, 15, 0, 32, 127, 31, 511, 1023]
theorem twin_Shl.tab4 : rtab .any (opsOf Try.f12 4) = twin_Shl.T4 := by kernel_rfl
theorem twin_Shl.bits4 : waitsOk twin_Shl.T4.2 twin_Shl.B4 = true := by kernel_rfl
set_option maxHeartbeats 8000000 in
set_option maxRecDepth 100000 in
theorem twin_Shl.calls (k : Nat) (a0_0 : Int) (a0_1 : Int) (a1 : Int) (r1 : Int) (r2 : Int) (r3 : Bool) (r4 : Option Int) (w : World) (h : twin_Shl.f k a0_0 a0_1 a1 = some (r1, r2, r3, r4)) :
    Calls Try.prog 12 #[.agg #[.int .u64 a0_0, .int .u64 a0_1], .int .i64 a1] w fun e w' => e = .returned (.tuple #[.agg #[.int .u64 r1, .int .u64 r2], .bool r3, errW r4]) ∧ Below w.heap.size w w' := by
  have hu24 := Try.underlying24
  have hu27 := Try.underlying27
  have hu38 := Try.underlying38
  have HB := Aside0.mk (Below.refl w.heap.size w)
  have H : (if a1 < 0 then (some (0, 0, false, some 1)) else ((twin_shl.f a0_0 a0_1 (mn a1 128)).bind fun bt148 => ((twin_Len.f k a0_0 a0_1).bind fun t150 => (some (bt148.1, bt148.2, decide (t150 > (wrap64 (128 - (mn a1 128)))), none))))) = some (r1, r2, r3, r4) := h
  clear h
  by_cases c3 : a1 < 0
  · rw [if_pos c3] at H
    have c3b0 : decide (a1 < 0) = true := decide_eq_true c3
    clear c3
    simp only [Option.some.injEq, Prod.mk.injEq] at H
    obtain ⟨rfl, rfl, rfl, rfl⟩ := H
    go_enter Try.func12, Try.ntmps12
    go_wp2_with (first | ((with_reducible refine gD (N := 2) rfl ?_); refine bE3 2 #[.int .u64 a0_0, .int .u64 a0_1] 24 ?hr ?_; (case hr => first | (go_simp; done) | (go_simp; rfl)); intro gb146 hg w4 hbox hb; have n0_ := Aside0.mk (bS3 HB.out hb); have n1_ := Aside0.mk (hbox); have n2_ := Aside0.mk ((bZ3 hg HB.out)); have n3_ := Aside0.mk ((bZ3 hg HB.out)); clear HB; have HB := n0_; have BK146 := n1_; have GW146 := n2_; have GE146 := n3_; clear n0_ n1_ n2_ n3_; clear hb hbox hg) | ((with_reducible refine gD (N := 4) rfl ?_); refine bE3 4 #[.int .u64 0, .int .u64 0] 24 ?hr ?_; (case hr => first | (go_simp; done) | (go_simp; rfl)); intro gb147 hg w5 hbox hb; have n0_ := Aside0.mk (bB3 BK146.out hb); have n1_ := Aside0.mk (bS3 HB.out hb); have n2_ := Aside0.mk (hbox); have n3_ := Aside0.mk ((bZ3 hg HB.out)); have n4_ := Aside0.mk ((bZ3 hg HB.out)); have n5_ := Aside0.mk ((bL3 hg BK146.out)); have n6_ := Aside0.mk ((bG3 hg BK146.out)); clear BK146; clear HB; have BK146 := n0_; have HB := n1_; have BK147 := n2_; have GW147 := n3_; have GE147 := n4_; have NB146_147 := n5_; have NB147_146 := n6_; clear n0_ n1_ n2_ n3_ n4_ n5_ n6_; clear hb hbox hg; have hnb6 := NB147_146.out; have hnc6 := NB146_147.out; have hcz7_0 : w5.cell? ⟨gb147, 0, none⟩ = some (.int .u64 0) := (blk_cell BK147.out 0).trans rfl; have hcz7_1 : w5.cell? ⟨gb147, 1, none⟩ = some (.int .u64 0) := (blk_cell BK147.out 1).trans rfl; have hfz7_0 := blk_frozen BK147.out 0; have hfz7_1 := blk_frozen BK147.out 1))
    refine bodyPost_ret (results_ctt rfl _ _ gb147 24 #[.int .u64 0, .int .u64 0] (0, 0) _ rfl (by (with_reducible repeat (first | refine bN ?_ _ | refine bD ?_ | refine bA ?_ _)); refine blk_put (cs := #[.int .u64 0, .int .u64 0]) ?_ 1 _ rfl; (with_reducible repeat (first | refine bN ?_ _ | refine bD ?_ | refine bA ?_ _)); refine blk_put (cs := #[.int .u64 0, .int .u64 0]) ?_ 0 _ rfl; (with_reducible repeat (first | refine bN ?_ _ | refine bD ?_ | refine bA ?_ _)); exact BK147.out) Try.underlying24 rfl (by kernel_rfl)) rfl ?_
    exact ⟨by first | rfl | (simp [errW_none, errW_some] <;> rfl) | (simp [*, errW_none, errW_some] <;> rfl), by repeat (first | (with_reducible first | exact HB.out | apply pA | apply pN | apply p1 | refine pS ?_ GE146.out | refine pS ?_ GE147.out) | exact HB.out)⟩
  · rw [if_neg c3] at H
    have c3b0 : decide (a1 < 0) = false := decide_eq_false c3
    clear c3
    obtain ⟨ji8, hji8⟩ : ∃ j_ : Int, (mn a1 128) = j_ := ⟨_, rfl⟩
    replace H : ((twin_shl.f a0_0 a0_1 (ji8)).bind fun bt148 => ((twin_Len.f k a0_0 a0_1).bind fun t150 => (some (bt148.1, bt148.2, decide (t150 > (wrap64 (128 - (ji8)))), none)))) = some (r1, r2, r3, r4) := by first | (rw [hji8] at H; exact H) | (simp only [hji8] at H ⊢; exact H)
    (try (have hji8h : ji8 ≤ 128 := by (rw [← hji8]; unfold mn; (repeat' split) <;> omega)))
    (try (have hji8g : ji8 ≤ 64 := by omega))
    have hji8_ : (if 128 < a1 then 128 else a1) = ji8 := hji8
    replace H := Option.bind_eq_some_iff.mp H
    obtain ⟨⟨t148, t149⟩, A90, H⟩ := H
    replace H : ((twin_Len.f k a0_0 a0_1).bind fun t150 => (some (t148, t149, decide (t150 > (wrap64 (128 - (ji8)))), none))) = some (r1, r2, r3, r4) := H
    have A9 := Aside0.mk A90
    clear A90
    replace H := Option.bind_eq_some_iff.mp H
    obtain ⟨t150, A100, H⟩ := H
    replace H : (some (t148, t149, decide (t150 > (wrap64 (128 - (ji8)))), none)) = some (r1, r2, r3, r4) := H
    have A10 := Aside0.mk A100
    clear A100
    simp only [Option.some.injEq, Prod.mk.injEq] at H
    obtain ⟨rfl, rfl, rfl, rfl⟩ := H
    go_enter Try.func12, Try.ntmps12
    try go_wp2_with (first | ((with_reducible refine gD (N := 2) rfl ?_); refine bE3 2 #[.int .u64 a0_0, .int .u64 a0_1] 24 ?hr ?_; (case hr => first | (go_simp; done) | (go_simp; rfl)); intro gb146 hg w11 hbox hb; have n0_ := Aside0.mk (bS3 HB.out hb); have n1_ := Aside0.mk (hbox); have n2_ := Aside0.mk ((bZ3 hg HB.out)); have n3_ := Aside0.mk ((bZ3 hg HB.out)); clear HB; have HB := n0_; have BK146 := n1_; have GW146 := n2_; have GE146 := n3_; clear n0_ n1_ n2_ n3_; clear hb hbox hg) | ((with_reducible refine gD (N := 4) rfl ?_); refine bE3 4 #[.int .u64 0, .int .u64 0] 24 ?hr ?_; (case hr => first | (go_simp; done) | (go_simp; rfl)); intro gb147 hg w12 hbox hb; have n0_ := Aside0.mk (bB3 BK146.out hb); have n1_ := Aside0.mk (bS3 HB.out hb); have n2_ := Aside0.mk (hbox); have n3_ := Aside0.mk ((bZ3 hg HB.out)); have n4_ := Aside0.mk ((bZ3 hg HB.out)); have n5_ := Aside0.mk ((bL3 hg BK146.out)); have n6_ := Aside0.mk ((bG3 hg BK146.out)); clear BK146; clear HB; have BK146 := n0_; have HB := n1_; have BK147 := n2_; have GW147 := n3_; have GE147 := n4_; have NB146_147 := n5_; have NB147_146 := n6_; clear n0_ n1_ n2_ n3_ n4_ n5_ n6_; clear hb hbox hg))
    have n0_ := Aside0.mk (bD BK146.out)
    have n1_ := Aside0.mk (bD BK147.out)
    have n2_ := Aside0.mk (p1 HB.out)
    clear BK146
    clear BK147
    clear HB
    have BK146 := n0_
    have BK147 := n1_
    have HB := n2_
    clear n0_ n1_ n2_
    refine start_ (n := 11) (S := fun w' => w'.cell? ⟨gb146, 0, none⟩ = some (.int .u64 a0_0) ∧ w'.cell? ⟨gb146, 1, none⟩ = some (.int .u64 a0_1)) (ds := []) #[false, false, false, false, false, false, false, false, false, false, false] (by kernel_rfl) rfl rfl ⟨(blk_cell BK146.out 0).trans rfl, (blk_cell BK146.out 1).trans rfl⟩ (fun hHeld => ?_); refine with_tabW twin_Shl.tab4 twin_Shl.bits4 (fun HT_ HW_ => ?_)
    generalize w12.drew = w13 at BK146 BK147 HB hHeld ⊢
    refine pure_ (i := 1) (N := some 14) (v := ?_) (a' := ?_) #[false, true, false, false, false, false, false, false, false, false, false] rfl rfl (any_of HT_.out (by kernel_rfl)) (fun _ _ _ h => h) (Or.inl ⟨by rfl, ?_⟩) ?_ ?_
    rotate_left
    · intro w'
      go_simp
      with_reducible rfl
    rotate_left
    · simp only [Act.put, List.setIfInBounds_toArray, List.set_cons_zero, List.set_cons_succ, i64_w, i32_w]
      rfl
    refine pure_ (i := 5) (N := some 18) (v := ?_) (a' := ?_) #[false, true, false, false, false, true, false, false, false, false, false] rfl rfl (any_of HT_.out (by kernel_rfl)) (fun _ _ _ h => h) (Or.inl ⟨by rfl, ?_⟩) ?_ ?_
    rotate_left
    · intro w'
      go_simp
      with_reducible rfl
    rotate_left
    · simp only [Act.put, List.setIfInBounds_toArray, List.set_cons_zero, List.set_cons_succ, i64_w, i32_w]
      rfl
    refine pure_ (i := 6) (N := some 19) (v := ?_) (a' := ?_) #[false, true, false, false, false, true, true, false, false, false, false] rfl rfl (any_of HT_.out (by kernel_rfl)) (fun _ _ _ h => h) (Or.inl ⟨by rfl, ?_⟩) ?_ ?_
    rotate_left
    · intro w'
      go_simp
      with_reducible rfl
    rotate_left
    · simp only [Act.put, List.setIfInBounds_toArray, List.set_cons_zero, List.set_cons_succ, i64_w, i32_w]
      rfl
    refine take_ (i := 0) (N := some 13) (v := ?_) (a' := ?_) #[true, true, false, false, false, true, true, false, false, false, false] rfl rfl (take_ofW HT_.out HW_.out (by kernel_rfl)) (fun _ _ _ h => h) (Or.inl ⟨by rfl, ?_⟩) hHeld ?_ ?_
    rotate_left
    · rintro w' ⟨s0, s1⟩
      go_simp
      with_reducible rfl
    rotate_left
    · simp only [Act.put, List.setIfInBounds_toArray, List.set_cons_zero, List.set_cons_succ, i64_w, i32_w]
      rfl
    refine take_ (i := 3) (N := some 16) (v := ?_) (a' := ?_) #[true, true, false, true, false, true, true, false, false, false, false] rfl rfl (take_ofW HT_.out HW_.out (by kernel_rfl)) (fun _ _ _ h => h) (Or.inl ⟨by rfl, ?_⟩) hHeld ?_ ?_
    rotate_left
    · rintro w' ⟨s0, s1⟩
      go_simp
      with_reducible rfl
    rotate_left
    · simp only [Act.put, List.setIfInBounds_toArray, List.set_cons_zero, List.set_cons_succ, i64_w, i32_w]
      rfl
    refine one_ (i := 2) (N := some 15) #[true, true, true, true, false, true, true, false, false, false, false] rfl rfl (one_of HT_.out (by kernel_rfl)) (by decide) (fun K hK => ?_)
    refine goes_ Try.func26 (by kernel_rfl) rfl #[.agg #[.int .u64 a0_0, .int .u64 a0_1], .int .i64 ji8] (by rfl) rfl rfl (by (try simp only [List.map_toArray, List.map_cons, List.map_nil]); first | done | (simp only [hji8]; rfl) | rfl | (simp only [List.length_drop, List.length_take]; rfl)) ?_
    with_reducible refine (twin_shl.calls a0_0 a0_1 ji8 t148 t149 _ A9.out).mono ?_
    rintro e w14 ⟨rfl, hb⟩
    refine ⟨_, rfl, ?_⟩
    have n0_ := Aside0.mk (bB3 BK146.out hb)
    have n1_ := Aside0.mk (bB3 BK147.out hb)
    have n2_ := Aside0.mk (bS3 HB.out hb)
    clear BK146
    clear BK147
    clear HB
    have BK146 := n0_
    have BK147 := n1_
    have HB := n2_
    clear n0_ n1_ n2_
    (try clear hb)
    (try clear hb2)
    (try clear hk)
    (try clear hi)
    refine hK.out _ _ ⟨(blk_cell BK146.out 0).trans rfl, (blk_cell BK146.out 1).trans rfl⟩ (fun hHeld => ?_)
    clear hK K
    refine norm_ (a' := ?_) ?_ ?_
    rotate_left
    · show Act.put _ (some 15) _ = _
      simp only [Act.put, List.setIfInBounds_toArray, List.set_cons_zero, List.set_cons_succ, i64_w, i32_w]
      rfl
    refine one_ (i := 4) (N := some 17) #[true, true, true, true, true, true, true, false, false, false, false] rfl rfl (one_of HT_.out (by kernel_rfl)) (by decide) (fun K hK => ?_)
    refine goes_ Try.func27 (by kernel_rfl) rfl #[.agg #[.int .u64 a0_0, .int .u64 a0_1]] (by rfl) rfl rfl (by (try simp only [List.map_toArray, List.map_cons, List.map_nil]); first | done | rfl | (simp only [List.length_drop, List.length_take]; rfl)) ?_
    with_reducible refine (twin_Len.calls k a0_0 a0_1 t150 _ A10.out).mono ?_
    rintro e w15 ⟨rfl, hb⟩
    refine ⟨_, rfl, ?_⟩
    have n0_ := Aside0.mk (bB3 BK146.out hb)
    have n1_ := Aside0.mk (bB3 BK147.out hb)
    have n2_ := Aside0.mk (bS3 HB.out hb)
    clear BK146
    clear BK147
    clear HB
    have BK146 := n0_
    have BK147 := n1_
    have HB := n2_
    clear n0_ n1_ n2_
    (try clear hb)
    (try clear hb2)
    (try clear hk)
    (try clear hi)
    refine hK.out _ _ ⟨(blk_cell BK146.out 0).trans rfl, (blk_cell BK146.out 1).trans rfl⟩ (fun hHeld => ?_)
    clear hK K
    refine norm_ (a' := ?_) ?_ ?_
    rotate_left
    · show Act.put _ (some 17) _ = _
      simp only [Act.put, List.setIfInBounds_toArray, List.set_cons_zero, List.set_cons_succ, i64_w, i32_w]
      rfl
    refine pure_ (i := 7) (N := some 20) (v := ?_) (a' := ?_) #[true, true, true, true, true, true, true, true, false, false, false] rfl rfl (any_of HT_.out (by kernel_rfl)) (fun _ _ _ h => h) (Or.inl ⟨by rfl, ?_⟩) ?_ ?_
    rotate_left
    · intro w'
      go_simp
      with_reducible rfl
    rotate_left
    · simp only [Act.put, List.setIfInBounds_toArray, List.set_cons_zero, List.set_cons_succ, i64_w, i32_w]
      rfl
    refine one_ (i := 8) (N := none) #[true, true, true, true, true, true, true, true, true, false, false] rfl rfl (one_of HT_.out (by kernel_rfl)) (by decide) (fun K hK => ?_)
    have hs16 : w15.cell? ⟨gb147, 0, none⟩ = some (.int .u64 0) := (blk_cell BK147.out 0).trans rfl
    have hfs16 := blk_frozen BK147.out 0
    have hns16_0 := NB146_147.out
    have hms16_0 := NB147_146.out
    have hs17 : w15.cell? ⟨gb147, 1, none⟩ = some (.int .u64 0) := (blk_cell BK147.out 1).trans rfl
    have hfs17 := blk_frozen BK147.out 1
    have hns17_0 := NB146_147.out
    have hms17_0 := NB147_146.out
    refine skip_ (w1 := ?_) (by rfl) rfl ?_ ?_
    rotate_left
    · go_simp
      rfl
    refine hK.out _ _ ⟨((cell_far (p := ⟨gb147, _, none⟩) NB146_147.out _).trans (((cell_far (p := ⟨gb147, _, none⟩) NB146_147.out _).trans (hHeld.1)))), ((cell_far (p := ⟨gb147, _, none⟩) NB146_147.out _).trans (((cell_far (p := ⟨gb147, _, none⟩) NB146_147.out _).trans (hHeld.2))))⟩ (fun hHeld => ?_)
    clear hK K
    refine pure_ (i := 9) (N := some 5) (v := ?_) (a' := ?_) #[true, true, true, true, true, true, true, true, true, true, false] rfl rfl (any_of HT_.out (by kernel_rfl)) (fun _ _ _ h => h) (Or.inl ⟨by rfl, ?_⟩) ?_ ?_
    rotate_left
    · intro w'
      go_simp
      with_reducible rfl
    rotate_left
    · simp only [Act.put, List.setIfInBounds_toArray, List.set_cons_zero, List.set_cons_succ, i64_w, i32_w]
      rfl
    refine pure_ (i := 10) (N := some 6) (v := ?_) (a' := ?_) #[true, true, true, true, true, true, true, true, true, true, true] rfl rfl (any_of HT_.out (by kernel_rfl)) (fun _ _ _ h => h) (Or.inl ⟨by rfl, ?_⟩) ?_ ?_
    rotate_left
    · intro w'
      go_simp
      with_reducible rfl
    rotate_left
    · simp only [Act.put, List.setIfInBounds_toArray, List.set_cons_zero, List.set_cons_succ, i64_w, i32_w]
      rfl
    refine done_ (done_of HT_.out (by kernel_rfl)) ?_
    try go_wp2
    refine bodyPost_ret (results_ctt rfl _ _ gb147 24 #[.int .u64 t148, .int .u64 t149] (0, 0) _ rfl (by (with_reducible repeat (first | refine bN ?_ _ | refine bD ?_ | refine bA ?_ _)); refine blk_put (cs := #[.int .u64 t148, .int .u64 0]) ?_ 1 _ rfl; (with_reducible repeat (first | refine bN ?_ _ | refine bD ?_ | refine bA ?_ _)); refine blk_put (cs := #[.int .u64 0, .int .u64 0]) ?_ 0 _ rfl; (with_reducible repeat (first | refine bN ?_ _ | refine bD ?_ | refine bA ?_ _)); exact BK147.out) Try.underlying24 rfl (by kernel_rfl)) rfl ?_
    exact ⟨by first | rfl | (simp [errW_none, errW_some] <;> rfl) | (simp only [← hji8]; first | rfl | (simp [errW_none, errW_some] <;> rfl)) | (simp [*, errW_none, errW_some] <;> rfl), by repeat (first | (with_reducible first | exact HB.out | apply pA | apply pN | apply p1 | refine pS ?_ GE146.out | refine pS ?_ GE147.out) | exact HB.out)⟩

/-! ### twin_shr: function 30 -/
def twin_shr.f (a0_0 : Int) (a0_1 : Int) (a1 : Int) : Option (Int × Int) := if a1 ≥ 64 then (if 0 ≤ (wrap64 (a1 - 64)) then (some (0, shr .u64 a0_0 (wrap64 (a1 - 64)))) else (none)) else (if 0 ≤ a1 then (if 0 ≤ (wrap64 (64 - a1)) then (some (shr .u64 a0_0 a1, Go.bits .or .u64 (shr .u64 a0_1 a1) (shl .u64 a0_0 (wrap64 (64 - a1))))) else (none)) else (none))
def twin_shr.T3 : Bool × List (List Nat × List Nat) := (true, [([], []), ([0], [0]), ([], []), ([1, 2], [1, 2]), ([], []), ([4], [4]), ([], []), ([5, 6], [5, 6]), ([], []), ([8], [8]), ([], []), ([10], [10]), ([9, 11], [9, 11]), ([7, 12], [7, 12]), ([3, 13], [3, 13]), ([14, 0, 1, 2, 3, 4, 5, 6, 7, 8, 9, 10, 11, 12, 13, 14], [14])])
def twin_shr.B3 : List Nat := [0, 1, 0, 7, 0, 16, 0, 112, 0, 256, 0, 1024, 3840, 8176, 16383, 32767]
theorem twin_shr.tab3 : rtab .any (opsOf Try.f30 3) = twin_shr.T3 := by kernel_rfl
theorem twin_shr.bits3 : waitsOk twin_shr.T3.2 twin_shr.B3 = true := by kernel_rfl
set_option maxHeartbeats 8000000 in
set_option maxRecDepth 100000 in
theorem twin_shr.calls (a0_0 : Int) (a0_1 : Int) (a1 : Int) (r1 : Int) (r2 : Int) (w : World) (h : twin_shr.f a0_0 a0_1 a1 = some (r1, r2)) :
    Calls Try.prog 30 #[.agg #[.int .u64 a0_0, .int .u64 a0_1], .int .i64 a1] w fun e w' => e = .returned (.agg #[.int .u64 r1, .int .u64 r2]) ∧ Below w.heap.size w w' := by
  have hu24 := Try.underlying24
  have HB := Aside0.mk (Below.refl w.heap.size w)
  have H : (if a1 ≥ 64 then (if 0 ≤ (wrap64 (a1 - 64)) then (some (0, shr .u64 a0_0 (wrap64 (a1 - 64)))) else (none)) else (if 0 ≤ a1 then (if 0 ≤ (wrap64 (64 - a1)) then (some (shr .u64 a0_0 a1, Go.bits .or .u64 (shr .u64 a0_1 a1) (shl .u64 a0_0 (wrap64 (64 - a1))))) else (none)) else (none))) = some (r1, r2) := h
  clear h
  by_cases c3 : a1 ≥ 64
  · rw [if_pos c3] at H
    have c3b0 : decide (64 ≤ a1) = true := decide_eq_true c3
    clear c3
    obtain ⟨ji4, hji4⟩ : ∃ j_ : Int, (wrap64 (a1 - 64)) = j_ := ⟨_, rfl⟩
    replace H : (if 0 ≤ (ji4) then (some (0, shr .u64 a0_0 (ji4))) else (none)) = some (r1, r2) := by first | (rw [hji4] at H; exact H) | (simp only [hji4] at H ⊢; exact H)
    have hji4w : (IntKind.i64.wrap (a1 - 64)) = ji4 := (i64_w _).trans hji4
    by_cases c5 : 0 ≤ (ji4)
    · rw [if_pos c5] at H
      have c5b0 := eq_true c5
      have c5b1 : decide (0 ≤ (ji4)) = true := decide_eq_true c5
      clear c5
      obtain ⟨ji6, hji6⟩ : ∃ j_ : Int, (shr .u64 a0_0 (ji4)) = j_ := ⟨_, rfl⟩
      replace H : (some (0, ji6)) = some (r1, r2) := by first | (rw [hji6] at H; exact H) | (simp only [hji6] at H ⊢; exact H)
      have hji6_ : (a0_0 / 2 ^ min (ji4).toNat 64) = ji6 := hji6
      have hji6z : (ji4) ≤ 64 → (a0_0 / 2 ^ (ji4).toNat) = ji6 := shr_small hji6
      simp only [Option.some.injEq, Prod.mk.injEq] at H
      obtain ⟨rfl, rfl⟩ := H
      go_enter Try.func30, Try.ntmps30
      go_wp2_with (first | ((with_reducible refine gD (N := 2) rfl ?_); refine bE3 2 #[.int .u64 a0_0, .int .u64 a0_1] 24 ?hr ?_; (case hr => first | (go_simp; done) | (go_simp; rfl)); intro gb151 hg w7 hbox hb; have n0_ := Aside0.mk (bS3 HB.out hb); have n1_ := Aside0.mk (hbox); have n2_ := Aside0.mk ((bZ3 hg HB.out)); have n3_ := Aside0.mk ((bZ3 hg HB.out)); clear HB; have HB := n0_; have BK151 := n1_; have GW151 := n2_; have GE151 := n3_; clear n0_ n1_ n2_ n3_; clear hb hbox hg) | ((with_reducible refine gD (N := 4) rfl ?_); refine bE3 4 #[.int .u64 0, .int .u64 0] 24 ?hr ?_; (case hr => first | (go_simp; done) | (go_simp; rfl)); intro gb152 hg w8 hbox hb; have n0_ := Aside0.mk (bB3 BK151.out hb); have n1_ := Aside0.mk (bS3 HB.out hb); have n2_ := Aside0.mk (hbox); have n3_ := Aside0.mk ((bZ3 hg HB.out)); have n4_ := Aside0.mk ((bZ3 hg HB.out)); have n5_ := Aside0.mk ((bL3 hg BK151.out)); have n6_ := Aside0.mk ((bG3 hg BK151.out)); clear BK151; clear HB; have BK151 := n0_; have HB := n1_; have BK152 := n2_; have GW152 := n3_; have GE152 := n4_; have NB151_152 := n5_; have NB152_151 := n6_; clear n0_ n1_ n2_ n3_ n4_ n5_ n6_; clear hb hbox hg; have hnb9 := NB151_152.out; have hnc9 := NB152_151.out; have hcz10_0 : w8.cell? ⟨gb151, 0, none⟩ = some (.int .u64 a0_0) := (blk_cell BK151.out 0).trans rfl; have hcz10_1 : w8.cell? ⟨gb151, 1, none⟩ = some (.int .u64 a0_1) := (blk_cell BK151.out 1).trans rfl; have hfz10_0 := blk_frozen BK151.out 0; have hfz10_1 := blk_frozen BK151.out 1; have hcz11_0 : w8.cell? ⟨gb152, 0, none⟩ = some (.int .u64 0) := (blk_cell BK152.out 0).trans rfl; have hcz11_1 : w8.cell? ⟨gb152, 1, none⟩ = some (.int .u64 0) := (blk_cell BK152.out 1).trans rfl; have hfz11_0 := blk_frozen BK152.out 0; have hfz11_1 := blk_frozen BK152.out 1))
      refine bodyPost_ret (results_cell_row rfl _ _ gb152 24 #[.int .u64 0, .int .u64 ji6] (0, 0) _ rfl (by (with_reducible repeat (first | refine bN ?_ _ | refine bD ?_ | refine bA ?_ _)); refine blk_put (cs := #[.int .u64 0, .int .u64 0]) ?_ 1 _ rfl; (with_reducible repeat (first | refine bN ?_ _ | refine bD ?_ | refine bA ?_ _)); refine blk_put (cs := #[.int .u64 0, .int .u64 0]) ?_ 0 _ rfl; (with_reducible repeat (first | refine bN ?_ _ | refine bD ?_ | refine bA ?_ _)); exact BK152.out) Try.underlying24 rfl (by kernel_rfl)) rfl ?_
      exact ⟨by first | rfl | (simp [errW_none, errW_some] <;> rfl) | (simp only [← hji4, ← hji6]; first | rfl | (simp [errW_none, errW_some] <;> rfl)) | (simp [*, errW_none, errW_some] <;> rfl), by repeat (first | (with_reducible first | exact HB.out | apply pA | apply pN | apply p1 | refine pS ?_ GE151.out | refine pS ?_ GE152.out) | exact HB.out)⟩
    · rw [if_neg c5] at H
      exact absurd H (by simp)
  · rw [if_neg c3] at H
    have c3b0 : decide (64 ≤ a1) = false := decide_eq_false c3
    clear c3
    by_cases c12 : 0 ≤ a1
    · rw [if_pos c12] at H
      have c12b0 := eq_true c12
      have c12b1 : decide (0 ≤ a1) = true := decide_eq_true c12
      clear c12
      obtain ⟨ji13, hji13⟩ : ∃ j_ : Int, (shr .u64 a0_0 a1) = j_ := ⟨_, rfl⟩
      replace H : (if 0 ≤ (wrap64 (64 - a1)) then (some (ji13, Go.bits .or .u64 (shr .u64 a0_1 a1) (shl .u64 a0_0 (wrap64 (64 - a1))))) else (none)) = some (r1, r2) := by first | (rw [hji13] at H; exact H) | (simp only [hji13] at H ⊢; exact H)
      have hji13_ : (a0_0 / 2 ^ min a1.toNat 64) = ji13 := hji13
      have hji13z : a1 ≤ 64 → (a0_0 / 2 ^ a1.toNat) = ji13 := shr_small hji13
      have c14b0 := eq_true (of_decide_eq_true (by first | (with_reducible assumption) | assumption) : 0 ≤ a1)
      obtain ⟨ji15, hji15⟩ : ∃ j_ : Int, (shr .u64 a0_1 a1) = j_ := ⟨_, rfl⟩
      replace H : (if 0 ≤ (wrap64 (64 - a1)) then (some (ji13, Go.bits .or .u64 (ji15) (shl .u64 a0_0 (wrap64 (64 - a1))))) else (none)) = some (r1, r2) := by first | (rw [hji15] at H; exact H) | (simp only [hji15] at H ⊢; exact H)
      have hji15_ : (a0_1 / 2 ^ min a1.toNat 64) = ji15 := hji15
      have hji15z : a1 ≤ 64 → (a0_1 / 2 ^ a1.toNat) = ji15 := shr_small hji15
      obtain ⟨ji16, hji16⟩ : ∃ j_ : Int, (wrap64 (64 - a1)) = j_ := ⟨_, rfl⟩
      replace H : (if 0 ≤ (ji16) then (some (ji13, Go.bits .or .u64 (ji15) (shl .u64 a0_0 (ji16)))) else (none)) = some (r1, r2) := by first | (rw [hji16] at H; exact H) | (simp only [hji16] at H ⊢; exact H)
      have hji16w : (IntKind.i64.wrap (64 - a1)) = ji16 := (i64_w _).trans hji16
      by_cases c17 : 0 ≤ (ji16)
      · rw [if_pos c17] at H
        have c17b0 := eq_true c17
        have c17b1 : decide (0 ≤ (ji16)) = true := decide_eq_true c17
        clear c17
        obtain ⟨ji18, hji18⟩ : ∃ j_ : Int, (shl .u64 a0_0 (ji16)) = j_ := ⟨_, rfl⟩
        replace H : (some (ji13, Go.bits .or .u64 (ji15) (ji18))) = some (r1, r2) := by first | (rw [hji18] at H; exact H) | (simp only [hji18] at H ⊢; exact H)
        have hji18_ : (IntKind.u64.wrap (a0_0 * 2 ^ min (ji16).toNat 64)) = ji18 := hji18
        have hji18z : (ji16) ≤ 64 → (IntKind.u64.wrap (a0_0 * 2 ^ (ji16).toNat)) = ji18 := shl_small hji18
        simp only [Option.some.injEq, Prod.mk.injEq] at H
        obtain ⟨rfl, rfl⟩ := H
        go_enter Try.func30, Try.ntmps30
        try go_wp2_with (first | ((with_reducible refine gD (N := 2) rfl ?_); refine bE3 2 #[.int .u64 a0_0, .int .u64 a0_1] 24 ?hr ?_; (case hr => first | (go_simp; done) | (go_simp; rfl)); intro gb151 hg w19 hbox hb; have n0_ := Aside0.mk (bS3 HB.out hb); have n1_ := Aside0.mk (hbox); have n2_ := Aside0.mk ((bZ3 hg HB.out)); have n3_ := Aside0.mk ((bZ3 hg HB.out)); clear HB; have HB := n0_; have BK151 := n1_; have GW151 := n2_; have GE151 := n3_; clear n0_ n1_ n2_ n3_; clear hb hbox hg) | ((with_reducible refine gD (N := 4) rfl ?_); refine bE3 4 #[.int .u64 0, .int .u64 0] 24 ?hr ?_; (case hr => first | (go_simp; done) | (go_simp; rfl)); intro gb152 hg w20 hbox hb; have n0_ := Aside0.mk (bB3 BK151.out hb); have n1_ := Aside0.mk (bS3 HB.out hb); have n2_ := Aside0.mk (hbox); have n3_ := Aside0.mk ((bZ3 hg HB.out)); have n4_ := Aside0.mk ((bZ3 hg HB.out)); have n5_ := Aside0.mk ((bL3 hg BK151.out)); have n6_ := Aside0.mk ((bG3 hg BK151.out)); clear BK151; clear HB; have BK151 := n0_; have HB := n1_; have BK152 := n2_; have GW152 := n3_; have GE152 := n4_; have NB151_152 := n5_; have NB152_151 := n6_; clear n0_ n1_ n2_ n3_ n4_ n5_ n6_; clear hb hbox hg))
        have n0_ := Aside0.mk (bD BK151.out)
        have n1_ := Aside0.mk (bD BK152.out)
        have n2_ := Aside0.mk (p1 HB.out)
        clear BK151
        clear BK152
        clear HB
        have BK151 := n0_
        have BK152 := n1_
        have HB := n2_
        clear n0_ n1_ n2_
        refine start_ (n := 16) (S := fun w' => w'.cell? ⟨gb151, 0, none⟩ = some (.int .u64 a0_0) ∧ w'.cell? ⟨gb151, 1, none⟩ = some (.int .u64 a0_1)) (ds := []) #[false, false, false, false, false, false, false, false, false, false, false, false, false, false, false, false] (by kernel_rfl) rfl rfl ⟨(blk_cell BK151.out 0).trans rfl, (blk_cell BK151.out 1).trans rfl⟩ (fun hHeld => ?_); refine with_tabW twin_shr.tab3 twin_shr.bits3 (fun HT_ HW_ => ?_)
        generalize w20.drew = w21 at BK151 BK152 HB hHeld ⊢
        refine pure_ (i := 0) (N := some 13) (v := ?_) (a' := ?_) #[true, false, false, false, false, false, false, false, false, false, false, false, false, false, false, false] rfl rfl (any_of HT_.out (by kernel_rfl)) (fun _ _ _ h => h) (Or.inl ⟨by rfl, ?_⟩) ?_ ?_
        rotate_left
        · intro w'
          go_simp
          with_reducible rfl
        rotate_left
        · simp only [Act.put, List.setIfInBounds_toArray, List.set_cons_zero, List.set_cons_succ, i64_w, i32_w]
          rfl
        refine pure_ (i := 2) (N := some 15) (v := ?_) (a' := ?_) #[true, false, true, false, false, false, false, false, false, false, false, false, false, false, false, false] rfl rfl (any_of HT_.out (by kernel_rfl)) (fun _ _ _ h => h) (Or.inl ⟨by rfl, ?_⟩) ?_ ?_
        rotate_left
        · intro w'
          go_simp
          with_reducible rfl
        rotate_left
        · simp only [Act.put, List.setIfInBounds_toArray, List.set_cons_zero, List.set_cons_succ, i64_w, i32_w]
          rfl
        refine pure_ (i := 4) (N := some 17) (v := ?_) (a' := ?_) #[true, false, true, false, true, false, false, false, false, false, false, false, false, false, false, false] rfl rfl (any_of HT_.out (by kernel_rfl)) (fun _ _ _ h => h) (Or.inl ⟨by rfl, ?_⟩) ?_ ?_
        rotate_left
        · intro w'
          go_simp
          with_reducible rfl
        rotate_left
        · simp only [Act.put, List.setIfInBounds_toArray, List.set_cons_zero, List.set_cons_succ, i64_w, i32_w]
          rfl
        refine pure_ (i := 6) (N := some 19) (v := ?_) (a' := ?_) #[true, false, true, false, true, false, true, false, false, false, false, false, false, false, false, false] rfl rfl (any_of HT_.out (by kernel_rfl)) (fun _ _ _ h => h) (Or.inl ⟨by rfl, ?_⟩) ?_ ?_
        rotate_left
        · intro w'
          go_simp
          with_reducible rfl
        rotate_left
        · simp only [Act.put, List.setIfInBounds_toArray, List.set_cons_zero, List.set_cons_succ, i64_w, i32_w]
          rfl
        refine pure_ (i := 8) (N := some 21) (v := ?_) (a' := ?_) #[true, false, true, false, true, false, true, false, true, false, false, false, false, false, false, false] rfl rfl (any_of HT_.out (by kernel_rfl)) (fun _ _ _ h => h) (Or.inl ⟨by rfl, ?_⟩) ?_ ?_
        rotate_left
        · intro w'
          go_simp
          with_reducible rfl
        rotate_left
        · simp only [Act.put, List.setIfInBounds_toArray, List.set_cons_zero, List.set_cons_succ, i64_w, i32_w]
          rfl
        refine pure_ (i := 10) (N := some 23) (v := ?_) (a' := ?_) #[true, false, true, false, true, false, true, false, true, false, true, false, false, false, false, false] rfl rfl (any_of HT_.out (by kernel_rfl)) (fun _ _ _ h => h) (Or.inl ⟨by rfl, ?_⟩) ?_ ?_
        rotate_left
        · intro w'
          go_simp
          with_reducible rfl
        rotate_left
        · simp only [Act.put, List.setIfInBounds_toArray, List.set_cons_zero, List.set_cons_succ, i64_w, i32_w]
          rfl
        refine pure_ (i := 11) (N := some 24) (v := ?_) (a' := ?_) #[true, false, true, false, true, false, true, false, true, false, true, true, false, false, false, false] rfl rfl (any_of HT_.out (by kernel_rfl)) (fun _ _ _ h => h) (Or.inl ⟨by rfl, ?_⟩) ?_ ?_
        rotate_left
        · intro w'
          go_simp
          with_reducible rfl
        rotate_left
        · simp only [Act.put, List.setIfInBounds_toArray, List.set_cons_zero, List.set_cons_succ, i64_w, i32_w]
          rfl
        refine take_ (i := 1) (N := some 14) (v := ?_) (a' := ?_) #[true, true, true, false, true, false, true, false, true, false, true, true, false, false, false, false] rfl rfl (take_ofW HT_.out HW_.out (by kernel_rfl)) (fun _ _ _ h => h) (Or.inl ⟨by rfl, ?_⟩) hHeld ?_ ?_
        rotate_left
        · rintro w' ⟨s0, s1⟩
          go_simp
          with_reducible rfl
        rotate_left
        · simp only [Act.put, List.setIfInBounds_toArray, List.set_cons_zero, List.set_cons_succ, i64_w, i32_w]
          rfl
        refine pure_ (i := 3) (N := some 16) (v := ?_) (a' := ?_) #[true, true, true, true, true, false, true, false, true, false, true, true, false, false, false, false] rfl rfl (any_of HT_.out (by kernel_rfl)) (fun _ _ _ h => h) (Or.inl ⟨by rfl, ?_⟩) ?_ ?_
        rotate_left
        · intro w'
          go_simp
          with_reducible rfl
        rotate_left
        · simp only [Act.put, List.setIfInBounds_toArray, List.set_cons_zero, List.set_cons_succ, i64_w, i32_w]
          rfl
        refine take_ (i := 5) (N := some 18) (v := ?_) (a' := ?_) #[true, true, true, true, true, true, true, false, true, false, true, true, false, false, false, false] rfl rfl (take_ofW HT_.out HW_.out (by kernel_rfl)) (fun _ _ _ h => h) (Or.inl ⟨by rfl, ?_⟩) hHeld ?_ ?_
        rotate_left
        · rintro w' ⟨s0, s1⟩
          go_simp
          with_reducible rfl
        rotate_left
        · simp only [Act.put, List.setIfInBounds_toArray, List.set_cons_zero, List.set_cons_succ, i64_w, i32_w]
          rfl
        refine pure_ (i := 7) (N := some 20) (v := ?_) (a' := ?_) #[true, true, true, true, true, true, true, true, true, false, true, true, false, false, false, false] rfl rfl (any_of HT_.out (by kernel_rfl)) (fun _ _ _ h => h) (Or.inl ⟨by rfl, ?_⟩) ?_ ?_
        rotate_left
        · intro w'
          go_simp
          with_reducible rfl
        rotate_left
        · simp only [Act.put, List.setIfInBounds_toArray, List.set_cons_zero, List.set_cons_succ, i64_w, i32_w]
          rfl
        refine take_ (i := 9) (N := some 22) (v := ?_) (a' := ?_) #[true, true, true, true, true, true, true, true, true, true, true, true, false, false, false, false] rfl rfl (take_ofW HT_.out HW_.out (by kernel_rfl)) (fun _ _ _ h => h) (Or.inl ⟨by rfl, ?_⟩) hHeld ?_ ?_
        rotate_left
        · rintro w' ⟨s0, s1⟩
          go_simp
          with_reducible rfl
        rotate_left
        · simp only [Act.put, List.setIfInBounds_toArray, List.set_cons_zero, List.set_cons_succ, i64_w, i32_w]
          rfl
        refine pure_ (i := 12) (N := some 25) (v := ?_) (a' := ?_) #[true, true, true, true, true, true, true, true, true, true, true, true, true, false, false, false] rfl rfl (any_of HT_.out (by kernel_rfl)) (fun _ _ _ h => h) (Or.inl ⟨by rfl, ?_⟩) ?_ ?_
        rotate_left
        · intro w'
          go_simp
          with_reducible rfl
        rotate_left
        · simp only [Act.put, List.setIfInBounds_toArray, List.set_cons_zero, List.set_cons_succ, i64_w, i32_w]
          rfl
        refine pure_ (i := 13) (N := some 26) (v := ?_) (a' := ?_) #[true, true, true, true, true, true, true, true, true, true, true, true, true, true, false, false] rfl rfl (any_of HT_.out (by kernel_rfl)) (fun _ _ _ h => h) (Or.inl ⟨by rfl, ?_⟩) ?_ ?_
        rotate_left
        · intro w'
          go_simp
          with_reducible rfl
        rotate_left
        · simp only [Act.put, List.setIfInBounds_toArray, List.set_cons_zero, List.set_cons_succ, i64_w, i32_w]
          rfl
        refine pure_ (i := 14) (N := some 27) (v := ?_) (a' := ?_) #[true, true, true, true, true, true, true, true, true, true, true, true, true, true, true, false] rfl rfl (any_of HT_.out (by kernel_rfl)) (fun _ _ _ h => h) (Or.inl ⟨by rfl, ?_⟩) ?_ ?_
        rotate_left
        · intro w'
          go_simp
          with_reducible rfl
        rotate_left
        · simp only [Act.put, List.setIfInBounds_toArray, List.set_cons_zero, List.set_cons_succ, i64_w, i32_w]
          rfl
        refine one_ (i := 15) (N := none) #[true, true, true, true, true, true, true, true, true, true, true, true, true, true, true, true] rfl rfl (one_of HT_.out (by kernel_rfl)) (by decide) (fun K hK => ?_)
        have hs22 : w21.cell? ⟨gb152, 0, none⟩ = some (.int .u64 0) := (blk_cell BK152.out 0).trans rfl
        have hfs22 := blk_frozen BK152.out 0
        have hns22_0 := NB151_152.out
        have hms22_0 := NB152_151.out
        have hs23 : w21.cell? ⟨gb152, 1, none⟩ = some (.int .u64 0) := (blk_cell BK152.out 1).trans rfl
        have hfs23 := blk_frozen BK152.out 1
        have hns23_0 := NB151_152.out
        have hms23_0 := NB152_151.out
        refine skip_ (w1 := ?_) (by rfl) rfl ?_ ?_
        rotate_left
        · go_simp
          rfl
        refine hK.out _ _ ⟨((cell_far (p := ⟨gb152, _, none⟩) NB151_152.out _).trans (((cell_far (p := ⟨gb152, _, none⟩) NB151_152.out _).trans (hHeld.1)))), ((cell_far (p := ⟨gb152, _, none⟩) NB151_152.out _).trans (((cell_far (p := ⟨gb152, _, none⟩) NB151_152.out _).trans (hHeld.2))))⟩ (fun hHeld => ?_)
        clear hK K
        refine done_ (done_of HT_.out (by kernel_rfl)) ?_
        try go_wp2
        refine bodyPost_ret (results_cell_row rfl _ _ gb152 24 #[.int .u64 ji13, .int .u64 (Go.bits .or .u64 (ji15) (ji18))] (0, 0) _ rfl (by (with_reducible repeat (first | refine bN ?_ _ | refine bD ?_ | refine bA ?_ _)); refine blk_put (cs := #[.int .u64 ji13, .int .u64 0]) ?_ 1 _ rfl; (with_reducible repeat (first | refine bN ?_ _ | refine bD ?_ | refine bA ?_ _)); refine blk_put (cs := #[.int .u64 0, .int .u64 0]) ?_ 0 _ rfl; (with_reducible repeat (first | refine bN ?_ _ | refine bD ?_ | refine bA ?_ _)); exact BK152.out) Try.underlying24 rfl (by kernel_rfl)) rfl ?_
        exact ⟨by first | rfl | (simp [errW_none, errW_some] <;> rfl) | (simp only [← hji13, ← hji15, ← hji16, ← hji18]; first | rfl | (simp [errW_none, errW_some] <;> rfl)) | (simp [*, errW_none, errW_some] <;> rfl), by repeat (first | (with_reducible first | exact HB.out | apply pA | apply pN | apply p1 | refine pS ?_ GE151.out | refine pS ?_ GE152.out) | exact HB.out)⟩
      · rw [if_neg c17] at H
        exact absurd H (by simp)
    · rw [if_neg c12] at H
      exact absurd H (by simp)

/-! ### twin_Shr: function 16 -/
def twin_Shr.f (a0_0 : Int) (a0_1 : Int) (a1 : Int) : Option (Int × Int × Bool × Option Int) := if a1 < 0 then (some (0, 0, false, some 1)) else ((twin_shr.f a0_0 a0_1 (mn a1 128)).bind fun bt155 => ((twin_shl.f bt155.1 bt155.2 (mn a1 128)).bind fun bt158 => (some (bt155.1, bt155.2, (!(bt158.1 == a0_0) || (!(bt158.2 == a0_1))), none))))
def twin_Shr.T5 : Bool × List (List Nat × List Nat) := (true, [([], []), ([], []), ([], []), ([1, 2], [1, 2]), ([], []), ([3, 4], [3, 4]), ([0, 3, 0], [0]), ([5, 6, 0, 1, 2, 3, 4, 5, 6], [5]), ([7, 0, 1, 2, 3, 4, 5, 6, 7], [])])
def twin_Shr.B5 : List Nat := [0, 0, 0, 6, 0, 30, 15, 127, 255]
theorem twin_Shr.tab5 : rtab .any (opsOf Try.f16 5) = twin_Shr.T5 := by kernel_rfl
theorem twin_Shr.bits5 : waitsOk twin_Shr.T5.2 twin_Shr.B5 = true := by kernel_rfl
set_option maxHeartbeats 8000000 in
set_option maxRecDepth 100000 in
theorem twin_Shr.calls (a0_0 : Int) (a0_1 : Int) (a1 : Int) (r1 : Int) (r2 : Int) (r3 : Bool) (r4 : Option Int) (w : World) (h : twin_Shr.f a0_0 a0_1 a1 = some (r1, r2, r3, r4)) :
    Calls Try.prog 16 #[.agg #[.int .u64 a0_0, .int .u64 a0_1], .int .i64 a1] w fun e w' => e = .returned (.tuple #[.agg #[.int .u64 r1, .int .u64 r2], .bool r3, errW r4]) ∧ Below w.heap.size w w' := by
  have hu24 := Try.underlying24
  have hu27 := Try.underlying27
  have hu38 := Try.underlying38
  have HB := Aside0.mk (Below.refl w.heap.size w)
  have H : (if a1 < 0 then (some (0, 0, false, some 1)) else ((twin_shr.f a0_0 a0_1 (mn a1 128)).bind fun bt155 => ((twin_shl.f bt155.1 bt155.2 (mn a1 128)).bind fun bt158 => (some (bt155.1, bt155.2, (!(bt158.1 == a0_0) || (!(bt158.2 == a0_1))), none))))) = some (r1, r2, r3, r4) := h
  clear h
  by_cases c3 : a1 < 0
  · rw [if_pos c3] at H
    have c3b0 : decide (a1 < 0) = true := decide_eq_true c3
    clear c3
    simp only [Option.some.injEq, Prod.mk.injEq] at H
    obtain ⟨rfl, rfl, rfl, rfl⟩ := H
    go_enter Try.func16, Try.ntmps16
    go_wp2_with (first | ((with_reducible refine gD (N := 2) rfl ?_); refine bE3 2 #[.int .u64 a0_0, .int .u64 a0_1] 24 ?hr ?_; (case hr => first | (go_simp; done) | (go_simp; rfl)); intro gb153 hg w4 hbox hb; have n0_ := Aside0.mk (bS3 HB.out hb); have n1_ := Aside0.mk (hbox); have n2_ := Aside0.mk ((bZ3 hg HB.out)); have n3_ := Aside0.mk ((bZ3 hg HB.out)); clear HB; have HB := n0_; have BK153 := n1_; have GW153 := n2_; have GE153 := n3_; clear n0_ n1_ n2_ n3_; clear hb hbox hg) | ((with_reducible refine gD (N := 4) rfl ?_); refine bE3 4 #[.int .u64 0, .int .u64 0] 24 ?hr ?_; (case hr => first | (go_simp; done) | (go_simp; rfl)); intro gb154 hg w5 hbox hb; have n0_ := Aside0.mk (bB3 BK153.out hb); have n1_ := Aside0.mk (bS3 HB.out hb); have n2_ := Aside0.mk (hbox); have n3_ := Aside0.mk ((bZ3 hg HB.out)); have n4_ := Aside0.mk ((bZ3 hg HB.out)); have n5_ := Aside0.mk ((bL3 hg BK153.out)); have n6_ := Aside0.mk ((bG3 hg BK153.out)); clear BK153; clear HB; have BK153 := n0_; have HB := n1_; have BK154 := n2_; have GW154 := n3_; have GE154 := n4_; have NB153_154 := n5_; have NB154_153 := n6_; clear n0_ n1_ n2_ n3_ n4_ n5_ n6_; clear hb hbox hg; have hnb6 := NB154_153.out; have hnc6 := NB153_154.out; have hcz7_0 : w5.cell? ⟨gb154, 0, none⟩ = some (.int .u64 0) := (blk_cell BK154.out 0).trans rfl; have hcz7_1 : w5.cell? ⟨gb154, 1, none⟩ = some (.int .u64 0) := (blk_cell BK154.out 1).trans rfl; have hfz7_0 := blk_frozen BK154.out 0; have hfz7_1 := blk_frozen BK154.out 1))
    refine bodyPost_ret (results_ctt rfl _ _ gb154 24 #[.int .u64 0, .int .u64 0] (0, 0) _ rfl (by (with_reducible repeat (first | refine bN ?_ _ | refine bD ?_ | refine bA ?_ _)); refine blk_put (cs := #[.int .u64 0, .int .u64 0]) ?_ 1 _ rfl; (with_reducible repeat (first | refine bN ?_ _ | refine bD ?_ | refine bA ?_ _)); refine blk_put (cs := #[.int .u64 0, .int .u64 0]) ?_ 0 _ rfl; (with_reducible repeat (first | refine bN ?_ _ | refine bD ?_ | refine bA ?_ _)); exact BK154.out) Try.underlying24 rfl (by kernel_rfl)) rfl ?_
    exact ⟨by first | rfl | (simp [errW_none, errW_some] <;> rfl) | (simp [*, errW_none, errW_some] <;> rfl), by repeat (first | (with_reducible first | exact HB.out | apply pA | apply pN | apply p1 | refine pS ?_ GE153.out | refine pS ?_ GE154.out) | exact HB.out)⟩
  · rw [if_neg c3] at H
    have c3b0 : decide (a1 < 0) = false := decide_eq_false c3
    clear c3
    obtain ⟨ji8, hji8⟩ : ∃ j_ : Int, (mn a1 128) = j_ := ⟨_, rfl⟩
    replace H : ((twin_shr.f a0_0 a0_1 (ji8)).bind fun bt155 => ((twin_shl.f bt155.1 bt155.2 (ji8)).bind fun bt158 => (some (bt155.1, bt155.2, (!(bt158.1 == a0_0) || (!(bt158.2 == a0_1))), none)))) = some (r1, r2, r3, r4) := by first | (rw [hji8] at H; exact H) | (simp only [hji8] at H ⊢; exact H)
    (try (have hji8h : ji8 ≤ 128 := by (rw [← hji8]; unfold mn; (repeat' split) <;> omega)))
    (try (have hji8g : ji8 ≤ 64 := by omega))
    have hji8_ : (if 128 < a1 then 128 else a1) = ji8 := hji8
    replace H := Option.bind_eq_some_iff.mp H
    obtain ⟨⟨t155, t156⟩, A90, H⟩ := H
    replace H : ((twin_shl.f t155 t156 (ji8)).bind fun bt158 => (some (t155, t156, (!(bt158.1 == a0_0) || (!(bt158.2 == a0_1))), none))) = some (r1, r2, r3, r4) := H
    have A9 := Aside0.mk A90
    clear A90
    replace H := Option.bind_eq_some_iff.mp H
    obtain ⟨⟨t158, t159⟩, A100, H⟩ := H
    replace H : (some (t155, t156, (!(t158 == a0_0) || (!(t159 == a0_1))), none)) = some (r1, r2, r3, r4) := H
    have A10 := Aside0.mk A100
    clear A100
    simp only [Option.some.injEq, Prod.mk.injEq] at H
    obtain ⟨rfl, rfl, rfl, rfl⟩ := H
    go_enter Try.func16, Try.ntmps16
    try go_wp2_with (first | ((with_reducible refine gD (N := 2) rfl ?_); refine bE3 2 #[.int .u64 a0_0, .int .u64 a0_1] 24 ?hr ?_; (case hr => first | (go_simp; done) | (go_simp; rfl)); intro gb153 hg w11 hbox hb; have n0_ := Aside0.mk (bS3 HB.out hb); have n1_ := Aside0.mk (hbox); have n2_ := Aside0.mk ((bZ3 hg HB.out)); have n3_ := Aside0.mk ((bZ3 hg HB.out)); clear HB; have HB := n0_; have BK153 := n1_; have GW153 := n2_; have GE153 := n3_; clear n0_ n1_ n2_ n3_; clear hb hbox hg) | ((with_reducible refine gD (N := 4) rfl ?_); refine bE3 4 #[.int .u64 0, .int .u64 0] 24 ?hr ?_; (case hr => first | (go_simp; done) | (go_simp; rfl)); intro gb154 hg w12 hbox hb; have n0_ := Aside0.mk (bB3 BK153.out hb); have n1_ := Aside0.mk (bS3 HB.out hb); have n2_ := Aside0.mk (hbox); have n3_ := Aside0.mk ((bZ3 hg HB.out)); have n4_ := Aside0.mk ((bZ3 hg HB.out)); have n5_ := Aside0.mk ((bL3 hg BK153.out)); have n6_ := Aside0.mk ((bG3 hg BK153.out)); clear BK153; clear HB; have BK153 := n0_; have HB := n1_; have BK154 := n2_; have GW154 := n3_; have GE154 := n4_; have NB153_154 := n5_; have NB154_153 := n6_; clear n0_ n1_ n2_ n3_ n4_ n5_ n6_; clear hb hbox hg; have hnb13 := NB153_154.out; have hnc13 := NB154_153.out; have hcz14_0 : w12.cell? ⟨gb153, 0, none⟩ = some (.int .u64 a0_0) := (blk_cell BK153.out 0).trans rfl; have hcz14_1 : w12.cell? ⟨gb153, 1, none⟩ = some (.int .u64 a0_1) := (blk_cell BK153.out 1).trans rfl; have hfz14_0 := blk_frozen BK153.out 0; have hfz14_1 := blk_frozen BK153.out 1) | ((with_reducible refine gC (f := 30) rfl ?_); (with_reducible refine gD (N := 16) rfl ?_); refine goesL_ (some 16) rfl rfl Try.func30 (by kernel_rfl) rfl #[.agg #[.int .u64 a0_0, .int .u64 a0_1], .int .i64 ji8] rfl (by (try simp only [List.map_toArray, List.map_cons, List.map_nil]); first | done | (simp only [hji8]; rfl) | rfl | (simp only [List.length_drop, List.length_take]; rfl)) ?_; (with_reducible refine (twin_shr.calls a0_0 a0_1 ji8 t155 t156 _ A9.out).mono ?_); rintro e w15 ⟨rfl, hb⟩; refine ⟨_, rfl, ?_⟩; have n0_ := Aside0.mk (bB3 BK153.out hb); have n1_ := Aside0.mk (bB3 BK154.out hb); have n2_ := Aside0.mk (bS3 HB.out hb); clear BK153; clear BK154; clear HB; have BK153 := n0_; have BK154 := n1_; have HB := n2_; clear n0_ n1_ n2_; (try clear hb); (try clear hb2); (try clear hk); (try clear hi)) | ((with_reducible refine gD (N := 7) rfl ?_); refine bE3 7 #[.int .u64 0, .int .u64 0] 24 ?hr ?_; (case hr => first | (go_simp; done) | (go_simp; rfl)); intro gb157 hg w16 hbox hb; have n0_ := Aside0.mk (bB3 BK153.out hb); have n1_ := Aside0.mk (bB3 BK154.out hb); have n2_ := Aside0.mk (bS3 HB.out hb); have n3_ := Aside0.mk (hbox); have n4_ := Aside0.mk ((bZ3 hg HB.out)); have n5_ := Aside0.mk ((bZ3 hg HB.out)); have n6_ := Aside0.mk ((bL3 hg BK153.out)); have n7_ := Aside0.mk ((bG3 hg BK153.out)); have n8_ := Aside0.mk ((bL3 hg BK154.out)); have n9_ := Aside0.mk ((bG3 hg BK154.out)); clear BK153; clear BK154; clear HB; have BK153 := n0_; have BK154 := n1_; have HB := n2_; have BK157 := n3_; have GW157 := n4_; have GE157 := n5_; have NB153_157 := n6_; have NB157_153 := n7_; have NB154_157 := n8_; have NB157_154 := n9_; clear n0_ n1_ n2_ n3_ n4_ n5_ n6_ n7_ n8_ n9_; clear hb hbox hg; have hnb17 := NB157_153.out; have hnc17 := NB153_157.out; have hnb18 := NB157_154.out; have hnc18 := NB154_157.out; have hcz19_0 : w16.cell? ⟨gb157, 0, none⟩ = some (.int .u64 0) := (blk_cell BK157.out 0).trans rfl; have hcz19_1 : w16.cell? ⟨gb157, 1, none⟩ = some (.int .u64 0) := (blk_cell BK157.out 1).trans rfl; have hfz19_0 := blk_frozen BK157.out 0; have hfz19_1 := blk_frozen BK157.out 1))
    have n0_ : Aside0 (((w16.setCell ⟨gb157, 0, none⟩ (.int .u64 t155)).setCell ⟨gb157, 1, none⟩ (.int .u64 t156)).heap[gb153]? = some (.cells #[.int .u64 a0_0, .int .u64 a0_1] 24 (0, 0))) := ⟨by (with_reducible repeat (first | refine bN ?_ _ | refine bD ?_ | refine bA ?_ _)); refine blk_far ?_ NB153_157.out _; (with_reducible repeat (first | refine bN ?_ _ | refine bD ?_ | refine bA ?_ _)); refine blk_far ?_ NB153_157.out _; (with_reducible repeat (first | refine bN ?_ _ | refine bD ?_ | refine bA ?_ _)); exact BK153.out⟩
    have n1_ : Aside0 (((w16.setCell ⟨gb157, 0, none⟩ (.int .u64 t155)).setCell ⟨gb157, 1, none⟩ (.int .u64 t156)).heap[gb154]? = some (.cells #[.int .u64 0, .int .u64 0] 24 (0, 0))) := ⟨by (with_reducible repeat (first | refine bN ?_ _ | refine bD ?_ | refine bA ?_ _)); refine blk_far ?_ NB154_157.out _; (with_reducible repeat (first | refine bN ?_ _ | refine bD ?_ | refine bA ?_ _)); refine blk_far ?_ NB154_157.out _; (with_reducible repeat (first | refine bN ?_ _ | refine bD ?_ | refine bA ?_ _)); exact BK154.out⟩
    have n2_ : Aside0 (((w16.setCell ⟨gb157, 0, none⟩ (.int .u64 t155)).setCell ⟨gb157, 1, none⟩ (.int .u64 t156)).heap[gb157]? = some (.cells #[.int .u64 t155, .int .u64 t156] 24 (0, 0))) := ⟨by (with_reducible repeat (first | refine bN ?_ _ | refine bD ?_ | refine bA ?_ _)); refine blk_put (cs := #[.int .u64 t155, .int .u64 0]) ?_ 1 _ rfl; (with_reducible repeat (first | refine bN ?_ _ | refine bD ?_ | refine bA ?_ _)); refine blk_put (cs := #[.int .u64 0, .int .u64 0]) ?_ 0 _ rfl; (with_reducible repeat (first | refine bN ?_ _ | refine bD ?_ | refine bA ?_ _)); exact BK157.out⟩
    have n3_ : Aside0 (Below w.heap.size w ((w16.setCell ⟨gb157, 0, none⟩ (.int .u64 t155)).setCell ⟨gb157, 1, none⟩ (.int .u64 t156))) := ⟨by repeat (first | (with_reducible first | exact HB.out | apply pA | apply pN | apply p1 | refine pS ?_ GE153.out | refine pS ?_ GE154.out | refine pS ?_ GE157.out) | exact HB.out)⟩
    (try clear BK153)
    (try clear BK154)
    (try clear BK157)
    (try clear HB)
    generalize ((w16.setCell ⟨gb157, 0, none⟩ (.int .u64 t155)).setCell ⟨gb157, 1, none⟩ (.int .u64 t156)) = w20 at n0_ n1_ n2_ n3_ ⊢
    have BK153 := n0_
    have BK154 := n1_
    have BK157 := n2_
    have HB := n3_
    clear n0_ n1_ n2_ n3_
    have n0_ := Aside0.mk (bD BK153.out)
    have n1_ := Aside0.mk (bD BK154.out)
    have n2_ := Aside0.mk (bD BK157.out)
    have n3_ := Aside0.mk (p1 HB.out)
    clear BK153
    clear BK154
    clear BK157
    clear HB
    have BK153 := n0_
    have BK154 := n1_
    have BK157 := n2_
    have HB := n3_
    clear n0_ n1_ n2_ n3_
    refine start_ (n := 9) (S := fun w' => w'.cell? ⟨gb157, 0, none⟩ = some (.int .u64 t155) ∧ w'.cell? ⟨gb157, 1, none⟩ = some (.int .u64 t156) ∧ w'.cell? ⟨gb153, 0, none⟩ = some (.int .u64 a0_0) ∧ w'.cell? ⟨gb153, 1, none⟩ = some (.int .u64 a0_1)) (ds := []) #[false, false, false, false, false, false, false, false, false] (by kernel_rfl) rfl rfl ⟨(blk_cell BK157.out 0).trans rfl, (blk_cell BK157.out 1).trans rfl, (blk_cell BK153.out 0).trans rfl, (blk_cell BK153.out 1).trans rfl⟩ (fun hHeld => ?_); refine with_tabW twin_Shr.tab5 twin_Shr.bits5 (fun HT_ HW_ => ?_)
    generalize w20.drew = w21 at BK153 BK154 BK157 HB hHeld ⊢
    refine pure_ (i := 2) (N := some 19) (v := ?_) (a' := ?_) #[false, false, true, false, false, false, false, false, false] rfl rfl (any_of HT_.out (by kernel_rfl)) (fun _ _ _ h => h) (Or.inl ⟨by rfl, ?_⟩) ?_ ?_
    rotate_left
    · intro w'
      go_simp
      with_reducible rfl
    rotate_left
    · simp only [Act.put, List.setIfInBounds_toArray, List.set_cons_zero, List.set_cons_succ, i64_w, i32_w]
      rfl
    refine take_ (i := 0) (N := some 17) (v := ?_) (a' := ?_) #[true, false, true, false, false, false, false, false, false] rfl rfl (take_ofW HT_.out HW_.out (by kernel_rfl)) (fun _ _ _ h => h) (Or.inl ⟨by rfl, ?_⟩) hHeld ?_ ?_
    rotate_left
    · rintro w' ⟨s0, s1, s2, s3⟩
      go_simp
      with_reducible rfl
    rotate_left
    · simp only [Act.put, List.setIfInBounds_toArray, List.set_cons_zero, List.set_cons_succ, i64_w, i32_w]
      rfl
    refine take_ (i := 1) (N := some 18) (v := ?_) (a' := ?_) #[true, true, true, false, false, false, false, false, false] rfl rfl (take_ofW HT_.out HW_.out (by kernel_rfl)) (fun _ _ _ h => h) (Or.inl ⟨by rfl, ?_⟩) hHeld ?_ ?_
    rotate_left
    · rintro w' ⟨s0, s1, s2, s3⟩
      go_simp
      with_reducible rfl
    rotate_left
    · simp only [Act.put, List.setIfInBounds_toArray, List.set_cons_zero, List.set_cons_succ, i64_w, i32_w]
      rfl
    refine take_ (i := 4) (N := some 21) (v := ?_) (a' := ?_) #[true, true, true, false, true, false, false, false, false] rfl rfl (take_ofW HT_.out HW_.out (by kernel_rfl)) (fun _ _ _ h => h) (Or.inl ⟨by rfl, ?_⟩) hHeld ?_ ?_
    rotate_left
    · rintro w' ⟨s0, s1, s2, s3⟩
      go_simp
      with_reducible rfl
    rotate_left
    · simp only [Act.put, List.setIfInBounds_toArray, List.set_cons_zero, List.set_cons_succ, i64_w, i32_w]
      rfl
    refine one_ (i := 3) (N := some 20) #[true, true, true, true, true, false, false, false, false] rfl rfl (one_of HT_.out (by kernel_rfl)) (by decide) (fun K hK => ?_)
    refine goes_ Try.func26 (by kernel_rfl) rfl #[.agg #[.int .u64 t155, .int .u64 t156], .int .i64 ji8] (by rfl) rfl rfl (by (try simp only [List.map_toArray, List.map_cons, List.map_nil]); first | done | (simp only [hji8]; rfl) | rfl | (simp only [List.length_drop, List.length_take]; rfl)) ?_
    with_reducible refine (twin_shl.calls t155 t156 ji8 t158 t159 _ A10.out).mono ?_
    rintro e w22 ⟨rfl, hb⟩
    refine ⟨_, rfl, ?_⟩
    have n0_ := Aside0.mk (bB3 BK153.out hb)
    have n1_ := Aside0.mk (bB3 BK154.out hb)
    have n2_ := Aside0.mk (bB3 BK157.out hb)
    have n3_ := Aside0.mk (bS3 HB.out hb)
    clear BK153
    clear BK154
    clear BK157
    clear HB
    have BK153 := n0_
    have BK154 := n1_
    have BK157 := n2_
    have HB := n3_
    clear n0_ n1_ n2_ n3_
    (try clear hb)
    (try clear hb2)
    (try clear hk)
    (try clear hi)
    refine hK.out _ _ ⟨(blk_cell BK157.out 0).trans rfl, (blk_cell BK157.out 1).trans rfl, (blk_cell BK153.out 0).trans rfl, (blk_cell BK153.out 1).trans rfl⟩ (fun hHeld => ?_)
    clear hK K
    refine norm_ (a' := ?_) ?_ ?_
    rotate_left
    · show Act.put _ (some 20) _ = _
      simp only [Act.put, List.setIfInBounds_toArray, List.set_cons_zero, List.set_cons_succ, i64_w, i32_w]
      rfl
    refine pure_ (i := 5) (N := some 22) (v := ?_) (a' := ?_) #[true, true, true, true, true, true, false, false, false] rfl rfl (any_of HT_.out (by kernel_rfl)) (fun _ _ _ h => h) (Or.inl ⟨by rfl, ?_⟩) ?_ ?_
    rotate_left
    · intro w'
      go_simp
      with_reducible rfl
    rotate_left
    · simp only [Act.put, List.setIfInBounds_toArray, List.set_cons_zero, List.set_cons_succ, i64_w, i32_w]
      rfl
    refine one_ (i := 6) (N := none) #[true, true, true, true, true, true, true, false, false] rfl rfl (one_of HT_.out (by kernel_rfl)) (by decide) (fun K hK => ?_)
    have hs23 : w22.cell? ⟨gb154, 0, none⟩ = some (.int .u64 0) := (blk_cell BK154.out 0).trans rfl
    have hfs23 := blk_frozen BK154.out 0
    have hns23_0 := NB153_154.out
    have hns23_2 := NB157_154.out
    have hms23_0 := NB154_153.out
    have hms23_2 := NB154_157.out
    have hs24 : w22.cell? ⟨gb154, 1, none⟩ = some (.int .u64 0) := (blk_cell BK154.out 1).trans rfl
    have hfs24 := blk_frozen BK154.out 1
    have hns24_0 := NB153_154.out
    have hns24_2 := NB157_154.out
    have hms24_0 := NB154_153.out
    have hms24_2 := NB154_157.out
    refine skip_ (w1 := ?_) (by rfl) rfl ?_ ?_
    rotate_left
    · go_simp
      rfl
    refine hK.out _ _ ⟨((cell_far (p := ⟨gb154, _, none⟩) NB157_154.out _).trans (((cell_far (p := ⟨gb154, _, none⟩) NB157_154.out _).trans (hHeld.1)))), ((cell_far (p := ⟨gb154, _, none⟩) NB157_154.out _).trans (((cell_far (p := ⟨gb154, _, none⟩) NB157_154.out _).trans (hHeld.2.1)))), ((cell_far (p := ⟨gb154, _, none⟩) NB153_154.out _).trans (((cell_far (p := ⟨gb154, _, none⟩) NB153_154.out _).trans (hHeld.2.2.1)))), ((cell_far (p := ⟨gb154, _, none⟩) NB153_154.out _).trans (((cell_far (p := ⟨gb154, _, none⟩) NB153_154.out _).trans (hHeld.2.2.2))))⟩ (fun hHeld => ?_)
    clear hK K
    refine pure_ (i := 7) (N := some 5) (v := ?_) (a' := ?_) #[true, true, true, true, true, true, true, true, false] rfl rfl (any_of HT_.out (by kernel_rfl)) (fun _ _ _ h => h) (Or.inl ⟨by rfl, ?_⟩) ?_ ?_
    rotate_left
    · intro w'
      go_simp
      with_reducible rfl
    rotate_left
    · simp only [Act.put, List.setIfInBounds_toArray, List.set_cons_zero, List.set_cons_succ, i64_w, i32_w]
      rfl
    refine pure_ (i := 8) (N := some 6) (v := ?_) (a' := ?_) #[true, true, true, true, true, true, true, true, true] rfl rfl (any_of HT_.out (by kernel_rfl)) (fun _ _ _ h => h) (Or.inl ⟨by rfl, ?_⟩) ?_ ?_
    rotate_left
    · intro w'
      go_simp
      with_reducible rfl
    rotate_left
    · simp only [Act.put, List.setIfInBounds_toArray, List.set_cons_zero, List.set_cons_succ, i64_w, i32_w]
      rfl
    refine done_ (done_of HT_.out (by kernel_rfl)) ?_
    try go_wp2
    refine bodyPost_ret (results_ctt rfl _ _ gb154 24 #[.int .u64 t155, .int .u64 t156] (0, 0) _ rfl (by (with_reducible repeat (first | refine bN ?_ _ | refine bD ?_ | refine bA ?_ _)); refine blk_put (cs := #[.int .u64 t155, .int .u64 0]) ?_ 1 _ rfl; (with_reducible repeat (first | refine bN ?_ _ | refine bD ?_ | refine bA ?_ _)); refine blk_put (cs := #[.int .u64 0, .int .u64 0]) ?_ 0 _ rfl; (with_reducible repeat (first | refine bN ?_ _ | refine bD ?_ | refine bA ?_ _)); exact BK154.out) Try.underlying24 rfl (by kernel_rfl)) rfl ?_
    exact ⟨by first | rfl | (simp [errW_none, errW_some] <;> rfl) | (simp only [← hji8]; first | rfl | (simp [errW_none, errW_some] <;> rfl)) | (simp [*, errW_none, errW_some] <;> rfl), by repeat (first | (with_reducible first | exact HB.out | apply pA | apply pN | apply p1 | refine pS ?_ GE153.out | refine pS ?_ GE154.out | refine pS ?_ GE157.out) | exact HB.out)⟩

/-! ### twin_Add: function 13 -/
def twin_Add.f (a0_0 : Int) (a0_1 : Int) (a1_0 : Int) (a1_1 : Int) : Option (Int × Int × Bool) := (bits_Add64.f a0_1 a1_1 0).bind fun bt353 => ((bits_Add64.f a0_0 a1_0 bt353.2).bind fun bt355 => (some (bt355.1, bt353.1, (bt355.2 == 1))))
set_option maxHeartbeats 8000000 in
set_option maxRecDepth 100000 in
theorem twin_Add.calls (a0_0 : Int) (a0_1 : Int) (a1_0 : Int) (a1_1 : Int) (r1 : Int) (r2 : Int) (r3 : Bool) (w : World) (h : twin_Add.f a0_0 a0_1 a1_0 a1_1 = some (r1, r2, r3)) :
    Calls Try.prog 13 #[.agg #[.int .u64 a0_0, .int .u64 a0_1], .agg #[.int .u64 a1_0, .int .u64 a1_1]] w fun e w' => e = .returned (.tuple #[.agg #[.int .u64 r1, .int .u64 r2], .bool r3]) ∧ Below w.heap.size w w' := by
  have hu24 := Try.underlying24
  have HB := Aside0.mk (Below.refl w.heap.size w)
  have H : ((bits_Add64.f a0_1 a1_1 0).bind fun bt353 => ((bits_Add64.f a0_0 a1_0 bt353.2).bind fun bt355 => (some (bt355.1, bt353.1, (bt355.2 == 1))))) = some (r1, r2, r3) := h
  clear h
  replace H := Option.bind_eq_some_iff.mp H
  obtain ⟨⟨t353, t354⟩, A30, H⟩ := H
  replace H : ((bits_Add64.f a0_0 a1_0 t354).bind fun bt355 => (some (bt355.1, t353, (bt355.2 == 1)))) = some (r1, r2, r3) := H
  have A3 := Aside0.mk A30
  clear A30
  replace H := Option.bind_eq_some_iff.mp H
  obtain ⟨⟨t355, t356⟩, A40, H⟩ := H
  replace H : (some (t355, t353, (t356 == 1))) = some (r1, r2, r3) := H
  have A4 := Aside0.mk A40
  clear A40
  simp only [Option.some.injEq, Prod.mk.injEq] at H
  obtain ⟨rfl, rfl, rfl⟩ := H
  go_enter Try.func13, Try.ntmps13
  go_wp2_with (first | ((with_reducible refine gD (N := 2) rfl ?_); refine bE3 2 #[.int .u64 a0_0, .int .u64 a0_1] 24 ?hr ?_; (case hr => first | (go_simp; done) | (go_simp; rfl)); intro gb350 hg w5 hbox hb; have n0_ := Aside0.mk (bS3 HB.out hb); have n1_ := Aside0.mk (hbox); have n2_ := Aside0.mk ((bZ3 hg HB.out)); have n3_ := Aside0.mk ((bZ3 hg HB.out)); clear HB; have HB := n0_; have BK350 := n1_; have GW350 := n2_; have GE350 := n3_; clear n0_ n1_ n2_ n3_; clear hb hbox hg) | ((with_reducible refine gD (N := 3) rfl ?_); refine bE3 3 #[.int .u64 a1_0, .int .u64 a1_1] 24 ?hr ?_; (case hr => first | (go_simp; done) | (go_simp; rfl)); intro gb351 hg w6 hbox hb; have n0_ := Aside0.mk (bB3 BK350.out hb); have n1_ := Aside0.mk (bS3 HB.out hb); have n2_ := Aside0.mk (hbox); have n3_ := Aside0.mk ((bZ3 hg HB.out)); have n4_ := Aside0.mk ((bZ3 hg HB.out)); have n5_ := Aside0.mk ((bL3 hg BK350.out)); have n6_ := Aside0.mk ((bG3 hg BK350.out)); clear BK350; clear HB; have BK350 := n0_; have HB := n1_; have BK351 := n2_; have GW351 := n3_; have GE351 := n4_; have NB350_351 := n5_; have NB351_350 := n6_; clear n0_ n1_ n2_ n3_ n4_ n5_ n6_; clear hb hbox hg) | ((with_reducible refine gD (N := 4) rfl ?_); refine bE3 4 #[.int .u64 0, .int .u64 0] 24 ?hr ?_; (case hr => first | (go_simp; done) | (go_simp; rfl)); intro gb352 hg w7 hbox hb; have n0_ := Aside0.mk (bB3 BK350.out hb); have n1_ := Aside0.mk (bB3 BK351.out hb); have n2_ := Aside0.mk (bS3 HB.out hb); have n3_ := Aside0.mk (hbox); have n4_ := Aside0.mk ((bZ3 hg HB.out)); have n5_ := Aside0.mk ((bZ3 hg HB.out)); have n6_ := Aside0.mk ((bL3 hg BK350.out)); have n7_ := Aside0.mk ((bG3 hg BK350.out)); have n8_ := Aside0.mk ((bL3 hg BK351.out)); have n9_ := Aside0.mk ((bG3 hg BK351.out)); clear BK350; clear BK351; clear HB; have BK350 := n0_; have BK351 := n1_; have HB := n2_; have BK352 := n3_; have GW352 := n4_; have GE352 := n5_; have NB350_352 := n6_; have NB352_350 := n7_; have NB351_352 := n8_; have NB352_351 := n9_; clear n0_ n1_ n2_ n3_ n4_ n5_ n6_ n7_ n8_ n9_; clear hb hbox hg; have hnb8 := NB350_351.out; have hnc8 := NB351_350.out; have hnb9 := NB350_352.out; have hnc9 := NB352_350.out; have hcz10_0 : w7.cell? ⟨gb350, 0, none⟩ = some (.int .u64 a0_0) := (blk_cell BK350.out 0).trans rfl; have hcz10_1 : w7.cell? ⟨gb350, 1, none⟩ = some (.int .u64 a0_1) := (blk_cell BK350.out 1).trans rfl; have hfz10_0 := blk_frozen BK350.out 0; have hfz10_1 := blk_frozen BK350.out 1; have hnb11 := NB351_352.out; have hnc11 := NB352_351.out; have hcz12_0 : w7.cell? ⟨gb351, 0, none⟩ = some (.int .u64 a1_0) := (blk_cell BK351.out 0).trans rfl; have hcz12_1 : w7.cell? ⟨gb351, 1, none⟩ = some (.int .u64 a1_1) := (blk_cell BK351.out 1).trans rfl; have hfz12_0 := blk_frozen BK351.out 0; have hfz12_1 := blk_frozen BK351.out 1) | ((with_reducible refine gC (f := 28) rfl ?_); (with_reducible refine gD (N := 14) rfl ?_); refine goesX_ (some 14) #[.int .u64 a0_1, .int .u64 a1_1, .int .u64 0] ?_; (with_reducible refine (bits_Add64.calls a0_1 a1_1 0 t353 t354 _ A3.out).mono ?_); rintro e w' ⟨rfl, rfl⟩; refine ⟨_, rfl, ?_⟩) | ((with_reducible refine gC (f := 28) rfl ?_); (with_reducible refine gD (N := 23) rfl ?_); refine goesX_ (some 23) #[.int .u64 a0_0, .int .u64 a1_0, .int .u64 t354] ?_; (with_reducible refine (bits_Add64.calls a0_0 a1_0 t354 t355 t356 _ A4.out).mono ?_); rintro e w' ⟨rfl, rfl⟩; refine ⟨_, rfl, ?_⟩; have hcz13_0 : w7.cell? ⟨gb352, 0, none⟩ = some (.int .u64 0) := (blk_cell BK352.out 0).trans rfl; have hcz13_1 : w7.cell? ⟨gb352, 1, none⟩ = some (.int .u64 0) := (blk_cell BK352.out 1).trans rfl; have hfz13_0 := blk_frozen BK352.out 0; have hfz13_1 := blk_frozen BK352.out 1))
  refine bodyPost_ret (results_ct rfl _ _ gb352 24 #[.int .u64 t355, .int .u64 t353] (0, 0) _ rfl (by (with_reducible repeat (first | refine bN ?_ _ | refine bD ?_ | refine bA ?_ _)); refine blk_put (cs := #[.int .u64 t355, .int .u64 0]) ?_ 1 _ rfl; (with_reducible repeat (first | refine bN ?_ _ | refine bD ?_ | refine bA ?_ _)); refine blk_put (cs := #[.int .u64 0, .int .u64 0]) ?_ 0 _ rfl; (with_reducible repeat (first | refine bN ?_ _ | refine bD ?_ | refine bA ?_ _)); exact BK352.out) Try.underlying24 rfl (by kernel_rfl)) rfl ?_
  exact ⟨by first | rfl | (simp [errW_none, errW_some] <;> rfl) | (simp [*, errW_none, errW_some] <;> rfl), by repeat (first | (with_reducible first | exact HB.out | apply pA | apply pN | apply p1 | refine pS ?_ GE350.out | refine pS ?_ GE351.out | refine pS ?_ GE352.out) | exact HB.out)⟩

end Go.Proofs.Ytcnpnnodgfpheaa.F
