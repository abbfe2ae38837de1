/- Functions of the given program as plain Lean functions, and for each a proof that the program's call comes to just these answers; no further conditions. (Written by a program of this repo out of the translation.) -/
import Derived.Test.YtjbcfiigafbobaaF0
import Derived.Test.YtjbcfiigafbobaaF1
import Derived.Test.YtjbcfiigafbobaaF3
namespace Go.Proofs.Ytjbcfiigafbobaa.F
open Go.RowKit Go.Proofs.YtjbcfiigafbobaaW.PrintWords Go.Proofs.YtjbcfiigafbobaaW.PrintLast Go.Proofs.YtjbcfiigafbobaaW.PrintMore
attribute [local go_sem high] xor_u64 xor_u32 eqErr29 neErr29 eqErrL29 neErrL29
attribute [local go_sem] max2_int min2_int max_two min_two max_three min_three max_four min_four   -- for this text's walks alone
set_option linter.unusedVariables false
set_option linter.unusedSimpArgs false

attribute [local go_sem high] eqA25
/-! ### twin_Mul: function 23 -/
def twin_Mul.f (a0 : Int) (a1 : Int) : Option (Int × Int) := (bits_Mul64.f a0 a1).bind fun bt102 => (some (bt102.1, bt102.2))
set_option maxHeartbeats 8000000 in
set_option maxRecDepth 100000 in
theorem twin_Mul.calls (a0 : Int) (a1 : Int) (r1 : Int) (r2 : Int) (w : World) (h : twin_Mul.f a0 a1 = some (r1, r2)) :
    Calls Try.prog 23 #[.int .u64 a0, .int .u64 a1] w fun e w' => e = .returned (.agg #[.int .u64 r1, .int .u64 r2]) ∧ Below w.heap.size w w' := by
  have hu25 := Try.underlying25
  have HB := Aside0.mk (Below.refl w.heap.size w)
  have H : ((bits_Mul64.f a0 a1).bind fun bt102 => (some (bt102.1, bt102.2))) = some (r1, r2) := h
  clear h
  replace H := Option.bind_eq_some_iff.mp H
  obtain ⟨⟨t102, t103⟩, A30, H⟩ := H
  replace H : (some (t102, t103)) = some (r1, r2) := H
  have A3 := Aside0.mk A30
  clear A30
  simp only [Option.some.injEq, Prod.mk.injEq] at H
  obtain ⟨rfl, rfl⟩ := H
  go_enter Try.func23, Try.ntmps23
  go_wp2_with (first | ((with_reducible refine gD (N := 4) rfl ?_); refine bE3 4 #[.int .u64 0, .int .u64 0] 25 ?hr ?_; (case hr => first | (go_simp; done) | (go_simp; rfl)); intro gb101 hg w4 hbox hb; have n0_ := Aside0.mk (bS3 HB.out hb); have n1_ := Aside0.mk (hbox); have n2_ := Aside0.mk ((bZ3 hg HB.out)); have n3_ := Aside0.mk ((bZ3 hg HB.out)); clear HB; have HB := n0_; have BK101 := n1_; have GW101 := n2_; have GE101 := n3_; clear n0_ n1_ n2_ n3_; clear hb hbox hg) | ((with_reducible refine gC (f := 67) rfl ?_); refine goesY_ (some 10) Try.func67 #[.int .u64 a0, .int .u64 a1] ?_; (with_reducible refine (bits_Mul64.calls a0 a1 t102 t103 _ A3.out).mono ?_); rintro e w' ⟨rfl, ⟨nd, rfl⟩⟩; refine ⟨_, rfl, ?_⟩; (try (rw [drewN_self w4]; generalize hq_ : World.drewN w4 _ = w4; have n0_ : Aside0 (w4.heap[gb101]? = some (.cells #[.int .u64 0, .int .u64 0] 25 (0, 0))) := ⟨by rw [← hq_]; exact (by (with_reducible repeat (first | refine bN ?_ _ | refine bD ?_ | refine bA ?_ _)); exact BK101.out)⟩; have n1_ : Aside0 (Below w.heap.size w w4) := ⟨by rw [← hq_]; exact (by repeat (first | (with_reducible first | exact HB.out | apply pA | apply pN | apply p1 | refine pS ?_ GE101.out) | exact HB.out))⟩; clear BK101 HB hq_; have BK101 := n0_; have HB := n1_; clear n0_ n1_)); have hcz5_0 : w4.cell? ⟨gb101, 0, none⟩ = some (.int .u64 0) := (blk_cell BK101.out 0).trans rfl; have hcz5_1 : w4.cell? ⟨gb101, 1, none⟩ = some (.int .u64 0) := (blk_cell BK101.out 1).trans rfl; have hfz5_0 := blk_frozen BK101.out 0; have hfz5_1 := blk_frozen BK101.out 1))
  refine bodyPost_ret (results_cell_row rfl _ _ gb101 25 #[.int .u64 t102, .int .u64 t103] (0, 0) _ rfl (by (with_reducible repeat (first | refine bN ?_ _ | refine bD ?_ | refine bA ?_ _)); refine blk_put (cs := #[.int .u64 t102, .int .u64 0]) ?_ 1 _ rfl; (with_reducible repeat (first | refine bN ?_ _ | refine bD ?_ | refine bA ?_ _)); refine blk_put (cs := #[.int .u64 0, .int .u64 0]) ?_ 0 _ rfl; (with_reducible repeat (first | refine bN ?_ _ | refine bD ?_ | refine bA ?_ _)); exact BK101.out) Try.underlying25 rfl (by kernel_rfl)) rfl ?_
  exact ⟨by first | rfl | (simp [errW_none, errW_some] <;> rfl) | (simp [*, errW_none, errW_some] <;> rfl), by repeat (first | (with_reducible first | exact HB.out | apply pA | apply pN | apply p1 | refine pS ?_ GE101.out) | exact HB.out)⟩

/-! ### twin_Add: function 35 -/
def twin_Add.f (a0_0 : Int) (a0_1 : Int) (a1_0 : Int) (a1_1 : Int) : Option (Int × Int × Bool) := (bits_Add64.f a0_1 a1_1 0).bind fun bt107 => ((bits_Add64.f a0_0 a1_0 bt107.2).bind fun bt109 => (some (bt109.1, bt107.1, (bt109.2 == 1))))
set_option maxHeartbeats 8000000 in
set_option maxRecDepth 100000 in
theorem twin_Add.calls (a0_0 : Int) (a0_1 : Int) (a1_0 : Int) (a1_1 : Int) (r1 : Int) (r2 : Int) (r3 : Bool) (w : World) (h : twin_Add.f a0_0 a0_1 a1_0 a1_1 = some (r1, r2, r3)) :
    Calls Try.prog 35 #[.agg #[.int .u64 a0_0, .int .u64 a0_1], .agg #[.int .u64 a1_0, .int .u64 a1_1]] w fun e w' => e = .returned (.tuple #[.agg #[.int .u64 r1, .int .u64 r2], .bool r3]) ∧ Below w.heap.size w w' := by
  have hu25 := Try.underlying25
  have HB := Aside0.mk (Below.refl w.heap.size w)
  have H : ((bits_Add64.f a0_1 a1_1 0).bind fun bt107 => ((bits_Add64.f a0_0 a1_0 bt107.2).bind fun bt109 => (some (bt109.1, bt107.1, (bt109.2 == 1))))) = some (r1, r2, r3) := h
  clear h
  replace H := Option.bind_eq_some_iff.mp H
  obtain ⟨⟨t107, t108⟩, A30, H⟩ := H
  replace H : ((bits_Add64.f a0_0 a1_0 t108).bind fun bt109 => (some (bt109.1, t107, (bt109.2 == 1)))) = some (r1, r2, r3) := H
  have A3 := Aside0.mk A30
  clear A30
  replace H := Option.bind_eq_some_iff.mp H
  obtain ⟨⟨t109, t110⟩, A40, H⟩ := H
  replace H : (some (t109, t107, (t110 == 1))) = some (r1, r2, r3) := H
  have A4 := Aside0.mk A40
  clear A40
  simp only [Option.some.injEq, Prod.mk.injEq] at H
  obtain ⟨rfl, rfl, rfl⟩ := H
  go_enter Try.func35, Try.ntmps35
  go_wp2_with (first | ((with_reducible refine gD (N := 2) rfl ?_); refine bE3 2 #[.int .u64 a0_0, .int .u64 a0_1] 25 ?hr ?_; (case hr => first | (go_simp; done) | (go_simp; rfl)); intro gb104 hg w5 hbox hb; have n0_ := Aside0.mk (bS3 HB.out hb); have n1_ := Aside0.mk (hbox); have n2_ := Aside0.mk ((bZ3 hg HB.out)); have n3_ := Aside0.mk ((bZ3 hg HB.out)); clear HB; have HB := n0_; have BK104 := n1_; have GW104 := n2_; have GE104 := n3_; clear n0_ n1_ n2_ n3_; clear hb hbox hg) | ((with_reducible refine gD (N := 3) rfl ?_); refine bE3 3 #[.int .u64 a1_0, .int .u64 a1_1] 25 ?hr ?_; (case hr => first | (go_simp; done) | (go_simp; rfl)); intro gb105 hg w6 hbox hb; have n0_ := Aside0.mk (bB3 BK104.out hb); have n1_ := Aside0.mk (bS3 HB.out hb); have n2_ := Aside0.mk (hbox); have n3_ := Aside0.mk ((bZ3 hg HB.out)); have n4_ := Aside0.mk ((bZ3 hg HB.out)); have n5_ := Aside0.mk ((bL3 hg BK104.out)); have n6_ := Aside0.mk ((bG3 hg BK104.out)); clear BK104; clear HB; have BK104 := n0_; have HB := n1_; have BK105 := n2_; have GW105 := n3_; have GE105 := n4_; have NB104_105 := n5_; have NB105_104 := n6_; clear n0_ n1_ n2_ n3_ n4_ n5_ n6_; clear hb hbox hg) | ((with_reducible refine gD (N := 4) rfl ?_); refine bE3 4 #[.int .u64 0, .int .u64 0] 25 ?hr ?_; (case hr => first | (go_simp; done) | (go_simp; rfl)); intro gb106 hg w7 hbox hb; have n0_ := Aside0.mk (bB3 BK104.out hb); have n1_ := Aside0.mk (bB3 BK105.out hb); have n2_ := Aside0.mk (bS3 HB.out hb); have n3_ := Aside0.mk (hbox); have n4_ := Aside0.mk ((bZ3 hg HB.out)); have n5_ := Aside0.mk ((bZ3 hg HB.out)); have n6_ := Aside0.mk ((bL3 hg BK104.out)); have n7_ := Aside0.mk ((bG3 hg BK104.out)); have n8_ := Aside0.mk ((bL3 hg BK105.out)); have n9_ := Aside0.mk ((bG3 hg BK105.out)); clear BK104; clear BK105; clear HB; have BK104 := n0_; have BK105 := n1_; have HB := n2_; have BK106 := n3_; have GW106 := n4_; have GE106 := n5_; have NB104_106 := n6_; have NB106_104 := n7_; have NB105_106 := n8_; have NB106_105 := n9_; clear n0_ n1_ n2_ n3_ n4_ n5_ n6_ n7_ n8_ n9_; clear hb hbox hg; have hnb8 := NB104_105.out; have hnc8 := NB105_104.out; have hnb9 := NB104_106.out; have hnc9 := NB106_104.out; have hcz10_0 : w7.cell? ⟨gb104, 0, none⟩ = some (.int .u64 a0_0) := (blk_cell BK104.out 0).trans rfl; have hcz10_1 : w7.cell? ⟨gb104, 1, none⟩ = some (.int .u64 a0_1) := (blk_cell BK104.out 1).trans rfl; have hfz10_0 := blk_frozen BK104.out 0; have hfz10_1 := blk_frozen BK104.out 1; have hnb11 := NB105_106.out; have hnc11 := NB106_105.out; have hcz12_0 : w7.cell? ⟨gb105, 0, none⟩ = some (.int .u64 a1_0) := (blk_cell BK105.out 0).trans rfl; have hcz12_1 : w7.cell? ⟨gb105, 1, none⟩ = some (.int .u64 a1_1) := (blk_cell BK105.out 1).trans rfl; have hfz12_0 := blk_frozen BK105.out 0; have hfz12_1 := blk_frozen BK105.out 1) | ((with_reducible refine gC (f := 76) rfl ?_); refine goesX_ (some 14) #[.int .u64 a0_1, .int .u64 a1_1, .int .u64 0] ?_; (with_reducible refine (bits_Add64.calls a0_1 a1_1 0 t107 t108 _ A3.out).mono ?_); rintro e w' ⟨rfl, rfl⟩; refine ⟨_, rfl, ?_⟩) | ((with_reducible refine gC (f := 76) rfl ?_); refine goesX_ (some 23) #[.int .u64 a0_0, .int .u64 a1_0, .int .u64 t108] ?_; (with_reducible refine (bits_Add64.calls a0_0 a1_0 t108 t109 t110 _ A4.out).mono ?_); rintro e w' ⟨rfl, rfl⟩; refine ⟨_, rfl, ?_⟩; have hcz13_0 : w7.cell? ⟨gb106, 0, none⟩ = some (.int .u64 0) := (blk_cell BK106.out 0).trans rfl; have hcz13_1 : w7.cell? ⟨gb106, 1, none⟩ = some (.int .u64 0) := (blk_cell BK106.out 1).trans rfl; have hfz13_0 := blk_frozen BK106.out 0; have hfz13_1 := blk_frozen BK106.out 1))
  refine bodyPost_ret (results_ct rfl _ _ gb106 25 #[.int .u64 t109, .int .u64 t107] (0, 0) _ rfl (by (with_reducible repeat (first | refine bN ?_ _ | refine bD ?_ | refine bA ?_ _)); refine blk_put (cs := #[.int .u64 t109, .int .u64 0]) ?_ 1 _ rfl; (with_reducible repeat (first | refine bN ?_ _ | refine bD ?_ | refine bA ?_ _)); refine blk_put (cs := #[.int .u64 0, .int .u64 0]) ?_ 0 _ rfl; (with_reducible repeat (first | refine bN ?_ _ | refine bD ?_ | refine bA ?_ _)); exact BK106.out) Try.underlying25 rfl (by kernel_rfl)) rfl ?_
  exact ⟨by first | rfl | (simp [errW_none, errW_some] <;> rfl) | (simp [*, errW_none, errW_some] <;> rfl), by repeat (first | (with_reducible first | exact HB.out | apply pA | apply pN | apply p1 | refine pS ?_ GE104.out | refine pS ?_ GE105.out | refine pS ?_ GE106.out) | exact HB.out)⟩

/-! ### twin_Cmp: function 31 -/
def twin_Cmp.f (a0_0 : Int) (a0_1 : Int) (a1_0 : Int) (a1_1 : Int) : Option (Int) := if (a0_0 == a1_0 && (a0_1 == a1_1)) = true then (some 0) else (if a0_0 < a1_0 then (some (-1)) else (if a0_0 = a1_0 then (if a0_1 < a1_1 then (some (-1)) else (some 1)) else (some 1)))
set_option maxHeartbeats 8000000 in
set_option maxRecDepth 100000 in
theorem twin_Cmp.calls (a0_0 : Int) (a0_1 : Int) (a1_0 : Int) (a1_1 : Int) (r : Int) (w : World) (h : twin_Cmp.f a0_0 a0_1 a1_0 a1_1 = some r) :
    Calls Try.prog 31 #[.agg #[.int .u64 a0_0, .int .u64 a0_1], .agg #[.int .u64 a1_0, .int .u64 a1_1]] w fun e w' => e = .returned (.int .i64 r) ∧ Below w.heap.size w w' := by
  have hu25 := Try.underlying25
  have HB := Aside0.mk (Below.refl w.heap.size w)
  have H : (if (a0_0 == a1_0 && (a0_1 == a1_1)) = true then (some 0) else (if a0_0 < a1_0 then (some (-1)) else (if a0_0 = a1_0 then (if a0_1 < a1_1 then (some (-1)) else (some 1)) else (some 1)))) = some r := h
  clear h
  by_cases c3 : (a0_0 == a1_0 && (a0_1 == a1_1)) = true
  · rw [if_pos c3] at H
    have c3b0 : (a0_0 == a1_0 && (a0_1 == a1_1)) = true := c3
    (try (have c3b1 : decide (a0_0 = a1_0 && (a0_1 == a1_1)) = true := by simpa using c3))
    (try (have c3b2 : (a0_0 == a1_0 && (a0_1 == a1_1)) = true := by simpa using c3))
    clear c3
    obtain rfl := Option.some.inj H
    (try (have z_ := c3b0; simp only [c15b0, Bool.true_and] at z_))
    go_enter Try.func31, Try.ntmps31
    go_wp2_with (first | ((with_reducible refine gD (N := 2) rfl ?_); refine bE3 2 #[.int .u64 a0_0, .int .u64 a0_1] 25 ?hr ?_; (case hr => first | (go_simp; done) | (go_simp; rfl)); intro gb211 hg w4 hbox hb; have n0_ := Aside0.mk (bS3 HB.out hb); have n1_ := Aside0.mk (hbox); have n2_ := Aside0.mk ((bZ3 hg HB.out)); have n3_ := Aside0.mk ((bZ3 hg HB.out)); clear HB; have HB := n0_; have BK211 := n1_; have GW211 := n2_; have GE211 := n3_; clear n0_ n1_ n2_ n3_; clear hb hbox hg) | ((with_reducible refine gD (N := 3) rfl ?_); refine bE3 3 #[.int .u64 a1_0, .int .u64 a1_1] 25 ?hr ?_; (case hr => first | (go_simp; done) | (go_simp; rfl)); intro gb212 hg w5 hbox hb; have n0_ := Aside0.mk (bB3 BK211.out hb); have n1_ := Aside0.mk (bS3 HB.out hb); have n2_ := Aside0.mk (hbox); have n3_ := Aside0.mk ((bZ3 hg HB.out)); have n4_ := Aside0.mk ((bZ3 hg HB.out)); have n5_ := Aside0.mk ((bL3 hg BK211.out)); have n6_ := Aside0.mk ((bG3 hg BK211.out)); clear BK211; clear HB; have BK211 := n0_; have HB := n1_; have BK212 := n2_; have GW212 := n3_; have GE212 := n4_; have NB211_212 := n5_; have NB212_211 := n6_; clear n0_ n1_ n2_ n3_ n4_ n5_ n6_; clear hb hbox hg; have hnb6 := NB211_212.out; have hnc6 := NB212_211.out; have hcz7_0 : w5.cell? ⟨gb211, 0, none⟩ = some (.int .u64 a0_0) := (blk_cell BK211.out 0).trans rfl; have hcz7_1 : w5.cell? ⟨gb211, 1, none⟩ = some (.int .u64 a0_1) := (blk_cell BK211.out 1).trans rfl; have hfz7_0 := blk_frozen BK211.out 0; have hfz7_1 := blk_frozen BK211.out 1; have hcz8_0 : w5.cell? ⟨gb212, 0, none⟩ = some (.int .u64 a1_0) := (blk_cell BK212.out 0).trans rfl; have hcz8_1 : w5.cell? ⟨gb212, 1, none⟩ = some (.int .u64 a1_1) := (blk_cell BK212.out 1).trans rfl; have hfz8_0 := blk_frozen BK212.out 0; have hfz8_1 := blk_frozen BK212.out 1))
    go_ret
    exact ⟨by first | rfl | (simp [errW_none, errW_some] <;> rfl) | (simp [*, errW_none, errW_some] <;> rfl), by repeat (first | (with_reducible first | exact HB.out | apply pA | apply pN | apply p1 | refine pS ?_ GE211.out | refine pS ?_ GE212.out) | exact HB.out)⟩
  · rw [if_neg c3] at H
    have c3b0 : (a0_0 == a1_0 && (a0_1 == a1_1)) = false := by simpa using c3
    (try (have c3b1 : decide (a0_0 = a1_0 && (a0_1 == a1_1)) = false := by simpa using c3))
    (try (have c3b2 : (a0_0 == a1_0 && (a0_1 == a1_1)) = false := by simpa using c3))
    (try (have c3b3 : ¬ (a0_0 = a1_0 && (a0_1 == a1_1)) := by simpa using c3))
    clear c3
    by_cases c9 : a0_0 < a1_0
    · rw [if_pos c9] at H
      have c9b0 : decide (a0_0 < a1_0) = true := decide_eq_true c9
      clear c9
      obtain rfl := Option.some.inj H
      (try (have z_ := c3b0; simp only [c15b0, Bool.true_and] at z_))
      go_enter Try.func31, Try.ntmps31
      go_wp2_with (first | ((with_reducible refine gD (N := 2) rfl ?_); refine bE3 2 #[.int .u64 a0_0, .int .u64 a0_1] 25 ?hr ?_; (case hr => first | (go_simp; done) | (go_simp; rfl)); intro gb211 hg w10 hbox hb; have n0_ := Aside0.mk (bS3 HB.out hb); have n1_ := Aside0.mk (hbox); have n2_ := Aside0.mk ((bZ3 hg HB.out)); have n3_ := Aside0.mk ((bZ3 hg HB.out)); clear HB; have HB := n0_; have BK211 := n1_; have GW211 := n2_; have GE211 := n3_; clear n0_ n1_ n2_ n3_; clear hb hbox hg) | ((with_reducible refine gD (N := 3) rfl ?_); refine bE3 3 #[.int .u64 a1_0, .int .u64 a1_1] 25 ?hr ?_; (case hr => first | (go_simp; done) | (go_simp; rfl)); intro gb212 hg w11 hbox hb; have n0_ := Aside0.mk (bB3 BK211.out hb); have n1_ := Aside0.mk (bS3 HB.out hb); have n2_ := Aside0.mk (hbox); have n3_ := Aside0.mk ((bZ3 hg HB.out)); have n4_ := Aside0.mk ((bZ3 hg HB.out)); have n5_ := Aside0.mk ((bL3 hg BK211.out)); have n6_ := Aside0.mk ((bG3 hg BK211.out)); clear BK211; clear HB; have BK211 := n0_; have HB := n1_; have BK212 := n2_; have GW212 := n3_; have GE212 := n4_; have NB211_212 := n5_; have NB212_211 := n6_; clear n0_ n1_ n2_ n3_ n4_ n5_ n6_; clear hb hbox hg; have hnb12 := NB211_212.out; have hnc12 := NB212_211.out; have hcz13_0 : w11.cell? ⟨gb211, 0, none⟩ = some (.int .u64 a0_0) := (blk_cell BK211.out 0).trans rfl; have hcz13_1 : w11.cell? ⟨gb211, 1, none⟩ = some (.int .u64 a0_1) := (blk_cell BK211.out 1).trans rfl; have hfz13_0 := blk_frozen BK211.out 0; have hfz13_1 := blk_frozen BK211.out 1; have hcz14_0 : w11.cell? ⟨gb212, 0, none⟩ = some (.int .u64 a1_0) := (blk_cell BK212.out 0).trans rfl; have hcz14_1 : w11.cell? ⟨gb212, 1, none⟩ = some (.int .u64 a1_1) := (blk_cell BK212.out 1).trans rfl; have hfz14_0 := blk_frozen BK212.out 0; have hfz14_1 := blk_frozen BK212.out 1))
      go_ret
      exact ⟨by first | rfl | (simp [errW_none, errW_some] <;> rfl) | (simp [*, errW_none, errW_some] <;> rfl), by repeat (first | (with_reducible first | exact HB.out | apply pA | apply pN | apply p1 | refine pS ?_ GE211.out | refine pS ?_ GE212.out) | exact HB.out)⟩
    · rw [if_neg c9] at H
      have c9b0 : decide (a0_0 < a1_0) = false := decide_eq_false c9
      clear c9
      by_cases c15 : a0_0 = a1_0
      · rw [if_pos c15] at H
        have c15b0 : (a0_0 == a1_0) = true := beq_iff_eq.mpr c15
        have c15b1 : (a0_0 != a1_0) = false := bne_eq_false_iff_eq.mpr c15
        clear c15
        by_cases c16 : a0_1 < a1_1
        · rw [if_pos c16] at H
          have c16b0 : decide (a0_1 < a1_1) = true := decide_eq_true c16
          clear c16
          obtain rfl := Option.some.inj H
          (try (have z_ := c3b0; simp only [c15b0, Bool.true_and] at z_))
          go_enter Try.func31, Try.ntmps31
          go_wp2_with (first | ((with_reducible refine gD (N := 2) rfl ?_); refine bE3 2 #[.int .u64 a0_0, .int .u64 a0_1] 25 ?hr ?_; (case hr => first | (go_simp; done) | (go_simp; rfl)); intro gb211 hg w17 hbox hb; have n0_ := Aside0.mk (bS3 HB.out hb); have n1_ := Aside0.mk (hbox); have n2_ := Aside0.mk ((bZ3 hg HB.out)); have n3_ := Aside0.mk ((bZ3 hg HB.out)); clear HB; have HB := n0_; have BK211 := n1_; have GW211 := n2_; have GE211 := n3_; clear n0_ n1_ n2_ n3_; clear hb hbox hg) | ((with_reducible refine gD (N := 3) rfl ?_); refine bE3 3 #[.int .u64 a1_0, .int .u64 a1_1] 25 ?hr ?_; (case hr => first | (go_simp; done) | (go_simp; rfl)); intro gb212 hg w18 hbox hb; have n0_ := Aside0.mk (bB3 BK211.out hb); have n1_ := Aside0.mk (bS3 HB.out hb); have n2_ := Aside0.mk (hbox); have n3_ := Aside0.mk ((bZ3 hg HB.out)); have n4_ := Aside0.mk ((bZ3 hg HB.out)); have n5_ := Aside0.mk ((bL3 hg BK211.out)); have n6_ := Aside0.mk ((bG3 hg BK211.out)); clear BK211; clear HB; have BK211 := n0_; have HB := n1_; have BK212 := n2_; have GW212 := n3_; have GE212 := n4_; have NB211_212 := n5_; have NB212_211 := n6_; clear n0_ n1_ n2_ n3_ n4_ n5_ n6_; clear hb hbox hg; have hnb19 := NB211_212.out; have hnc19 := NB212_211.out; have hcz20_0 : w18.cell? ⟨gb211, 0, none⟩ = some (.int .u64 a0_0) := (blk_cell BK211.out 0).trans rfl; have hcz20_1 : w18.cell? ⟨gb211, 1, none⟩ = some (.int .u64 a0_1) := (blk_cell BK211.out 1).trans rfl; have hfz20_0 := blk_frozen BK211.out 0; have hfz20_1 := blk_frozen BK211.out 1; have hcz21_0 : w18.cell? ⟨gb212, 0, none⟩ = some (.int .u64 a1_0) := (blk_cell BK212.out 0).trans rfl; have hcz21_1 : w18.cell? ⟨gb212, 1, none⟩ = some (.int .u64 a1_1) := (blk_cell BK212.out 1).trans rfl; have hfz21_0 := blk_frozen BK212.out 0; have hfz21_1 := blk_frozen BK212.out 1))
          go_ret
          exact ⟨by first | rfl | (simp [errW_none, errW_some] <;> rfl) | (simp [*, errW_none, errW_some] <;> rfl), by repeat (first | (with_reducible first | exact HB.out | apply pA | apply pN | apply p1 | refine pS ?_ GE211.out | refine pS ?_ GE212.out) | exact HB.out)⟩
        · rw [if_neg c16] at H
          have c16b0 : decide (a0_1 < a1_1) = false := decide_eq_false c16
          clear c16
          obtain rfl := Option.some.inj H
          (try (have z_ := c3b0; simp only [c15b0, Bool.true_and] at z_))
          go_enter Try.func31, Try.ntmps31
          go_wp2_with (first | ((with_reducible refine gD (N := 2) rfl ?_); refine bE3 2 #[.int .u64 a0_0, .int .u64 a0_1] 25 ?hr ?_; (case hr => first | (go_simp; done) | (go_simp; rfl)); intro gb211 hg w22 hbox hb; have n0_ := Aside0.mk (bS3 HB.out hb); have n1_ := Aside0.mk (hbox); have n2_ := Aside0.mk ((bZ3 hg HB.out)); have n3_ := Aside0.mk ((bZ3 hg HB.out)); clear HB; have HB := n0_; have BK211 := n1_; have GW211 := n2_; have GE211 := n3_; clear n0_ n1_ n2_ n3_; clear hb hbox hg) | ((with_reducible refine gD (N := 3) rfl ?_); refine bE3 3 #[.int .u64 a1_0, .int .u64 a1_1] 25 ?hr ?_; (case hr => first | (go_simp; done) | (go_simp; rfl)); intro gb212 hg w23 hbox hb; have n0_ := Aside0.mk (bB3 BK211.out hb); have n1_ := Aside0.mk (bS3 HB.out hb); have n2_ := Aside0.mk (hbox); have n3_ := Aside0.mk ((bZ3 hg HB.out)); have n4_ := Aside0.mk ((bZ3 hg HB.out)); have n5_ := Aside0.mk ((bL3 hg BK211.out)); have n6_ := Aside0.mk ((bG3 hg BK211.out)); clear BK211; clear HB; have BK211 := n0_; have HB := n1_; have BK212 := n2_; have GW212 := n3_; have GE212 := n4_; have NB211_212 := n5_; have NB212_211 := n6_; clear n0_ n1_ n2_ n3_ n4_ n5_ n6_; clear hb hbox hg; have hnb24 := NB211_212.out; have hnc24 := NB212_211.out; have hcz25_0 : w23.cell? ⟨gb211, 0, none⟩ = some (.int .u64 a0_0) := (blk_cell BK211.out 0).trans rfl; have hcz25_1 : w23.cell? ⟨gb211, 1, none⟩ = some (.int .u64 a0_1) := (blk_cell BK211.out 1).trans rfl; have hfz25_0 := blk_frozen BK211.out 0; have hfz25_1 := blk_frozen BK211.out 1; have hcz26_0 : w23.cell? ⟨gb212, 0, none⟩ = some (.int .u64 a1_0) := (blk_cell BK212.out 0).trans rfl; have hcz26_1 : w23.cell? ⟨gb212, 1, none⟩ = some (.int .u64 a1_1) := (blk_cell BK212.out 1).trans rfl; have hfz26_0 := blk_frozen BK212.out 0; have hfz26_1 := blk_frozen BK212.out 1))
          go_ret
          exact ⟨by first | rfl | (simp [errW_none, errW_some] <;> rfl) | (simp [*, errW_none, errW_some] <;> rfl), by repeat (first | (with_reducible first | exact HB.out | apply pA | apply pN | apply p1 | refine pS ?_ GE211.out | refine pS ?_ GE212.out) | exact HB.out)⟩
      · rw [if_neg c15] at H
        have c15b0 : (a0_0 == a1_0) = false := beq_eq_false_iff_ne.mpr c15
        have c15b1 : (a0_0 != a1_0) = true := bne_iff_ne.mpr c15
        obtain rfl := Option.some.inj H
        (try (have z_ := c3b0; simp only [c15b0, Bool.true_and] at z_))
        go_enter Try.func31, Try.ntmps31
        go_wp2_with (first | ((with_reducible refine gD (N := 2) rfl ?_); refine bE3 2 #[.int .u64 a0_0, .int .u64 a0_1] 25 ?hr ?_; (case hr => first | (go_simp; done) | (go_simp; rfl)); intro gb211 hg w27 hbox hb; have n0_ := Aside0.mk (bS3 HB.out hb); have n1_ := Aside0.mk (hbox); have n2_ := Aside0.mk ((bZ3 hg HB.out)); have n3_ := Aside0.mk ((bZ3 hg HB.out)); clear HB; have HB := n0_; have BK211 := n1_; have GW211 := n2_; have GE211 := n3_; clear n0_ n1_ n2_ n3_; clear hb hbox hg) | ((with_reducible refine gD (N := 3) rfl ?_); refine bE3 3 #[.int .u64 a1_0, .int .u64 a1_1] 25 ?hr ?_; (case hr => first | (go_simp; done) | (go_simp; rfl)); intro gb212 hg w28 hbox hb; have n0_ := Aside0.mk (bB3 BK211.out hb); have n1_ := Aside0.mk (bS3 HB.out hb); have n2_ := Aside0.mk (hbox); have n3_ := Aside0.mk ((bZ3 hg HB.out)); have n4_ := Aside0.mk ((bZ3 hg HB.out)); have n5_ := Aside0.mk ((bL3 hg BK211.out)); have n6_ := Aside0.mk ((bG3 hg BK211.out)); clear BK211; clear HB; have BK211 := n0_; have HB := n1_; have BK212 := n2_; have GW212 := n3_; have GE212 := n4_; have NB211_212 := n5_; have NB212_211 := n6_; clear n0_ n1_ n2_ n3_ n4_ n5_ n6_; clear hb hbox hg; have hnb29 := NB211_212.out; have hnc29 := NB212_211.out; have hcz30_0 : w28.cell? ⟨gb211, 0, none⟩ = some (.int .u64 a0_0) := (blk_cell BK211.out 0).trans rfl; have hcz30_1 : w28.cell? ⟨gb211, 1, none⟩ = some (.int .u64 a0_1) := (blk_cell BK211.out 1).trans rfl; have hfz30_0 := blk_frozen BK211.out 0; have hfz30_1 := blk_frozen BK211.out 1; have hcz31_0 : w28.cell? ⟨gb212, 0, none⟩ = some (.int .u64 a1_0) := (blk_cell BK212.out 0).trans rfl; have hcz31_1 : w28.cell? ⟨gb212, 1, none⟩ = some (.int .u64 a1_1) := (blk_cell BK212.out 1).trans rfl; have hfz31_0 := blk_frozen BK212.out 0; have hfz31_1 := blk_frozen BK212.out 1))
        go_ret
        exact ⟨by first | rfl | (simp [errW_none, errW_some] <;> rfl) | (simp [*, errW_none, errW_some] <;> rfl), by repeat (first | (with_reducible first | exact HB.out | apply pA | apply pN | apply p1 | refine pS ?_ GE211.out | refine pS ?_ GE212.out) | exact HB.out)⟩

/-! ### twin_Sub: function 36 -/
def twin_Sub.f (a0_0 : Int) (a0_1 : Int) (a1_0 : Int) (a1_1 : Int) : Option (Int × Int × Bool) := (bits_Sub64.f a0_1 a1_1 0).bind fun bt282 => ((bits_Sub64.f a0_0 a1_0 bt282.2).bind fun bt284 => (some (bt284.1, bt282.1, (bt284.2 == 1))))
set_option maxHeartbeats 8000000 in
set_option maxRecDepth 100000 in
theorem twin_Sub.calls (a0_0 : Int) (a0_1 : Int) (a1_0 : Int) (a1_1 : Int) (r1 : Int) (r2 : Int) (r3 : Bool) (w : World) (h : twin_Sub.f a0_0 a0_1 a1_0 a1_1 = some (r1, r2, r3)) :
    Calls Try.prog 36 #[.agg #[.int .u64 a0_0, .int .u64 a0_1], .agg #[.int .u64 a1_0, .int .u64 a1_1]] w fun e w' => e = .returned (.tuple #[.agg #[.int .u64 r1, .int .u64 r2], .bool r3]) ∧ Below w.heap.size w w' := by
  have hu25 := Try.underlying25
  have HB := Aside0.mk (Below.refl w.heap.size w)
  have H : ((bits_Sub64.f a0_1 a1_1 0).bind fun bt282 => ((bits_Sub64.f a0_0 a1_0 bt282.2).bind fun bt284 => (some (bt284.1, bt282.1, (bt284.2 == 1))))) = some (r1, r2, r3) := h
  clear h
  replace H := Option.bind_eq_some_iff.mp H
  obtain ⟨⟨t282, t283⟩, A30, H⟩ := H
  replace H : ((bits_Sub64.f a0_0 a1_0 t283).bind fun bt284 => (some (bt284.1, t282, (bt284.2 == 1)))) = some (r1, r2, r3) := H
  have A3 := Aside0.mk A30
  clear A30
  replace H := Option.bind_eq_some_iff.mp H
  obtain ⟨⟨t284, t285⟩, A40, H⟩ := H
  replace H : (some (t284, t282, (t285 == 1))) = some (r1, r2, r3) := H
  have A4 := Aside0.mk A40
  clear A40
  simp only [Option.some.injEq, Prod.mk.injEq] at H
  obtain ⟨rfl, rfl, rfl⟩ := H
  go_enter Try.func36, Try.ntmps36
  go_wp2_with (first | ((with_reducible refine gD (N := 2) rfl ?_); refine bE3 2 #[.int .u64 a0_0, .int .u64 a0_1] 25 ?hr ?_; (case hr => first | (go_simp; done) | (go_simp; rfl)); intro gb279 hg w5 hbox hb; have n0_ := Aside0.mk (bS3 HB.out hb); have n1_ := Aside0.mk (hbox); have n2_ := Aside0.mk ((bZ3 hg HB.out)); have n3_ := Aside0.mk ((bZ3 hg HB.out)); clear HB; have HB := n0_; have BK279 := n1_; have GW279 := n2_; have GE279 := n3_; clear n0_ n1_ n2_ n3_; clear hb hbox hg) | ((with_reducible refine gD (N := 3) rfl ?_); refine bE3 3 #[.int .u64 a1_0, .int .u64 a1_1] 25 ?hr ?_; (case hr => first | (go_simp; done) | (go_simp; rfl)); intro gb280 hg w6 hbox hb; have n0_ := Aside0.mk (bB3 BK279.out hb); have n1_ := Aside0.mk (bS3 HB.out hb); have n2_ := Aside0.mk (hbox); have n3_ := Aside0.mk ((bZ3 hg HB.out)); have n4_ := Aside0.mk ((bZ3 hg HB.out)); have n5_ := Aside0.mk ((bL3 hg BK279.out)); have n6_ := Aside0.mk ((bG3 hg BK279.out)); clear BK279; clear HB; have BK279 := n0_; have HB := n1_; have BK280 := n2_; have GW280 := n3_; have GE280 := n4_; have NB279_280 := n5_; have NB280_279 := n6_; clear n0_ n1_ n2_ n3_ n4_ n5_ n6_; clear hb hbox hg) | ((with_reducible refine gD (N := 4) rfl ?_); refine bE3 4 #[.int .u64 0, .int .u64 0] 25 ?hr ?_; (case hr => first | (go_simp; done) | (go_simp; rfl)); intro gb281 hg w7 hbox hb; have n0_ := Aside0.mk (bB3 BK279.out hb); have n1_ := Aside0.mk (bB3 BK280.out hb); have n2_ := Aside0.mk (bS3 HB.out hb); have n3_ := Aside0.mk (hbox); have n4_ := Aside0.mk ((bZ3 hg HB.out)); have n5_ := Aside0.mk ((bZ3 hg HB.out)); have n6_ := Aside0.mk ((bL3 hg BK279.out)); have n7_ := Aside0.mk ((bG3 hg BK279.out)); have n8_ := Aside0.mk ((bL3 hg BK280.out)); have n9_ := Aside0.mk ((bG3 hg BK280.out)); clear BK279; clear BK280; clear HB; have BK279 := n0_; have BK280 := n1_; have HB := n2_; have BK281 := n3_; have GW281 := n4_; have GE281 := n5_; have NB279_281 := n6_; have NB281_279 := n7_; have NB280_281 := n8_; have NB281_280 := n9_; clear n0_ n1_ n2_ n3_ n4_ n5_ n6_ n7_ n8_ n9_; clear hb hbox hg; have hnb8 := NB279_280.out; have hnc8 := NB280_279.out; have hnb9 := NB279_281.out; have hnc9 := NB281_279.out; have hcz10_0 : w7.cell? ⟨gb279, 0, none⟩ = some (.int .u64 a0_0) := (blk_cell BK279.out 0).trans rfl; have hcz10_1 : w7.cell? ⟨gb279, 1, none⟩ = some (.int .u64 a0_1) := (blk_cell BK279.out 1).trans rfl; have hfz10_0 := blk_frozen BK279.out 0; have hfz10_1 := blk_frozen BK279.out 1; have hnb11 := NB280_281.out; have hnc11 := NB281_280.out; have hcz12_0 : w7.cell? ⟨gb280, 0, none⟩ = some (.int .u64 a1_0) := (blk_cell BK280.out 0).trans rfl; have hcz12_1 : w7.cell? ⟨gb280, 1, none⟩ = some (.int .u64 a1_1) := (blk_cell BK280.out 1).trans rfl; have hfz12_0 := blk_frozen BK280.out 0; have hfz12_1 := blk_frozen BK280.out 1) | ((with_reducible refine gC (f := 77) rfl ?_); refine goesX_ (some 14) #[.int .u64 a0_1, .int .u64 a1_1, .int .u64 0] ?_; (with_reducible refine (bits_Sub64.calls a0_1 a1_1 0 t282 t283 _ A3.out).mono ?_); rintro e w' ⟨rfl, rfl⟩; refine ⟨_, rfl, ?_⟩) | ((with_reducible refine gC (f := 77) rfl ?_); refine goesX_ (some 23) #[.int .u64 a0_0, .int .u64 a1_0, .int .u64 t283] ?_; (with_reducible refine (bits_Sub64.calls a0_0 a1_0 t283 t284 t285 _ A4.out).mono ?_); rintro e w' ⟨rfl, rfl⟩; refine ⟨_, rfl, ?_⟩; have hcz13_0 : w7.cell? ⟨gb281, 0, none⟩ = some (.int .u64 0) := (blk_cell BK281.out 0).trans rfl; have hcz13_1 : w7.cell? ⟨gb281, 1, none⟩ = some (.int .u64 0) := (blk_cell BK281.out 1).trans rfl; have hfz13_0 := blk_frozen BK281.out 0; have hfz13_1 := blk_frozen BK281.out 1))
  refine bodyPost_ret (results_ct rfl _ _ gb281 25 #[.int .u64 t284, .int .u64 t282] (0, 0) _ rfl (by (with_reducible repeat (first | refine bN ?_ _ | refine bD ?_ | refine bA ?_ _)); refine blk_put (cs := #[.int .u64 t284, .int .u64 0]) ?_ 1 _ rfl; (with_reducible repeat (first | refine bN ?_ _ | refine bD ?_ | refine bA ?_ _)); refine blk_put (cs := #[.int .u64 0, .int .u64 0]) ?_ 0 _ rfl; (with_reducible repeat (first | refine bN ?_ _ | refine bD ?_ | refine bA ?_ _)); exact BK281.out) Try.underlying25 rfl (by kernel_rfl)) rfl ?_
  exact ⟨by first | rfl | (simp [errW_none, errW_some] <;> rfl) | (simp [*, errW_none, errW_some] <;> rfl), by repeat (first | (with_reducible first | exact HB.out | apply pA | apply pN | apply p1 | refine pS ?_ GE279.out | refine pS ?_ GE280.out | refine pS ?_ GE281.out) | exact HB.out)⟩

/-! ### twin_shr: function 88 -/
def twin_shr.f (a0_0 : Int) (a0_1 : Int) (a1 : Int) : Option (Int × Int) := if a1 ≥ 64 then (if 0 ≤ (wrap64 (a1 - 64)) then (some (0, shr .u64 a0_0 (wrap64 (a1 - 64)))) else (none)) else (if 0 ≤ a1 then (if 0 ≤ (wrap64 (64 - a1)) then (some (shr .u64 a0_0 a1, Go.bits .or .u64 (shr .u64 a0_1 a1) (shl .u64 a0_0 (wrap64 (64 - a1))))) else (none)) else (none))
def twin_shr.T3 : Bool × List (List Nat × List Nat) := (true, [([], []), ([0], [0]), ([], []), ([1, 2], [1, 2]), ([], []), ([4], [4]), ([], []), ([5, 6], [5, 6]), ([], []), ([8], [8]), ([], []), ([10], [10]), ([9, 11], [9, 11]), ([7, 12], [7, 12]), ([3, 13], [3, 13]), ([14, 0, 1, 2, 3, 4, 5, 6, 7, 8, 9, 10, 11, 12, 13, 14], [14])])
def twin_shr.B3 : List Nat := [0, 1, 0, 7, 0, 16, 0, 112, 0, 256, 0, 1024, 3840, 8176, 16383, 32767]
theorem twin_shr.tab3 : rtab .any (opsOf Try.f88 3) = twin_shr.T3 := by kernel_rfl
theorem twin_shr.bits3 : waitsOk twin_shr.T3.2 twin_shr.B3 = true := by kernel_rfl
set_option maxHeartbeats 8000000 in
set_option maxRecDepth 100000 in
theorem twin_shr.calls (a0_0 : Int) (a0_1 : Int) (a1 : Int) (r1 : Int) (r2 : Int) (w : World) (h : twin_shr.f a0_0 a0_1 a1 = some (r1, r2)) :
    Calls Try.prog 88 #[.agg #[.int .u64 a0_0, .int .u64 a0_1], .int .i64 a1] w fun e w' => e = .returned (.agg #[.int .u64 r1, .int .u64 r2]) ∧ Below w.heap.size w w' := by
  have hu25 := Try.underlying25
  have HB := Aside0.mk (Below.refl w.heap.size w)
  have H : (if a1 ≥ 64 then (if 0 ≤ (wrap64 (a1 - 64)) then (some (0, shr .u64 a0_0 (wrap64 (a1 - 64)))) else (none)) else (if 0 ≤ a1 then (if 0 ≤ (wrap64 (64 - a1)) then (some (shr .u64 a0_0 a1, Go.bits .or .u64 (shr .u64 a0_1 a1) (shl .u64 a0_0 (wrap64 (64 - a1))))) else (none)) else (none))) = some (r1, r2) := h
  clear h
  by_cases c3 : a1 ≥ 64
  · rw [if_pos c3] at H
    have c3b0 : decide (64 ≤ a1) = true := decide_eq_true c3
    clear c3
    obtain ⟨ji4, hji4⟩ : ∃ j_ : Int, (wrap64 (a1 - 64)) = j_ := ⟨_, rfl⟩
    replace H : (if 0 ≤ (ji4) then (some (0, shr .u64 a0_0 (ji4))) else (none)) = some (r1, r2) := by first | (rw [hji4] at H; exact H) | (simp only [hji4] at H ⊢; exact H)
    have hji4w : (IntKind.i64.wrap (a1 - 64)) = ji4 := (i64_w _).trans hji4
    by_cases c5 : 0 ≤ (ji4)
    · rw [if_pos c5] at H
      have c5b0 := eq_true c5
      have c5b1 : decide (0 ≤ (ji4)) = true := decide_eq_true c5
      clear c5
      obtain ⟨ji6, hji6⟩ : ∃ j_ : Int, (shr .u64 a0_0 (ji4)) = j_ := ⟨_, rfl⟩
      replace H : (some (0, ji6)) = some (r1, r2) := by first | (rw [hji6] at H; exact H) | (simp only [hji6] at H ⊢; exact H)
      have hji6_ : (a0_0 / 2 ^ min (ji4).toNat 64) = ji6 := hji6
      have hji6z : (ji4) ≤ 64 → (a0_0 / 2 ^ (ji4).toNat) = ji6 := shr_small hji6
      simp only [Option.some.injEq, Prod.mk.injEq] at H
      obtain ⟨rfl, rfl⟩ := H
      go_enter Try.func88, Try.ntmps88
      go_wp2_with (first | ((with_reducible refine gD (N := 2) rfl ?_); refine bE3 2 #[.int .u64 a0_0, .int .u64 a0_1] 25 ?hr ?_; (case hr => first | (go_simp; done) | (go_simp; rfl)); intro gb485 hg w7 hbox hb; have n0_ := Aside0.mk (bS3 HB.out hb); have n1_ := Aside0.mk (hbox); have n2_ := Aside0.mk ((bZ3 hg HB.out)); have n3_ := Aside0.mk ((bZ3 hg HB.out)); clear HB; have HB := n0_; have BK485 := n1_; have GW485 := n2_; have GE485 := n3_; clear n0_ n1_ n2_ n3_; clear hb hbox hg) | ((with_reducible refine gD (N := 4) rfl ?_); refine bE3 4 #[.int .u64 0, .int .u64 0] 25 ?hr ?_; (case hr => first | (go_simp; done) | (go_simp; rfl)); intro gb486 hg w8 hbox hb; have n0_ := Aside0.mk (bB3 BK485.out hb); have n1_ := Aside0.mk (bS3 HB.out hb); have n2_ := Aside0.mk (hbox); have n3_ := Aside0.mk ((bZ3 hg HB.out)); have n4_ := Aside0.mk ((bZ3 hg HB.out)); have n5_ := Aside0.mk ((bL3 hg BK485.out)); have n6_ := Aside0.mk ((bG3 hg BK485.out)); clear BK485; clear HB; have BK485 := n0_; have HB := n1_; have BK486 := n2_; have GW486 := n3_; have GE486 := n4_; have NB485_486 := n5_; have NB486_485 := n6_; clear n0_ n1_ n2_ n3_ n4_ n5_ n6_; clear hb hbox hg; have hnb9 := NB485_486.out; have hnc9 := NB486_485.out; have hcz10_0 : w8.cell? ⟨gb485, 0, none⟩ = some (.int .u64 a0_0) := (blk_cell BK485.out 0).trans rfl; have hcz10_1 : w8.cell? ⟨gb485, 1, none⟩ = some (.int .u64 a0_1) := (blk_cell BK485.out 1).trans rfl; have hfz10_0 := blk_frozen BK485.out 0; have hfz10_1 := blk_frozen BK485.out 1; have hcz11_0 : w8.cell? ⟨gb486, 0, none⟩ = some (.int .u64 0) := (blk_cell BK486.out 0).trans rfl; have hcz11_1 : w8.cell? ⟨gb486, 1, none⟩ = some (.int .u64 0) := (blk_cell BK486.out 1).trans rfl; have hfz11_0 := blk_frozen BK486.out 0; have hfz11_1 := blk_frozen BK486.out 1))
      refine bodyPost_ret (results_cell_row rfl _ _ gb486 25 #[.int .u64 0, .int .u64 ji6] (0, 0) _ rfl (by (with_reducible repeat (first | refine bN ?_ _ | refine bD ?_ | refine bA ?_ _)); refine blk_put (cs := #[.int .u64 0, .int .u64 0]) ?_ 1 _ rfl; (with_reducible repeat (first | refine bN ?_ _ | refine bD ?_ | refine bA ?_ _)); refine blk_put (cs := #[.int .u64 0, .int .u64 0]) ?_ 0 _ rfl; (with_reducible repeat (first | refine bN ?_ _ | refine bD ?_ | refine bA ?_ _)); exact BK486.out) Try.underlying25 rfl (by kernel_rfl)) rfl ?_
      exact ⟨by first | rfl | (simp [errW_none, errW_some] <;> rfl) | (simp only [← hji4, ← hji6]; first | rfl | (simp [errW_none, errW_some] <;> rfl)) | (simp [*, errW_none, errW_some] <;> rfl), by repeat (first | (with_reducible first | exact HB.out | apply pA | apply pN | apply p1 | refine pS ?_ GE485.out | refine pS ?_ GE486.out) | exact HB.out)⟩
    · rw [if_neg c5] at H
      exact absurd H (by simp)
  · rw [if_neg c3] at H
    have c3b0 : decide (64 ≤ a1) = false := decide_eq_false c3
    clear c3
    by_cases c12 : 0 ≤ a1
    · rw [if_pos c12] at H
      have c12b0 := eq_true c12
      have c12b1 : decide (0 ≤ a1) = true := decide_eq_true c12
      clear c12
      obtain ⟨ji13, hji13⟩ : ∃ j_ : Int, (shr .u64 a0_0 a1) = j_ := ⟨_, rfl⟩
      replace H : (if 0 ≤ (wrap64 (64 - a1)) then (some (ji13, Go.bits .or .u64 (shr .u64 a0_1 a1) (shl .u64 a0_0 (wrap64 (64 - a1))))) else (none)) = some (r1, r2) := by first | (rw [hji13] at H; exact H) | (simp only [hji13] at H ⊢; exact H)
      have hji13_ : (a0_0 / 2 ^ min a1.toNat 64) = ji13 := hji13
      have hji13z : a1 ≤ 64 → (a0_0 / 2 ^ a1.toNat) = ji13 := shr_small hji13
      have c14b0 := eq_true (of_decide_eq_true (by first | (with_reducible assumption) | assumption) : 0 ≤ a1)
      obtain ⟨ji15, hji15⟩ : ∃ j_ : Int, (shr .u64 a0_1 a1) = j_ := ⟨_, rfl⟩
      replace H : (if 0 ≤ (wrap64 (64 - a1)) then (some (ji13, Go.bits .or .u64 (ji15) (shl .u64 a0_0 (wrap64 (64 - a1))))) else (none)) = some (r1, r2) := by first | (rw [hji15] at H; exact H) | (simp only [hji15] at H ⊢; exact H)
      have hji15_ : (a0_1 / 2 ^ min a1.toNat 64) = ji15 := hji15
      have hji15z : a1 ≤ 64 → (a0_1 / 2 ^ a1.toNat) = ji15 := shr_small hji15
      obtain ⟨ji16, hji16⟩ : ∃ j_ : Int, (wrap64 (64 - a1)) = j_ := ⟨_, rfl⟩
      replace H : (if 0 ≤ (ji16) then (some (ji13, Go.bits .or .u64 (ji15) (shl .u64 a0_0 (ji16)))) else (none)) = some (r1, r2) := by first | (rw [hji16] at H; exact H) | (simp only [hji16] at H ⊢; exact H)
      have hji16w : (IntKind.i64.wrap (64 - a1)) = ji16 := (i64_w _).trans hji16
      by_cases c17 : 0 ≤ (ji16)
      · rw [if_pos c17] at H
        have c17b0 := eq_true c17
        have c17b1 : decide (0 ≤ (ji16)) = true := decide_eq_true c17
        clear c17
        obtain ⟨ji18, hji18⟩ : ∃ j_ : Int, (shl .u64 a0_0 (ji16)) = j_ := ⟨_, rfl⟩
        replace H : (some (ji13, Go.bits .or .u64 (ji15) (ji18))) = some (r1, r2) := by first | (rw [hji18] at H; exact H) | (simp only [hji18] at H ⊢; exact H)
        have hji18_ : (IntKind.u64.wrap (a0_0 * 2 ^ min (ji16).toNat 64)) = ji18 := hji18
        have hji18z : (ji16) ≤ 64 → (IntKind.u64.wrap (a0_0 * 2 ^ (ji16).toNat)) = ji18 := shl_small hji18
        simp only [Option.some.injEq, Prod.mk.injEq] at H
        obtain ⟨rfl, rfl⟩ := H
        go_enter Try.func88, Try.ntmps88
        try go_wp2_with (first | ((with_reducible refine gD (N := 2) rfl ?_); refine bE3 2 #[.int .u64 a0_0, .int .u64 a0_1] 25 ?hr ?_; (case hr => first | (go_simp; done) | (go_simp; rfl)); intro gb485 hg w19 hbox hb; have n0_ := Aside0.mk (bS3 HB.out hb); have n1_ := Aside0.mk (hbox); have n2_ := Aside0.mk ((bZ3 hg HB.out)); have n3_ := Aside0.mk ((bZ3 hg HB.out)); clear HB; have HB := n0_; have BK485 := n1_; have GW485 := n2_; have GE485 := n3_; clear n0_ n1_ n2_ n3_; clear hb hbox hg) | ((with_reducible refine gD (N := 4) rfl ?_); refine bE3 4 #[.int .u64 0, .int .u64 0] 25 ?hr ?_; (case hr => first | (go_simp; done) | (go_simp; rfl)); intro gb486 hg w20 hbox hb; have n0_ := Aside0.mk (bB3 BK485.out hb); have n1_ := Aside0.mk (bS3 HB.out hb); have n2_ := Aside0.mk (hbox); have n3_ := Aside0.mk ((bZ3 hg HB.out)); have n4_ := Aside0.mk ((bZ3 hg HB.out)); have n5_ := Aside0.mk ((bL3 hg BK485.out)); have n6_ := Aside0.mk ((bG3 hg BK485.out)); clear BK485; clear HB; have BK485 := n0_; have HB := n1_; have BK486 := n2_; have GW486 := n3_; have GE486 := n4_; have NB485_486 := n5_; have NB486_485 := n6_; clear n0_ n1_ n2_ n3_ n4_ n5_ n6_; clear hb hbox hg))
        have n0_ := Aside0.mk (bD BK485.out)
        have n1_ := Aside0.mk (bD BK486.out)
        have n2_ := Aside0.mk (p1 HB.out)
        clear BK485
        clear BK486
        clear HB
        have BK485 := n0_
        have BK486 := n1_
        have HB := n2_
        clear n0_ n1_ n2_
        refine start_ (n := 16) (S := fun w' => w'.cell? ⟨gb485, 0, none⟩ = some (.int .u64 a0_0) ∧ w'.cell? ⟨gb485, 1, none⟩ = some (.int .u64 a0_1)) (ds := []) #[false, false, false, false, false, false, false, false, false, false, false, false, false, false, false, false] (by kernel_rfl) rfl rfl ⟨(blk_cell BK485.out 0).trans rfl, (blk_cell BK485.out 1).trans rfl⟩ (fun hHeld => ?_); refine with_tabW twin_shr.tab3 twin_shr.bits3 (fun HT_ HW_ => ?_)
        generalize w20.drew = w21 at BK485 BK486 HB hHeld ⊢
        refine pure_ (i := 0) (N := some 13) (v := ?_) (a' := ?_) #[true, false, false, false, false, false, false, false, false, false, false, false, false, false, false, false] rfl rfl (any_of HT_.out (by kernel_rfl)) (fun _ _ _ h => h) (Or.inl ⟨by rfl, ?_⟩) ?_ ?_
        rotate_left
        · intro w'
          go_simp
          with_reducible rfl
        rotate_left
        · simp only [Act.put, List.setIfInBounds_toArray, List.set_cons_zero, List.set_cons_succ, i64_w, i32_w]
          rfl
        refine pure_ (i := 2) (N := some 15) (v := ?_) (a' := ?_) #[true, false, true, false, false, false, false, false, false, false, false, false, false, false, false, false] rfl rfl (any_of HT_.out (by kernel_rfl)) (fun _ _ _ h => h) (Or.inl ⟨by rfl, ?_⟩) ?_ ?_
        rotate_left
        · intro w'
          go_simp
          with_reducible rfl
        rotate_left
        · simp only [Act.put, List.setIfInBounds_toArray, List.set_cons_zero, List.set_cons_succ, i64_w, i32_w]
          rfl
        refine pure_ (i := 4) (N := some 17) (v := ?_) (a' := ?_) #[true, false, true, false, true, false, false, false, false, false, false, false, false, false, false, false] rfl rfl (any_of HT_.out (by kernel_rfl)) (fun _ _ _ h => h) (Or.inl ⟨by rfl, ?_⟩) ?_ ?_
        rotate_left
        · intro w'
          go_simp
          with_reducible rfl
        rotate_left
        · simp only [Act.put, List.setIfInBounds_toArray, List.set_cons_zero, List.set_cons_succ, i64_w, i32_w]
          rfl
        refine pure_ (i := 6) (N := some 19) (v := ?_) (a' := ?_) #[true, false, true, false, true, false, true, false, false, false, false, false, false, false, false, false] rfl rfl (any_of HT_.out (by kernel_rfl)) (fun _ _ _ h => h) (Or.inl ⟨by rfl, ?_⟩) ?_ ?_
        rotate_left
        · intro w'
          go_simp
          with_reducible rfl
        rotate_left
        · simp only [Act.put, List.setIfInBounds_toArray, List.set_cons_zero, List.set_cons_succ, i64_w, i32_w]
          rfl
        refine pure_ (i := 8) (N := some 21) (v := ?_) (a' := ?_) #[true, false, true, false, true, false, true, false, true, false, false, false, false, false, false, false] rfl rfl (any_of HT_.out (by kernel_rfl)) (fun _ _ _ h => h) (Or.inl ⟨by rfl, ?_⟩) ?_ ?_
        rotate_left
        · intro w'
          go_simp
          with_reducible rfl
        rotate_left
        · simp only [Act.put, List.setIfInBounds_toArray, List.set_cons_zero, List.set_cons_succ, i64_w, i32_w]
          rfl
        refine pure_ (i := 10) (N := some 23) (v := ?_) (a' := ?_) #[true, false, true, false, true, false, true, false, true, false, true, false, false, false, false, false] rfl rfl (any_of HT_.out (by kernel_rfl)) (fun _ _ _ h => h) (Or.inl ⟨by rfl, ?_⟩) ?_ ?_
        rotate_left
        · intro w'
          go_simp
          with_reducible rfl
        rotate_left
        · simp only [Act.put, List.setIfInBounds_toArray, List.set_cons_zero, List.set_cons_succ, i64_w, i32_w]
          rfl
        refine pure_ (i := 11) (N := some 24) (v := ?_) (a' := ?_) #[true, false, true, false, true, false, true, false, true, false, true, true, false, false, false, false] rfl rfl (any_of HT_.out (by kernel_rfl)) (fun _ _ _ h => h) (Or.inl ⟨by rfl, ?_⟩) ?_ ?_
        rotate_left
        · intro w'
          go_simp
          with_reducible rfl
        rotate_left
        · simp only [Act.put, List.setIfInBounds_toArray, List.set_cons_zero, List.set_cons_succ, i64_w, i32_w]
          rfl
        refine take_ (i := 1) (N := some 14) (v := ?_) (a' := ?_) #[true, true, true, false, true, false, true, false, true, false, true, true, false, false, false, false] rfl rfl (take_ofW HT_.out HW_.out (by kernel_rfl)) (fun _ _ _ h => h) (Or.inl ⟨by rfl, ?_⟩) hHeld ?_ ?_
        rotate_left
        · rintro w' ⟨s0, s1⟩
          go_simp
          with_reducible rfl
        rotate_left
        · simp only [Act.put, List.setIfInBounds_toArray, List.set_cons_zero, List.set_cons_succ, i64_w, i32_w]
          rfl
        refine pure_ (i := 3) (N := some 16) (v := ?_) (a' := ?_) #[true, true, true, true, true, false, true, false, true, false, true, true, false, false, false, false] rfl rfl (any_of HT_.out (by kernel_rfl)) (fun _ _ _ h => h) (Or.inl ⟨by rfl, ?_⟩) ?_ ?_
        rotate_left
        · intro w'
          go_simp
          with_reducible rfl
        rotate_left
        · simp only [Act.put, List.setIfInBounds_toArray, List.set_cons_zero, List.set_cons_succ, i64_w, i32_w]
          rfl
        refine take_ (i := 5) (N := some 18) (v := ?_) (a' := ?_) #[true, true, true, true, true, true, true, false, true, false, true, true, false, false, false, false] rfl rfl (take_ofW HT_.out HW_.out (by kernel_rfl)) (fun _ _ _ h => h) (Or.inl ⟨by rfl, ?_⟩) hHeld ?_ ?_
        rotate_left
        · rintro w' ⟨s0, s1⟩
          go_simp
          with_reducible rfl
        rotate_left
        · simp only [Act.put, List.setIfInBounds_toArray, List.set_cons_zero, List.set_cons_succ, i64_w, i32_w]
          rfl
        refine pure_ (i := 7) (N := some 20) (v := ?_) (a' := ?_) #[true, true, true, true, true, true, true, true, true, false, true, true, false, false, false, false] rfl rfl (any_of HT_.out (by kernel_rfl)) (fun _ _ _ h => h) (Or.inl ⟨by rfl, ?_⟩) ?_ ?_
        rotate_left
        · intro w'
          go_simp
          with_reducible rfl
        rotate_left
        · simp only [Act.put, List.setIfInBounds_toArray, List.set_cons_zero, List.set_cons_succ, i64_w, i32_w]
          rfl
        refine take_ (i := 9) (N := some 22) (v := ?_) (a' := ?_) #[true, true, true, true, true, true, true, true, true, true, true, true, false, false, false, false] rfl rfl (take_ofW HT_.out HW_.out (by kernel_rfl)) (fun _ _ _ h => h) (Or.inl ⟨by rfl, ?_⟩) hHeld ?_ ?_
        rotate_left
        · rintro w' ⟨s0, s1⟩
          go_simp
          with_reducible rfl
        rotate_left
        · simp only [Act.put, List.setIfInBounds_toArray, List.set_cons_zero, List.set_cons_succ, i64_w, i32_w]
          rfl
        refine pure_ (i := 12) (N := some 25) (v := ?_) (a' := ?_) #[true, true, true, true, true, true, true, true, true, true, true, true, true, false, false, false] rfl rfl (any_of HT_.out (by kernel_rfl)) (fun _ _ _ h => h) (Or.inl ⟨by rfl, ?_⟩) ?_ ?_
        rotate_left
        · intro w'
          go_simp
          with_reducible rfl
        rotate_left
        · simp only [Act.put, List.setIfInBounds_toArray, List.set_cons_zero, List.set_cons_succ, i64_w, i32_w]
          rfl
        refine pure_ (i := 13) (N := some 26) (v := ?_) (a' := ?_) #[true, true, true, true, true, true, true, true, true, true, true, true, true, true, false, false] rfl rfl (any_of HT_.out (by kernel_rfl)) (fun _ _ _ h => h) (Or.inl ⟨by rfl, ?_⟩) ?_ ?_
        rotate_left
        · intro w'
          go_simp
          with_reducible rfl
        rotate_left
        · simp only [Act.put, List.setIfInBounds_toArray, List.set_cons_zero, List.set_cons_succ, i64_w, i32_w]
          rfl
        refine pure_ (i := 14) (N := some 27) (v := ?_) (a' := ?_) #[true, true, true, true, true, true, true, true, true, true, true, true, true, true, true, false] rfl rfl (any_of HT_.out (by kernel_rfl)) (fun _ _ _ h => h) (Or.inl ⟨by rfl, ?_⟩) ?_ ?_
        rotate_left
        · intro w'
          go_simp
          with_reducible rfl
        rotate_left
        · simp only [Act.put, List.setIfInBounds_toArray, List.set_cons_zero, List.set_cons_succ, i64_w, i32_w]
          rfl
        refine one_ (i := 15) (N := none) #[true, true, true, true, true, true, true, true, true, true, true, true, true, true, true, true] rfl rfl (one_of HT_.out (by kernel_rfl)) (by decide) (fun K hK => ?_)
        have hs22 : w21.cell? ⟨gb486, 0, none⟩ = some (.int .u64 0) := (blk_cell BK486.out 0).trans rfl
        have hfs22 := blk_frozen BK486.out 0
        have hns22_0 := NB485_486.out
        have hms22_0 := NB486_485.out
        have hs23 : w21.cell? ⟨gb486, 1, none⟩ = some (.int .u64 0) := (blk_cell BK486.out 1).trans rfl
        have hfs23 := blk_frozen BK486.out 1
        have hns23_0 := NB485_486.out
        have hms23_0 := NB486_485.out
        refine skip_ (w1 := ?_) (by rfl) rfl ?_ ?_
        rotate_left
        · go_simp
          rfl
        refine hK.out _ _ ⟨((cell_far (p := ⟨gb486, _, none⟩) NB485_486.out _).trans (((cell_far (p := ⟨gb486, _, none⟩) NB485_486.out _).trans (hHeld.1)))), ((cell_far (p := ⟨gb486, _, none⟩) NB485_486.out _).trans (((cell_far (p := ⟨gb486, _, none⟩) NB485_486.out _).trans (hHeld.2))))⟩ (fun hHeld => ?_)
        clear hK K
        refine done_ (done_of HT_.out (by kernel_rfl)) ?_
        try go_wp2
        refine bodyPost_ret (results_cell_row rfl _ _ gb486 25 #[.int .u64 ji13, .int .u64 (Go.bits .or .u64 (ji15) (ji18))] (0, 0) _ rfl (by (with_reducible repeat (first | refine bN ?_ _ | refine bD ?_ | refine bA ?_ _)); refine blk_put (cs := #[.int .u64 ji13, .int .u64 0]) ?_ 1 _ rfl; (with_reducible repeat (first | refine bN ?_ _ | refine bD ?_ | refine bA ?_ _)); refine blk_put (cs := #[.int .u64 0, .int .u64 0]) ?_ 0 _ rfl; (with_reducible repeat (first | refine bN ?_ _ | refine bD ?_ | refine bA ?_ _)); exact BK486.out) Try.underlying25 rfl (by kernel_rfl)) rfl ?_
        exact ⟨by first | rfl | (simp [errW_none, errW_some] <;> rfl) | (simp only [← hji13, ← hji15, ← hji16, ← hji18]; first | rfl | (simp [errW_none, errW_some] <;> rfl)) | (simp [*, errW_none, errW_some] <;> rfl), by repeat (first | (with_reducible first | exact HB.out | apply pA | apply pN | apply p1 | refine pS ?_ GE485.out | refine pS ?_ GE486.out) | exact HB.out)⟩
      · rw [if_neg c17] at H
        exact absurd H (by simp)
    · rw [if_neg c12] at H
      exact absurd H (by simp)

/-! ### twin_shl: function 89 -/
def twin_shl.f (a0_0 : Int) (a0_1 : Int) (a1 : Int) : Option (Int × Int) := if a1 ≥ 64 then (if 0 ≤ (wrap64 (a1 - 64)) then (some (shl .u64 a0_1 (wrap64 (a1 - 64)), 0)) else (none)) else (if 0 ≤ a1 then (if 0 ≤ (wrap64 (64 - a1)) then (some (Go.bits .or .u64 (shl .u64 a0_0 a1) (shr .u64 a0_1 (wrap64 (64 - a1))), shl .u64 a0_1 a1)) else (none)) else (none))
def twin_shl.T3 : Bool × List (List Nat × List Nat) := (true, [([], []), ([0], [0]), ([], []), ([1, 2], [1, 2]), ([], []), ([4], [4]), ([], []), ([6], [6]), ([5, 7], [5, 7]), ([3, 8], [3, 8]), ([], []), ([10], [10]), ([], []), ([11, 12], [11, 12]), ([9, 13], [9, 13]), ([14, 0, 1, 2, 3, 4, 5, 6, 7, 8, 9, 10, 11, 12, 13, 14], [14])])
def twin_shl.B3 : List Nat := [0, 1, 0, 7, 0, 16, 0, 64, 240, 511, 0, 1024, 0, 7168, 16383, 32767]
theorem twin_shl.tab3 : rtab .any (opsOf Try.f89 3) = twin_shl.T3 := by kernel_rfl
theorem twin_shl.bits3 : waitsOk twin_shl.T3.2 twin_shl.B3 = true := by kernel_rfl
set_option maxHeartbeats 8000000 in
set_option maxRecDepth 100000 in
theorem twin_shl.calls (a0_0 : Int) (a0_1 : Int) (a1 : Int) (r1 : Int) (r2 : Int) (w : World) (h : twin_shl.f a0_0 a0_1 a1 = some (r1, r2)) :
    Calls Try.prog 89 #[.agg #[.int .u64 a0_0, .int .u64 a0_1], .int .i64 a1] w fun e w' => e = .returned (.agg #[.int .u64 r1, .int .u64 r2]) ∧ Below w.heap.size w w' := by
  have hu25 := Try.underlying25
  have HB := Aside0.mk (Below.refl w.heap.size w)
  have H : (if a1 ≥ 64 then (if 0 ≤ (wrap64 (a1 - 64)) then (some (shl .u64 a0_1 (wrap64 (a1 - 64)), 0)) else (none)) else (if 0 ≤ a1 then (if 0 ≤ (wrap64 (64 - a1)) then (some (Go.bits .or .u64 (shl .u64 a0_0 a1) (shr .u64 a0_1 (wrap64 (64 - a1))), shl .u64 a0_1 a1)) else (none)) else (none))) = some (r1, r2) := h
  clear h
  by_cases c3 : a1 ≥ 64
  · rw [if_pos c3] at H
    have c3b0 : decide (64 ≤ a1) = true := decide_eq_true c3
    clear c3
    obtain ⟨ji4, hji4⟩ : ∃ j_ : Int, (wrap64 (a1 - 64)) = j_ := ⟨_, rfl⟩
    replace H : (if 0 ≤ (ji4) then (some (shl .u64 a0_1 (ji4), 0)) else (none)) = some (r1, r2) := by first | (rw [hji4] at H; exact H) | (simp only [hji4] at H ⊢; exact H)
    have hji4w : (IntKind.i64.wrap (a1 - 64)) = ji4 := (i64_w _).trans hji4
    by_cases c5 : 0 ≤ (ji4)
    · rw [if_pos c5] at H
      have c5b0 := eq_true c5
      have c5b1 : decide (0 ≤ (ji4)) = true := decide_eq_true c5
      clear c5
      obtain ⟨ji6, hji6⟩ : ∃ j_ : Int, (shl .u64 a0_1 (ji4)) = j_ := ⟨_, rfl⟩
      replace H : (some (ji6, 0)) = some (r1, r2) := by first | (rw [hji6] at H; exact H) | (simp only [hji6] at H ⊢; exact H)
      have hji6_ : (IntKind.u64.wrap (a0_1 * 2 ^ min (ji4).toNat 64)) = ji6 := hji6
      have hji6z : (ji4) ≤ 64 → (IntKind.u64.wrap (a0_1 * 2 ^ (ji4).toNat)) = ji6 := shl_small hji6
      simp only [Option.some.injEq, Prod.mk.injEq] at H
      obtain ⟨rfl, rfl⟩ := H
      go_enter Try.func89, Try.ntmps89
      go_wp2_with (first | ((with_reducible refine gD (N := 2) rfl ?_); refine bE3 2 #[.int .u64 a0_0, .int .u64 a0_1] 25 ?hr ?_; (case hr => first | (go_simp; done) | (go_simp; rfl)); intro gb487 hg w7 hbox hb; have n0_ := Aside0.mk (bS3 HB.out hb); have n1_ := Aside0.mk (hbox); have n2_ := Aside0.mk ((bZ3 hg HB.out)); have n3_ := Aside0.mk ((bZ3 hg HB.out)); clear HB; have HB := n0_; have BK487 := n1_; have GW487 := n2_; have GE487 := n3_; clear n0_ n1_ n2_ n3_; clear hb hbox hg) | ((with_reducible refine gD (N := 4) rfl ?_); refine bE3 4 #[.int .u64 0, .int .u64 0] 25 ?hr ?_; (case hr => first | (go_simp; done) | (go_simp; rfl)); intro gb488 hg w8 hbox hb; have n0_ := Aside0.mk (bB3 BK487.out hb); have n1_ := Aside0.mk (bS3 HB.out hb); have n2_ := Aside0.mk (hbox); have n3_ := Aside0.mk ((bZ3 hg HB.out)); have n4_ := Aside0.mk ((bZ3 hg HB.out)); have n5_ := Aside0.mk ((bL3 hg BK487.out)); have n6_ := Aside0.mk ((bG3 hg BK487.out)); clear BK487; clear HB; have BK487 := n0_; have HB := n1_; have BK488 := n2_; have GW488 := n3_; have GE488 := n4_; have NB487_488 := n5_; have NB488_487 := n6_; clear n0_ n1_ n2_ n3_ n4_ n5_ n6_; clear hb hbox hg; have hnb9 := NB487_488.out; have hnc9 := NB488_487.out; have hcz10_0 : w8.cell? ⟨gb487, 0, none⟩ = some (.int .u64 a0_0) := (blk_cell BK487.out 0).trans rfl; have hcz10_1 : w8.cell? ⟨gb487, 1, none⟩ = some (.int .u64 a0_1) := (blk_cell BK487.out 1).trans rfl; have hfz10_0 := blk_frozen BK487.out 0; have hfz10_1 := blk_frozen BK487.out 1; have hcz11_0 : w8.cell? ⟨gb488, 0, none⟩ = some (.int .u64 0) := (blk_cell BK488.out 0).trans rfl; have hcz11_1 : w8.cell? ⟨gb488, 1, none⟩ = some (.int .u64 0) := (blk_cell BK488.out 1).trans rfl; have hfz11_0 := blk_frozen BK488.out 0; have hfz11_1 := blk_frozen BK488.out 1))
      refine bodyPost_ret (results_cell_row rfl _ _ gb488 25 #[.int .u64 ji6, .int .u64 0] (0, 0) _ rfl (by (with_reducible repeat (first | refine bN ?_ _ | refine bD ?_ | refine bA ?_ _)); refine blk_put (cs := #[.int .u64 ji6, .int .u64 0]) ?_ 1 _ rfl; (with_reducible repeat (first | refine bN ?_ _ | refine bD ?_ | refine bA ?_ _)); refine blk_put (cs := #[.int .u64 0, .int .u64 0]) ?_ 0 _ rfl; (with_reducible repeat (first | refine bN ?_ _ | refine bD ?_ | refine bA ?_ _)); exact BK488.out) Try.underlying25 rfl (by kernel_rfl)) rfl ?_
      exact ⟨by first | rfl | (simp [errW_none, errW_some] <;> rfl) | (simp only [← hji4, ← hji6]; first | rfl | (simp [errW_none, errW_some] <;> rfl)) | (simp [*, errW_none, errW_some] <;> rfl), by repeat (first | (with_reducible first | exact HB.out | apply pA | apply pN | apply p1 | refine pS ?_ GE487.out | refine pS ?_ GE488.out) | exact HB.out)⟩
    · rw [if_neg c5] at H
      exact absurd H (by simp)
  · rw [if_neg c3] at H
    have c3b0 : decide (64 ≤ a1) = false := decide_eq_false c3
    clear c3
    by_cases c12 : 0 ≤ a1
    · rw [if_pos c12] at H
      have c12b0 := eq_true c12
      have c12b1 : decide (0 ≤ a1) = true := decide_eq_true c12
      clear c12
      obtain ⟨ji13, hji13⟩ : ∃ j_ : Int, (shl .u64 a0_0 a1) = j_ := ⟨_, rfl⟩
      replace H : (if 0 ≤ (wrap64 (64 - a1)) then (some (Go.bits .or .u64 (ji13) (shr .u64 a0_1 (wrap64 (64 - a1))), shl .u64 a0_1 a1)) else (none)) = some (r1, r2) := by first | (rw [hji13] at H; exact H) | (simp only [hji13] at H ⊢; exact H)
      have hji13_ : (IntKind.u64.wrap (a0_0 * 2 ^ min a1.toNat 64)) = ji13 := hji13
      have hji13z : a1 ≤ 64 → (IntKind.u64.wrap (a0_0 * 2 ^ a1.toNat)) = ji13 := shl_small hji13
      obtain ⟨ji14, hji14⟩ : ∃ j_ : Int, (wrap64 (64 - a1)) = j_ := ⟨_, rfl⟩
      replace H : (if 0 ≤ (ji14) then (some (Go.bits .or .u64 (ji13) (shr .u64 a0_1 (ji14)), shl .u64 a0_1 a1)) else (none)) = some (r1, r2) := by first | (rw [hji14] at H; exact H) | (simp only [hji14] at H ⊢; exact H)
      have hji14w : (IntKind.i64.wrap (64 - a1)) = ji14 := (i64_w _).trans hji14
      by_cases c15 : 0 ≤ (ji14)
      · rw [if_pos c15] at H
        have c15b0 := eq_true c15
        have c15b1 : decide (0 ≤ (ji14)) = true := decide_eq_true c15
        clear c15
        obtain ⟨ji16, hji16⟩ : ∃ j_ : Int, (shr .u64 a0_1 (ji14)) = j_ := ⟨_, rfl⟩
        replace H : (some (Go.bits .or .u64 (ji13) (ji16), shl .u64 a0_1 a1)) = some (r1, r2) := by first | (rw [hji16] at H; exact H) | (simp only [hji16] at H ⊢; exact H)
        have hji16_ : (a0_1 / 2 ^ min (ji14).toNat 64) = ji16 := hji16
        have hji16z : (ji14) ≤ 64 → (a0_1 / 2 ^ (ji14).toNat) = ji16 := shr_small hji16
        have c17b0 := eq_true (of_decide_eq_true (by first | (with_reducible assumption) | assumption) : 0 ≤ a1)
        obtain ⟨ji18, hji18⟩ : ∃ j_ : Int, (shl .u64 a0_1 a1) = j_ := ⟨_, rfl⟩
        replace H : (some (Go.bits .or .u64 (ji13) (ji16), ji18)) = some (r1, r2) := by first | (rw [hji18] at H; exact H) | (simp only [hji18] at H ⊢; exact H)
        have hji18_ : (IntKind.u64.wrap (a0_1 * 2 ^ min a1.toNat 64)) = ji18 := hji18
        have hji18z : a1 ≤ 64 → (IntKind.u64.wrap (a0_1 * 2 ^ a1.toNat)) = ji18 := shl_small hji18
        simp only [Option.some.injEq, Prod.mk.injEq] at H
        obtain ⟨rfl, rfl⟩ := H
        go_enter Try.func89, Try.ntmps89
        try go_wp2_with (first | ((with_reducible refine gD (N := 2) rfl ?_); refine bE3 2 #[.int .u64 a0_0, .int .u64 a0_1] 25 ?hr ?_; (case hr => first | (go_simp; done) | (go_simp; rfl)); intro gb487 hg w19 hbox hb; have n0_ := Aside0.mk (bS3 HB.out hb); have n1_ := Aside0.mk (hbox); have n2_ := Aside0.mk ((bZ3 hg HB.out)); have n3_ := Aside0.mk ((bZ3 hg HB.out)); clear HB; have HB := n0_; have BK487 := n1_; have GW487 := n2_; have GE487 := n3_; clear n0_ n1_ n2_ n3_; clear hb hbox hg) | ((with_reducible refine gD (N := 4) rfl ?_); refine bE3 4 #[.int .u64 0, .int .u64 0] 25 ?hr ?_; (case hr => first | (go_simp; done) | (go_simp; rfl)); intro gb488 hg w20 hbox hb; have n0_ := Aside0.mk (bB3 BK487.out hb); have n1_ := Aside0.mk (bS3 HB.out hb); have n2_ := Aside0.mk (hbox); have n3_ := Aside0.mk ((bZ3 hg HB.out)); have n4_ := Aside0.mk ((bZ3 hg HB.out)); have n5_ := Aside0.mk ((bL3 hg BK487.out)); have n6_ := Aside0.mk ((bG3 hg BK487.out)); clear BK487; clear HB; have BK487 := n0_; have HB := n1_; have BK488 := n2_; have GW488 := n3_; have GE488 := n4_; have NB487_488 := n5_; have NB488_487 := n6_; clear n0_ n1_ n2_ n3_ n4_ n5_ n6_; clear hb hbox hg))
        have n0_ := Aside0.mk (bD BK487.out)
        have n1_ := Aside0.mk (bD BK488.out)
        have n2_ := Aside0.mk (p1 HB.out)
        clear BK487
        clear BK488
        clear HB
        have BK487 := n0_
        have BK488 := n1_
        have HB := n2_
        clear n0_ n1_ n2_
        refine start_ (n := 16) (S := fun w' => w'.cell? ⟨gb487, 0, none⟩ = some (.int .u64 a0_0) ∧ w'.cell? ⟨gb487, 1, none⟩ = some (.int .u64 a0_1)) (ds := []) #[false, false, false, false, false, false, false, false, false, false, false, false, false, false, false, false] (by kernel_rfl) rfl rfl ⟨(blk_cell BK487.out 0).trans rfl, (blk_cell BK487.out 1).trans rfl⟩ (fun hHeld => ?_); refine with_tabW twin_shl.tab3 twin_shl.bits3 (fun HT_ HW_ => ?_)
        generalize w20.drew = w21 at BK487 BK488 HB hHeld ⊢
        refine pure_ (i := 0) (N := some 13) (v := ?_) (a' := ?_) #[true, false, false, false, false, false, false, false, false, false, false, false, false, false, false, false] rfl rfl (any_of HT_.out (by kernel_rfl)) (fun _ _ _ h => h) (Or.inl ⟨by rfl, ?_⟩) ?_ ?_
        rotate_left
        · intro w'
          go_simp
          with_reducible rfl
        rotate_left
        · simp only [Act.put, List.setIfInBounds_toArray, List.set_cons_zero, List.set_cons_succ, i64_w, i32_w]
          rfl
        refine pure_ (i := 2) (N := some 15) (v := ?_) (a' := ?_) #[true, false, true, false, false, false, false, false, false, false, false, false, false, false, false, false] rfl rfl (any_of HT_.out (by kernel_rfl)) (fun _ _ _ h => h) (Or.inl ⟨by rfl, ?_⟩) ?_ ?_
        rotate_left
        · intro w'
          go_simp
          with_reducible rfl
        rotate_left
        · simp only [Act.put, List.setIfInBounds_toArray, List.set_cons_zero, List.set_cons_succ, i64_w, i32_w]
          rfl
        refine pure_ (i := 4) (N := some 17) (v := ?_) (a' := ?_) #[true, false, true, false, true, false, false, false, false, false, false, false, false, false, false, false] rfl rfl (any_of HT_.out (by kernel_rfl)) (fun _ _ _ h => h) (Or.inl ⟨by rfl, ?_⟩) ?_ ?_
        rotate_left
        · intro w'
          go_simp
          with_reducible rfl
        rotate_left
        · simp only [Act.put, List.setIfInBounds_toArray, List.set_cons_zero, List.set_cons_succ, i64_w, i32_w]
          rfl
        refine pure_ (i := 6) (N := some 19) (v := ?_) (a' := ?_) #[true, false, true, false, true, false, true, false, false, false, false, false, false, false, false, false] rfl rfl (any_of HT_.out (by kernel_rfl)) (fun _ _ _ h => h) (Or.inl ⟨by rfl, ?_⟩) ?_ ?_
        rotate_left
        · intro w'
          go_simp
          with_reducible rfl
        rotate_left
        · simp only [Act.put, List.setIfInBounds_toArray, List.set_cons_zero, List.set_cons_succ, i64_w, i32_w]
          rfl
        refine pure_ (i := 7) (N := some 20) (v := ?_) (a' := ?_) #[true, false, true, false, true, false, true, true, false, false, false, false, false, false, false, false] rfl rfl (any_of HT_.out (by kernel_rfl)) (fun _ _ _ h => h) (Or.inl ⟨by rfl, ?_⟩) ?_ ?_
        rotate_left
        · intro w'
          go_simp
          with_reducible rfl
        rotate_left
        · simp only [Act.put, List.setIfInBounds_toArray, List.set_cons_zero, List.set_cons_succ, i64_w, i32_w]
          rfl
        refine pure_ (i := 10) (N := some 23) (v := ?_) (a' := ?_) #[true, false, true, false, true, false, true, true, false, false, true, false, false, false, false, false] rfl rfl (any_of HT_.out (by kernel_rfl)) (fun _ _ _ h => h) (Or.inl ⟨by rfl, ?_⟩) ?_ ?_
        rotate_left
        · intro w'
          go_simp
          with_reducible rfl
        rotate_left
        · simp only [Act.put, List.setIfInBounds_toArray, List.set_cons_zero, List.set_cons_succ, i64_w, i32_w]
          rfl
        refine pure_ (i := 12) (N := some 25) (v := ?_) (a' := ?_) #[true, false, true, false, true, false, true, true, false, false, true, false, true, false, false, false] rfl rfl (any_of HT_.out (by kernel_rfl)) (fun _ _ _ h => h) (Or.inl ⟨by rfl, ?_⟩) ?_ ?_
        rotate_left
        · intro w'
          go_simp
          with_reducible rfl
        rotate_left
        · simp only [Act.put, List.setIfInBounds_toArray, List.set_cons_zero, List.set_cons_succ, i64_w, i32_w]
          rfl
        refine take_ (i := 1) (N := some 14) (v := ?_) (a' := ?_) #[true, true, true, false, true, false, true, true, false, false, true, false, true, false, false, false] rfl rfl (take_ofW HT_.out HW_.out (by kernel_rfl)) (fun _ _ _ h => h) (Or.inl ⟨by rfl, ?_⟩) hHeld ?_ ?_
        rotate_left
        · rintro w' ⟨s0, s1⟩
          go_simp
          with_reducible rfl
        rotate_left
        · simp only [Act.put, List.setIfInBounds_toArray, List.set_cons_zero, List.set_cons_succ, i64_w, i32_w]
          rfl
        refine pure_ (i := 3) (N := some 16) (v := ?_) (a' := ?_) #[true, true, true, true, true, false, true, true, false, false, true, false, true, false, false, false] rfl rfl (any_of HT_.out (by kernel_rfl)) (fun _ _ _ h => h) (Or.inl ⟨by rfl, ?_⟩) ?_ ?_
        rotate_left
        · intro w'
          go_simp
          with_reducible rfl
        rotate_left
        · simp only [Act.put, List.setIfInBounds_toArray, List.set_cons_zero, List.set_cons_succ, i64_w, i32_w]
          rfl
        refine take_ (i := 5) (N := some 18) (v := ?_) (a' := ?_) #[true, true, true, true, true, true, true, true, false, false, true, false, true, false, false, false] rfl rfl (take_ofW HT_.out HW_.out (by kernel_rfl)) (fun _ _ _ h => h) (Or.inl ⟨by rfl, ?_⟩) hHeld ?_ ?_
        rotate_left
        · rintro w' ⟨s0, s1⟩
          go_simp
          with_reducible rfl
        rotate_left
        · simp only [Act.put, List.setIfInBounds_toArray, List.set_cons_zero, List.set_cons_succ, i64_w, i32_w]
          rfl
        refine pure_ (i := 8) (N := some 21) (v := ?_) (a' := ?_) #[true, true, true, true, true, true, true, true, true, false, true, false, true, false, false, false] rfl rfl (any_of HT_.out (by kernel_rfl)) (fun _ _ _ h => h) (Or.inl ⟨by rfl, ?_⟩) ?_ ?_
        rotate_left
        · intro w'
          go_simp
          with_reducible rfl
        rotate_left
        · simp only [Act.put, List.setIfInBounds_toArray, List.set_cons_zero, List.set_cons_succ, i64_w, i32_w]
          rfl
        refine pure_ (i := 9) (N := some 22) (v := ?_) (a' := ?_) #[true, true, true, true, true, true, true, true, true, true, true, false, true, false, false, false] rfl rfl (any_of HT_.out (by kernel_rfl)) (fun _ _ _ h => h) (Or.inl ⟨by rfl, ?_⟩) ?_ ?_
        rotate_left
        · intro w'
          go_simp
          with_reducible rfl
        rotate_left
        · simp only [Act.put, List.setIfInBounds_toArray, List.set_cons_zero, List.set_cons_succ, i64_w, i32_w]
          rfl
        refine take_ (i := 11) (N := some 24) (v := ?_) (a' := ?_) #[true, true, true, true, true, true, true, true, true, true, true, true, true, false, false, false] rfl rfl (take_ofW HT_.out HW_.out (by kernel_rfl)) (fun _ _ _ h => h) (Or.inl ⟨by rfl, ?_⟩) hHeld ?_ ?_
        rotate_left
        · rintro w' ⟨s0, s1⟩
          go_simp
          with_reducible rfl
        rotate_left
        · simp only [Act.put, List.setIfInBounds_toArray, List.set_cons_zero, List.set_cons_succ, i64_w, i32_w]
          rfl
        refine pure_ (i := 13) (N := some 26) (v := ?_) (a' := ?_) #[true, true, true, true, true, true, true, true, true, true, true, true, true, true, false, false] rfl rfl (any_of HT_.out (by kernel_rfl)) (fun _ _ _ h => h) (Or.inl ⟨by rfl, ?_⟩) ?_ ?_
        rotate_left
        · intro w'
          go_simp
          with_reducible rfl
        rotate_left
        · simp only [Act.put, List.setIfInBounds_toArray, List.set_cons_zero, List.set_cons_succ, i64_w, i32_w]
          rfl
        refine pure_ (i := 14) (N := some 27) (v := ?_) (a' := ?_) #[true, true, true, true, true, true, true, true, true, true, true, true, true, true, true, false] rfl rfl (any_of HT_.out (by kernel_rfl)) (fun _ _ _ h => h) (Or.inl ⟨by rfl, ?_⟩) ?_ ?_
        rotate_left
        · intro w'
          go_simp
          with_reducible rfl
        rotate_left
        · simp only [Act.put, List.setIfInBounds_toArray, List.set_cons_zero, List.set_cons_succ, i64_w, i32_w]
          rfl
        refine one_ (i := 15) (N := none) #[true, true, true, true, true, true, true, true, true, true, true, true, true, true, true, true] rfl rfl (one_of HT_.out (by kernel_rfl)) (by decide) (fun K hK => ?_)
        have hs22 : w21.cell? ⟨gb488, 0, none⟩ = some (.int .u64 0) := (blk_cell BK488.out 0).trans rfl
        have hfs22 := blk_frozen BK488.out 0
        have hns22_0 := NB487_488.out
        have hms22_0 := NB488_487.out
        have hs23 : w21.cell? ⟨gb488, 1, none⟩ = some (.int .u64 0) := (blk_cell BK488.out 1).trans rfl
        have hfs23 := blk_frozen BK488.out 1
        have hns23_0 := NB487_488.out
        have hms23_0 := NB488_487.out
        refine skip_ (w1 := ?_) (by rfl) rfl ?_ ?_
        rotate_left
        · go_simp
          rfl
        refine hK.out _ _ ⟨((cell_far (p := ⟨gb488, _, none⟩) NB487_488.out _).trans (((cell_far (p := ⟨gb488, _, none⟩) NB487_488.out _).trans (hHeld.1)))), ((cell_far (p := ⟨gb488, _, none⟩) NB487_488.out _).trans (((cell_far (p := ⟨gb488, _, none⟩) NB487_488.out _).trans (hHeld.2))))⟩ (fun hHeld => ?_)
        clear hK K
        refine done_ (done_of HT_.out (by kernel_rfl)) ?_
        try go_wp2
        refine bodyPost_ret (results_cell_row rfl _ _ gb488 25 #[.int .u64 (Go.bits .or .u64 (ji13) (ji16)), .int .u64 ji18] (0, 0) _ rfl (by (with_reducible repeat (first | refine bN ?_ _ | refine bD ?_ | refine bA ?_ _)); refine blk_put (cs := #[.int .u64 (Go.bits .or .u64 (ji13) (ji16)), .int .u64 0]) ?_ 1 _ rfl; (with_reducible repeat (first | refine bN ?_ _ | refine bD ?_ | refine bA ?_ _)); refine blk_put (cs := #[.int .u64 0, .int .u64 0]) ?_ 0 _ rfl; (with_reducible repeat (first | refine bN ?_ _ | refine bD ?_ | refine bA ?_ _)); exact BK488.out) Try.underlying25 rfl (by kernel_rfl)) rfl ?_
        exact ⟨by first | rfl | (simp [errW_none, errW_some] <;> rfl) | (simp only [← hji13, ← hji14, ← hji16, ← hji18]; first | rfl | (simp [errW_none, errW_some] <;> rfl)) | (simp [*, errW_none, errW_some] <;> rfl), by repeat (first | (with_reducible first | exact HB.out | apply pA | apply pN | apply p1 | refine pS ?_ GE487.out | refine pS ?_ GE488.out) | exact HB.out)⟩
      · rw [if_neg c15] at H
        exact absurd H (by simp)
    · rw [if_neg c12] at H
      exact absurd H (by simp)

/-! ### twin_Shr: function 49 -/
def twin_Shr.f (a0_0 : Int) (a0_1 : Int) (a1 : Int) : Option (Int × Int × Bool × Option Int) := if a1 < 0 then (some (0, 0, false, some 1)) else ((twin_shr.f a0_0 a0_1 (mn a1 128)).bind fun bt491 => ((twin_shl.f bt491.1 bt491.2 (mn a1 128)).bind fun bt494 => (some (bt491.1, bt491.2, (!(bt494.1 == a0_0) || (!(bt494.2 == a0_1))), none))))
def twin_Shr.T5 : Bool × List (List Nat × List Nat) := (true, [([], []), ([], []), ([], []), ([1, 2], [1, 2]), ([], []), ([3, 4], [3, 4]), ([0, 3, 0], [0]), ([5, 6, 0, 1, 2, 3, 4, 5, 6], [5]), ([7, 0, 1, 2, 3, 4, 5, 6, 7], [])])
def twin_Shr.B5 : List Nat := [0, 0, 0, 6, 0, 30, 15, 127, 255]
theorem twin_Shr.tab5 : rtab .any (opsOf Try.f49 5) = twin_Shr.T5 := by kernel_rfl
theorem twin_Shr.bits5 : waitsOk twin_Shr.T5.2 twin_Shr.B5 = true := by kernel_rfl
set_option maxHeartbeats 8000000 in
set_option maxRecDepth 100000 in
theorem twin_Shr.calls (a0_0 : Int) (a0_1 : Int) (a1 : Int) (r1 : Int) (r2 : Int) (r3 : Bool) (r4 : Option Int) (w : World) (h : twin_Shr.f a0_0 a0_1 a1 = some (r1, r2, r3, r4)) :
    Calls Try.prog 49 #[.agg #[.int .u64 a0_0, .int .u64 a0_1], .int .i64 a1] w fun e w' => e = .returned (.tuple #[.agg #[.int .u64 r1, .int .u64 r2], .bool r3, errW r4]) ∧ Below w.heap.size w w' := by
  have hu25 := Try.underlying25
  have hu29 := Try.underlying29
  have hu77 := Try.underlying77
  have HB := Aside0.mk (Below.refl w.heap.size w)
  have H : (if a1 < 0 then (some (0, 0, false, some 1)) else ((twin_shr.f a0_0 a0_1 (mn a1 128)).bind fun bt491 => ((twin_shl.f bt491.1 bt491.2 (mn a1 128)).bind fun bt494 => (some (bt491.1, bt491.2, (!(bt494.1 == a0_0) || (!(bt494.2 == a0_1))), none))))) = some (r1, r2, r3, r4) := h
  clear h
  by_cases c3 : a1 < 0
  · rw [if_pos c3] at H
    have c3b0 : decide (a1 < 0) = true := decide_eq_true c3
    clear c3
    simp only [Option.some.injEq, Prod.mk.injEq] at H
    obtain ⟨rfl, rfl, rfl, rfl⟩ := H
    go_enter Try.func49, Try.ntmps49
    go_wp2_with (first | ((with_reducible refine gD (N := 2) rfl ?_); refine bE3 2 #[.int .u64 a0_0, .int .u64 a0_1] 25 ?hr ?_; (case hr => first | (go_simp; done) | (go_simp; rfl)); intro gb489 hg w4 hbox hb; have n0_ := Aside0.mk (bS3 HB.out hb); have n1_ := Aside0.mk (hbox); have n2_ := Aside0.mk ((bZ3 hg HB.out)); have n3_ := Aside0.mk ((bZ3 hg HB.out)); clear HB; have HB := n0_; have BK489 := n1_; have GW489 := n2_; have GE489 := n3_; clear n0_ n1_ n2_ n3_; clear hb hbox hg) | ((with_reducible refine gD (N := 4) rfl ?_); refine bE3 4 #[.int .u64 0, .int .u64 0] 25 ?hr ?_; (case hr => first | (go_simp; done) | (go_simp; rfl)); intro gb490 hg w5 hbox hb; have n0_ := Aside0.mk (bB3 BK489.out hb); have n1_ := Aside0.mk (bS3 HB.out hb); have n2_ := Aside0.mk (hbox); have n3_ := Aside0.mk ((bZ3 hg HB.out)); have n4_ := Aside0.mk ((bZ3 hg HB.out)); have n5_ := Aside0.mk ((bL3 hg BK489.out)); have n6_ := Aside0.mk ((bG3 hg BK489.out)); clear BK489; clear HB; have BK489 := n0_; have HB := n1_; have BK490 := n2_; have GW490 := n3_; have GE490 := n4_; have NB489_490 := n5_; have NB490_489 := n6_; clear n0_ n1_ n2_ n3_ n4_ n5_ n6_; clear hb hbox hg; have hnb6 := NB490_489.out; have hnc6 := NB489_490.out; have hcz7_0 : w5.cell? ⟨gb490, 0, none⟩ = some (.int .u64 0) := (blk_cell BK490.out 0).trans rfl; have hcz7_1 : w5.cell? ⟨gb490, 1, none⟩ = some (.int .u64 0) := (blk_cell BK490.out 1).trans rfl; have hfz7_0 := blk_frozen BK490.out 0; have hfz7_1 := blk_frozen BK490.out 1))
    refine bodyPost_ret (results_ctt rfl _ _ gb490 25 #[.int .u64 0, .int .u64 0] (0, 0) _ rfl (by (with_reducible repeat (first | refine bN ?_ _ | refine bD ?_ | refine bA ?_ _)); refine blk_put (cs := #[.int .u64 0, .int .u64 0]) ?_ 1 _ rfl; (with_reducible repeat (first | refine bN ?_ _ | refine bD ?_ | refine bA ?_ _)); refine blk_put (cs := #[.int .u64 0, .int .u64 0]) ?_ 0 _ rfl; (with_reducible repeat (first | refine bN ?_ _ | refine bD ?_ | refine bA ?_ _)); exact BK490.out) Try.underlying25 rfl (by kernel_rfl)) rfl ?_
    exact ⟨by first | rfl | (simp [errW_none, errW_some] <;> rfl) | (simp [*, errW_none, errW_some] <;> rfl), by repeat (first | (with_reducible first | exact HB.out | apply pA | apply pN | apply p1 | refine pS ?_ GE489.out | refine pS ?_ GE490.out) | exact HB.out)⟩
  · rw [if_neg c3] at H
    have c3b0 : decide (a1 < 0) = false := decide_eq_false c3
    clear c3
    obtain ⟨ji8, hji8⟩ : ∃ j_ : Int, (mn a1 128) = j_ := ⟨_, rfl⟩
    replace H : ((twin_shr.f a0_0 a0_1 (ji8)).bind fun bt491 => ((twin_shl.f bt491.1 bt491.2 (ji8)).bind fun bt494 => (some (bt491.1, bt491.2, (!(bt494.1 == a0_0) || (!(bt494.2 == a0_1))), none)))) = some (r1, r2, r3, r4) := by first | (rw [hji8] at H; exact H) | (simp only [hji8] at H ⊢; exact H)
    (try (have hji8h : ji8 ≤ 128 := by (rw [← hji8]; unfold mn; (repeat' split) <;> omega)))
    (try (have hji8g : ji8 ≤ 64 := by omega))
    have hji8_ : (if 128 < a1 then 128 else a1) = ji8 := hji8
    replace H := Option.bind_eq_some_iff.mp H
    obtain ⟨⟨t491, t492⟩, A90, H⟩ := H
    replace H : ((twin_shl.f t491 t492 (ji8)).bind fun bt494 => (some (t491, t492, (!(bt494.1 == a0_0) || (!(bt494.2 == a0_1))), none))) = some (r1, r2, r3, r4) := H
    have A9 := Aside0.mk A90
    clear A90
    replace H := Option.bind_eq_some_iff.mp H
    obtain ⟨⟨t494, t495⟩, A100, H⟩ := H
    replace H : (some (t491, t492, (!(t494 == a0_0) || (!(t495 == a0_1))), none)) = some (r1, r2, r3, r4) := H
    have A10 := Aside0.mk A100
    clear A100
    simp only [Option.some.injEq, Prod.mk.injEq] at H
    obtain ⟨rfl, rfl, rfl, rfl⟩ := H
    go_enter Try.func49, Try.ntmps49
    try go_wp2_with (first | ((with_reducible refine gD (N := 2) rfl ?_); refine bE3 2 #[.int .u64 a0_0, .int .u64 a0_1] 25 ?hr ?_; (case hr => first | (go_simp; done) | (go_simp; rfl)); intro gb489 hg w11 hbox hb; have n0_ := Aside0.mk (bS3 HB.out hb); have n1_ := Aside0.mk (hbox); have n2_ := Aside0.mk ((bZ3 hg HB.out)); have n3_ := Aside0.mk ((bZ3 hg HB.out)); clear HB; have HB := n0_; have BK489 := n1_; have GW489 := n2_; have GE489 := n3_; clear n0_ n1_ n2_ n3_; clear hb hbox hg) | ((with_reducible refine gD (N := 4) rfl ?_); refine bE3 4 #[.int .u64 0, .int .u64 0] 25 ?hr ?_; (case hr => first | (go_simp; done) | (go_simp; rfl)); intro gb490 hg w12 hbox hb; have n0_ := Aside0.mk (bB3 BK489.out hb); have n1_ := Aside0.mk (bS3 HB.out hb); have n2_ := Aside0.mk (hbox); have n3_ := Aside0.mk ((bZ3 hg HB.out)); have n4_ := Aside0.mk ((bZ3 hg HB.out)); have n5_ := Aside0.mk ((bL3 hg BK489.out)); have n6_ := Aside0.mk ((bG3 hg BK489.out)); clear BK489; clear HB; have BK489 := n0_; have HB := n1_; have BK490 := n2_; have GW490 := n3_; have GE490 := n4_; have NB489_490 := n5_; have NB490_489 := n6_; clear n0_ n1_ n2_ n3_ n4_ n5_ n6_; clear hb hbox hg; have hnb13 := NB489_490.out; have hnc13 := NB490_489.out; have hcz14_0 : w12.cell? ⟨gb489, 0, none⟩ = some (.int .u64 a0_0) := (blk_cell BK489.out 0).trans rfl; have hcz14_1 : w12.cell? ⟨gb489, 1, none⟩ = some (.int .u64 a0_1) := (blk_cell BK489.out 1).trans rfl; have hfz14_0 := blk_frozen BK489.out 0; have hfz14_1 := blk_frozen BK489.out 1) | ((with_reducible refine gC (f := 88) rfl ?_); refine goesL_ (some 16) rfl rfl Try.func88 (by kernel_rfl) rfl #[.agg #[.int .u64 a0_0, .int .u64 a0_1], .int .i64 ji8] rfl (by (try simp only [List.map_toArray, List.map_cons, List.map_nil]); first | done | (simp only [hji8]; rfl) | rfl | (simp only [List.length_drop, List.length_take]; rfl)) ?_; (with_reducible refine (twin_shr.calls a0_0 a0_1 ji8 t491 t492 _ A9.out).mono ?_); rintro e w15 ⟨rfl, hb⟩; refine ⟨_, rfl, ?_⟩; have n0_ := Aside0.mk (bB3 BK489.out hb); have n1_ := Aside0.mk (bB3 BK490.out hb); have n2_ := Aside0.mk (bS3 HB.out hb); clear BK489; clear BK490; clear HB; have BK489 := n0_; have BK490 := n1_; have HB := n2_; clear n0_ n1_ n2_; (try clear hb); (try clear hb2); (try clear hk); (try clear hi)) | ((with_reducible refine gD (N := 7) rfl ?_); refine bE3 7 #[.int .u64 0, .int .u64 0] 25 ?hr ?_; (case hr => first | (go_simp; done) | (go_simp; rfl)); intro gb493 hg w16 hbox hb; have n0_ := Aside0.mk (bB3 BK489.out hb); have n1_ := Aside0.mk (bB3 BK490.out hb); have n2_ := Aside0.mk (bS3 HB.out hb); have n3_ := Aside0.mk (hbox); have n4_ := Aside0.mk ((bZ3 hg HB.out)); have n5_ := Aside0.mk ((bZ3 hg HB.out)); have n6_ := Aside0.mk ((bL3 hg BK489.out)); have n7_ := Aside0.mk ((bG3 hg BK489.out)); have n8_ := Aside0.mk ((bL3 hg BK490.out)); have n9_ := Aside0.mk ((bG3 hg BK490.out)); clear BK489; clear BK490; clear HB; have BK489 := n0_; have BK490 := n1_; have HB := n2_; have BK493 := n3_; have GW493 := n4_; have GE493 := n5_; have NB489_493 := n6_; have NB493_489 := n7_; have NB490_493 := n8_; have NB493_490 := n9_; clear n0_ n1_ n2_ n3_ n4_ n5_ n6_ n7_ n8_ n9_; clear hb hbox hg; have hnb17 := NB493_489.out; have hnc17 := NB489_493.out; have hnb18 := NB493_490.out; have hnc18 := NB490_493.out; have hcz19_0 : w16.cell? ⟨gb493, 0, none⟩ = some (.int .u64 0) := (blk_cell BK493.out 0).trans rfl; have hcz19_1 : w16.cell? ⟨gb493, 1, none⟩ = some (.int .u64 0) := (blk_cell BK493.out 1).trans rfl; have hfz19_0 := blk_frozen BK493.out 0; have hfz19_1 := blk_frozen BK493.out 1))
    have n0_ : Aside0 (((w16.setCell ⟨gb493, 0, none⟩ (.int .u64 t491)).setCell ⟨gb493, 1, none⟩ (.int .u64 t492)).heap[gb489]? = some (.cells #[.int .u64 a0_0, .int .u64 a0_1] 25 (0, 0))) := ⟨by (with_reducible repeat (first | refine bN ?_ _ | refine bD ?_ | refine bA ?_ _)); refine blk_far ?_ NB489_493.out _; (with_reducible repeat (first | refine bN ?_ _ | refine bD ?_ | refine bA ?_ _)); refine blk_far ?_ NB489_493.out _; (with_reducible repeat (first | refine bN ?_ _ | refine bD ?_ | refine bA ?_ _)); exact BK489.out⟩
    have n1_ : Aside0 (((w16.setCell ⟨gb493, 0, none⟩ (.int .u64 t491)).setCell ⟨gb493, 1, none⟩ (.int .u64 t492)).heap[gb490]? = some (.cells #[.int .u64 0, .int .u64 0] 25 (0, 0))) := ⟨by (with_reducible repeat (first | refine bN ?_ _ | refine bD ?_ | refine bA ?_ _)); refine blk_far ?_ NB490_493.out _; (with_reducible repeat (first | refine bN ?_ _ | refine bD ?_ | refine bA ?_ _)); refine blk_far ?_ NB490_493.out _; (with_reducible repeat (first | refine bN ?_ _ | refine bD ?_ | refine bA ?_ _)); exact BK490.out⟩
    have n2_ : Aside0 (((w16.setCell ⟨gb493, 0, none⟩ (.int .u64 t491)).setCell ⟨gb493, 1, none⟩ (.int .u64 t492)).heap[gb493]? = some (.cells #[.int .u64 t491, .int .u64 t492] 25 (0, 0))) := ⟨by (with_reducible repeat (first | refine bN ?_ _ | refine bD ?_ | refine bA ?_ _)); refine blk_put (cs := #[.int .u64 t491, .int .u64 0]) ?_ 1 _ rfl; (with_reducible repeat (first | refine bN ?_ _ | refine bD ?_ | refine bA ?_ _)); refine blk_put (cs := #[.int .u64 0, .int .u64 0]) ?_ 0 _ rfl; (with_reducible repeat (first | refine bN ?_ _ | refine bD ?_ | refine bA ?_ _)); exact BK493.out⟩
    have n3_ : Aside0 (Below w.heap.size w ((w16.setCell ⟨gb493, 0, none⟩ (.int .u64 t491)).setCell ⟨gb493, 1, none⟩ (.int .u64 t492))) := ⟨by repeat (first | (with_reducible first | exact HB.out | apply pA | apply pN | apply p1 | refine pS ?_ GE489.out | refine pS ?_ GE490.out | refine pS ?_ GE493.out) | exact HB.out)⟩
    (try clear BK489)
    (try clear BK490)
    (try clear BK493)
    (try clear HB)
    generalize ((w16.setCell ⟨gb493, 0, none⟩ (.int .u64 t491)).setCell ⟨gb493, 1, none⟩ (.int .u64 t492)) = w20 at n0_ n1_ n2_ n3_ ⊢
    have BK489 := n0_
    have BK490 := n1_
    have BK493 := n2_
    have HB := n3_
    clear n0_ n1_ n2_ n3_
    have n0_ := Aside0.mk (bD BK489.out)
    have n1_ := Aside0.mk (bD BK490.out)
    have n2_ := Aside0.mk (bD BK493.out)
    have n3_ := Aside0.mk (p1 HB.out)
    clear BK489
    clear BK490
    clear BK493
    clear HB
    have BK489 := n0_
    have BK490 := n1_
    have BK493 := n2_
    have HB := n3_
    clear n0_ n1_ n2_ n3_
    refine start_ (n := 9) (S := fun w' => w'.cell? ⟨gb493, 0, none⟩ = some (.int .u64 t491) ∧ w'.cell? ⟨gb493, 1, none⟩ = some (.int .u64 t492) ∧ w'.cell? ⟨gb489, 0, none⟩ = some (.int .u64 a0_0) ∧ w'.cell? ⟨gb489, 1, none⟩ = some (.int .u64 a0_1)) (ds := []) #[false, false, false, false, false, false, false, false, false] (by kernel_rfl) rfl rfl ⟨(blk_cell BK493.out 0).trans rfl, (blk_cell BK493.out 1).trans rfl, (blk_cell BK489.out 0).trans rfl, (blk_cell BK489.out 1).trans rfl⟩ (fun hHeld => ?_); refine with_tabW twin_Shr.tab5 twin_Shr.bits5 (fun HT_ HW_ => ?_)
    generalize w20.drew = w21 at BK489 BK490 BK493 HB hHeld ⊢
    refine pure_ (i := 2) (N := some 19) (v := ?_) (a' := ?_) #[false, false, true, false, false, false, false, false, false] rfl rfl (any_of HT_.out (by kernel_rfl)) (fun _ _ _ h => h) (Or.inl ⟨by rfl, ?_⟩) ?_ ?_
    rotate_left
    · intro w'
      go_simp
      with_reducible rfl
    rotate_left
    · simp only [Act.put, List.setIfInBounds_toArray, List.set_cons_zero, List.set_cons_succ, i64_w, i32_w]
      rfl
    refine take_ (i := 0) (N := some 17) (v := ?_) (a' := ?_) #[true, false, true, false, false, false, false, false, false] rfl rfl (take_ofW HT_.out HW_.out (by kernel_rfl)) (fun _ _ _ h => h) (Or.inl ⟨by rfl, ?_⟩) hHeld ?_ ?_
    rotate_left
    · rintro w' ⟨s0, s1, s2, s3⟩
      go_simp
      with_reducible rfl
    rotate_left
    · simp only [Act.put, List.setIfInBounds_toArray, List.set_cons_zero, List.set_cons_succ, i64_w, i32_w]
      rfl
    refine take_ (i := 1) (N := some 18) (v := ?_) (a' := ?_) #[true, true, true, false, false, false, false, false, false] rfl rfl (take_ofW HT_.out HW_.out (by kernel_rfl)) (fun _ _ _ h => h) (Or.inl ⟨by rfl, ?_⟩) hHeld ?_ ?_
    rotate_left
    · rintro w' ⟨s0, s1, s2, s3⟩
      go_simp
      with_reducible rfl
    rotate_left
    · simp only [Act.put, List.setIfInBounds_toArray, List.set_cons_zero, List.set_cons_succ, i64_w, i32_w]
      rfl
    refine take_ (i := 4) (N := some 21) (v := ?_) (a' := ?_) #[true, true, true, false, true, false, false, false, false] rfl rfl (take_ofW HT_.out HW_.out (by kernel_rfl)) (fun _ _ _ h => h) (Or.inl ⟨by rfl, ?_⟩) hHeld ?_ ?_
    rotate_left
    · rintro w' ⟨s0, s1, s2, s3⟩
      go_simp
      with_reducible rfl
    rotate_left
    · simp only [Act.put, List.setIfInBounds_toArray, List.set_cons_zero, List.set_cons_succ, i64_w, i32_w]
      rfl
    refine one_ (i := 3) (N := some 20) #[true, true, true, true, true, false, false, false, false] rfl rfl (one_of HT_.out (by kernel_rfl)) (by decide) (fun K hK => ?_)
    refine goes_ Try.func89 (by kernel_rfl) rfl #[.agg #[.int .u64 t491, .int .u64 t492], .int .i64 ji8] (by rfl) rfl rfl (by (try simp only [List.map_toArray, List.map_cons, List.map_nil]); first | done | (simp only [hji8]; rfl) | rfl | (simp only [List.length_drop, List.length_take]; rfl)) ?_
    with_reducible refine (twin_shl.calls t491 t492 ji8 t494 t495 _ A10.out).mono ?_
    rintro e w22 ⟨rfl, hb⟩
    refine ⟨_, rfl, ?_⟩
    have n0_ := Aside0.mk (bB3 BK489.out hb)
    have n1_ := Aside0.mk (bB3 BK490.out hb)
    have n2_ := Aside0.mk (bB3 BK493.out hb)
    have n3_ := Aside0.mk (bS3 HB.out hb)
    clear BK489
    clear BK490
    clear BK493
    clear HB
    have BK489 := n0_
    have BK490 := n1_
    have BK493 := n2_
    have HB := n3_
    clear n0_ n1_ n2_ n3_
    (try clear hb)
    (try clear hb2)
    (try clear hk)
    (try clear hi)
    refine hK.out _ _ ⟨(blk_cell BK493.out 0).trans rfl, (blk_cell BK493.out 1).trans rfl, (blk_cell BK489.out 0).trans rfl, (blk_cell BK489.out 1).trans rfl⟩ (fun hHeld => ?_)
    clear hK K
    refine norm_ (a' := ?_) ?_ ?_
    rotate_left
    · show Act.put _ (some 20) _ = _
      simp only [Act.put, List.setIfInBounds_toArray, List.set_cons_zero, List.set_cons_succ, i64_w, i32_w]
      rfl
    refine pure_ (i := 5) (N := some 22) (v := ?_) (a' := ?_) #[true, true, true, true, true, true, false, false, false] rfl rfl (any_of HT_.out (by kernel_rfl)) (fun _ _ _ h => h) (Or.inl ⟨by rfl, ?_⟩) ?_ ?_
    rotate_left
    · intro w'
      go_simp
      with_reducible rfl
    rotate_left
    · simp only [Act.put, List.setIfInBounds_toArray, List.set_cons_zero, List.set_cons_succ, i64_w, i32_w]
      rfl
    refine one_ (i := 6) (N := none) #[true, true, true, true, true, true, true, false, false] rfl rfl (one_of HT_.out (by kernel_rfl)) (by decide) (fun K hK => ?_)
    have hs23 : w22.cell? ⟨gb490, 0, none⟩ = some (.int .u64 0) := (blk_cell BK490.out 0).trans rfl
    have hfs23 := blk_frozen BK490.out 0
    have hns23_0 := NB489_490.out
    have hns23_2 := NB493_490.out
    have hms23_0 := NB490_489.out
    have hms23_2 := NB490_493.out
    have hs24 : w22.cell? ⟨gb490, 1, none⟩ = some (.int .u64 0) := (blk_cell BK490.out 1).trans rfl
    have hfs24 := blk_frozen BK490.out 1
    have hns24_0 := NB489_490.out
    have hns24_2 := NB493_490.out
    have hms24_0 := NB490_489.out
    have hms24_2 := NB490_493.out
    refine skip_ (w1 := ?_) (by rfl) rfl ?_ ?_
    rotate_left
    · go_simp
      rfl
    refine hK.out _ _ ⟨((cell_far (p := ⟨gb490, _, none⟩) NB493_490.out _).trans (((cell_far (p := ⟨gb490, _, none⟩) NB493_490.out _).trans (hHeld.1)))), ((cell_far (p := ⟨gb490, _, none⟩) NB493_490.out _).trans (((cell_far (p := ⟨gb490, _, none⟩) NB493_490.out _).trans (hHeld.2.1)))), ((cell_far (p := ⟨gb490, _, none⟩) NB489_490.out _).trans (((cell_far (p := ⟨gb490, _, none⟩) NB489_490.out _).trans (hHeld.2.2.1)))), ((cell_far (p := ⟨gb490, _, none⟩) NB489_490.out _).trans (((cell_far (p := ⟨gb490, _, none⟩) NB489_490.out _).trans (hHeld.2.2.2))))⟩ (fun hHeld => ?_)
    clear hK K
    refine pure_ (i := 7) (N := some 5) (v := ?_) (a' := ?_) #[true, true, true, true, true, true, true, true, false] rfl rfl (any_of HT_.out (by kernel_rfl)) (fun _ _ _ h => h) (Or.inl ⟨by rfl, ?_⟩) ?_ ?_
    rotate_left
    · intro w'
      go_simp
      with_reducible rfl
    rotate_left
    · simp only [Act.put, List.setIfInBounds_toArray, List.set_cons_zero, List.set_cons_succ, i64_w, i32_w]
      rfl
    refine pure_ (i := 8) (N := some 6) (v := ?_) (a' := ?_) #[true, true, true, true, true, true, true, true, true] rfl rfl (any_of HT_.out (by kernel_rfl)) (fun _ _ _ h => h) (Or.inl ⟨by rfl, ?_⟩) ?_ ?_
    rotate_left
    · intro w'
      go_simp
      with_reducible rfl
    rotate_left
    · simp only [Act.put, List.setIfInBounds_toArray, List.set_cons_zero, List.set_cons_succ, i64_w, i32_w]
      rfl
    refine done_ (done_of HT_.out (by kernel_rfl)) ?_
    try go_wp2
    refine bodyPost_ret (results_ctt rfl _ _ gb490 25 #[.int .u64 t491, .int .u64 t492] (0, 0) _ rfl (by (with_reducible repeat (first | refine bN ?_ _ | refine bD ?_ | refine bA ?_ _)); refine blk_put (cs := #[.int .u64 t491, .int .u64 0]) ?_ 1 _ rfl; (with_reducible repeat (first | refine bN ?_ _ | refine bD ?_ | refine bA ?_ _)); refine blk_put (cs := #[.int .u64 0, .int .u64 0]) ?_ 0 _ rfl; (with_reducible repeat (first | refine bN ?_ _ | refine bD ?_ | refine bA ?_ _)); exact BK490.out) Try.underlying25 rfl (by kernel_rfl)) rfl ?_
    exact ⟨by first | rfl | (simp [errW_none, errW_some] <;> rfl) | (simp only [← hji8]; first | rfl | (simp [errW_none, errW_some] <;> rfl)) | (simp [*, errW_none, errW_some] <;> rfl), by repeat (first | (with_reducible first | exact HB.out | apply pA | apply pN | apply p1 | refine pS ?_ GE489.out | refine pS ?_ GE490.out | refine pS ?_ GE493.out) | exact HB.out)⟩

/-! ### twin_Len: function 65 -/
def twin_Len.f (k : Nat) (a0_0 : Int) (a0_1 : Int) : Option (Int) := if a0_0 > 0 then ((bits_Len64.f k a0_0).bind fun t602 => (some (wrap64 (64 + t602)))) else ((bits_Len64.f k a0_1).bind fun t603 => (some t603))
theorem twin_Len.mono : ∀ a0 a1 k, LeO (twin_Len.f k a0 a1) (twin_Len.f (k + 1) a0 a1) := by
  intro a0 a1 k
  unfold twin_Len.f
  repeat' first
      | (with_reducible exact bits_Len64.mono _ _)
      | (with_reducible exact LeO.refl _)
      | (with_reducible exact LeO.none _)
      | (with_reducible refine LeO.ite ?_ ?_)
      | (with_reducible refine LeO.bind ?_ (fun _ => ?_))
      | exact bits_Len64.mono _ _
      | exact LeO.none _
      | refine LeO.ite ?_ ?_
      | refine LeO.bind ?_ (fun _ => ?_)
set_option maxHeartbeats 8000000 in
set_option maxRecDepth 100000 in
theorem twin_Len.calls (k : Nat) (a0_0 : Int) (a0_1 : Int) (r : Int) (w : World) (h : twin_Len.f k a0_0 a0_1 = some r) :
    Calls Try.prog 65 #[.agg #[.int .u64 a0_0, .int .u64 a0_1]] w fun e w' => e = .returned (.int .i64 r) ∧ Below w.heap.size w w' := by
  have hu25 := Try.underlying25
  have HB := Aside0.mk (Below.refl w.heap.size w)
  have H : (if a0_0 > 0 then ((bits_Len64.f k a0_0).bind fun t602 => (some (wrap64 (64 + t602)))) else ((bits_Len64.f k a0_1).bind fun t603 => (some t603))) = some r := h
  clear h
  by_cases c2 : a0_0 > 0
  · rw [if_pos c2] at H
    have c2b0 : decide (0 < a0_0) = true := decide_eq_true c2
    clear c2
    replace H := Option.bind_eq_some_iff.mp H
    obtain ⟨t602, A30, H⟩ := H
    replace H : (some (wrap64 (64 + t602))) = some r := H
    have A3 := Aside0.mk A30
    clear A30
    obtain rfl := Option.some.inj H
    go_enter Try.func65, Try.ntmps65
    go_wp2_with (first | ((with_reducible refine gD (N := 1) rfl ?_); refine bE3 1 #[.int .u64 a0_0, .int .u64 a0_1] 25 ?hr ?_; (case hr => first | (go_simp; done) | (go_simp; rfl)); intro gb601 hg w4 hbox hb; have n0_ := Aside0.mk (bS3 HB.out hb); have n1_ := Aside0.mk (hbox); have n2_ := Aside0.mk ((bZ3 hg HB.out)); have n3_ := Aside0.mk ((bZ3 hg HB.out)); clear HB; have HB := n0_; have BK601 := n1_; have GW601 := n2_; have GE601 := n3_; clear n0_ n1_ n2_ n3_; clear hb hbox hg; have hcz5_0 : w4.cell? ⟨gb601, 0, none⟩ = some (.int .u64 a0_0) := (blk_cell BK601.out 0).trans rfl; have hcz5_1 : w4.cell? ⟨gb601, 1, none⟩ = some (.int .u64 a0_1) := (blk_cell BK601.out 1).trans rfl; have hfz5_0 := blk_frozen BK601.out 0; have hfz5_1 := blk_frozen BK601.out 1) | ((with_reducible refine gC (f := 93) rfl ?_); refine goesY_ (some 8) Try.func93 #[.int .u64 a0_0] ?_; (with_reducible refine (bits_Len64.calls k a0_0 t602 _ A3.out).mono ?_); rintro e w' ⟨rfl, ⟨nd, rfl⟩⟩; refine ⟨_, rfl, ?_⟩))
    go_ret
    exact ⟨by first | rfl | (simp [errW_none, errW_some] <;> rfl) | (simp [*, errW_none, errW_some] <;> rfl), by repeat (first | (with_reducible first | exact HB.out | apply pA | apply pN | apply p1 | refine pS ?_ GE601.out) | exact HB.out)⟩
  · rw [if_neg c2] at H
    have c2b0 : decide (0 < a0_0) = false := decide_eq_false c2
    clear c2
    replace H := Option.bind_eq_some_iff.mp H
    obtain ⟨t603, A60, H⟩ := H
    replace H : (some t603) = some r := H
    have A6 := Aside0.mk A60
    clear A60
    obtain rfl := Option.some.inj H
    go_enter Try.func65, Try.ntmps65
    go_wp2_with (first | ((with_reducible refine gD (N := 1) rfl ?_); refine bE3 1 #[.int .u64 a0_0, .int .u64 a0_1] 25 ?hr ?_; (case hr => first | (go_simp; done) | (go_simp; rfl)); intro gb601 hg w7 hbox hb; have n0_ := Aside0.mk (bS3 HB.out hb); have n1_ := Aside0.mk (hbox); have n2_ := Aside0.mk ((bZ3 hg HB.out)); have n3_ := Aside0.mk ((bZ3 hg HB.out)); clear HB; have HB := n0_; have BK601 := n1_; have GW601 := n2_; have GE601 := n3_; clear n0_ n1_ n2_ n3_; clear hb hbox hg; have hcz8_0 : w7.cell? ⟨gb601, 0, none⟩ = some (.int .u64 a0_0) := (blk_cell BK601.out 0).trans rfl; have hcz8_1 : w7.cell? ⟨gb601, 1, none⟩ = some (.int .u64 a0_1) := (blk_cell BK601.out 1).trans rfl; have hfz8_0 := blk_frozen BK601.out 0; have hfz8_1 := blk_frozen BK601.out 1) | ((with_reducible refine gC (f := 93) rfl ?_); refine goesY_ (some 12) Try.func93 #[.int .u64 a0_1] ?_; (with_reducible refine (bits_Len64.calls k a0_1 t603 _ A6.out).mono ?_); rintro e w' ⟨rfl, ⟨nd, rfl⟩⟩; refine ⟨_, rfl, ?_⟩))
    go_ret
    exact ⟨by first | rfl | (simp [errW_none, errW_some] <;> rfl) | (simp [*, errW_none, errW_some] <;> rfl), by repeat (first | (with_reducible first | exact HB.out | apply pA | apply pN | apply p1 | refine pS ?_ GE601.out) | exact HB.out)⟩

/-! ### twin_Shl: function 61 -/
def twin_Shl.f (k : Nat) (a0_0 : Int) (a0_1 : Int) (a1 : Int) : Option (Int × Int × Bool × Option Int) := if a1 < 0 then (some (0, 0, false, some 1)) else ((twin_shl.f a0_0 a0_1 (mn a1 128)).bind fun bt606 => ((twin_Len.f k a0_0 a0_1).bind fun t608 => (some (bt606.1, bt606.2, decide (t608 > (wrap64 (128 - (mn a1 128)))), none))))
theorem twin_Shl.mono : ∀ a0 a1 a2 k, LeO (twin_Shl.f k a0 a1 a2) (twin_Shl.f (k + 1) a0 a1 a2) := by
  intro a0 a1 a2 k
  unfold twin_Shl.f
  repeat' first
      | (with_reducible exact twin_Len.mono _ _ _)
      | (with_reducible exact LeO.refl _)
      | (with_reducible exact LeO.none _)
      | (with_reducible refine LeO.ite ?_ ?_)
      | (with_reducible refine LeO.bind ?_ (fun _ => ?_))
      | exact twin_Len.mono _ _ _
      | exact LeO.none _
      | refine LeO.ite ?_ ?_
      | refine LeO.bind ?_ (fun _ => ?_)
def twin_Shl.T4 : Bool × List (List Nat × List Nat) := (true, [([], []), ([], []), ([0, 1], [0, 1]), ([], []), ([3, 2], [3]), ([], []), ([5], [5]), ([4, 6], [4, 6]), ([2, 4, 0, 1, 2], [2]), ([7, 8, 0, 1, 2, 3, 4, 5, 6, 7, 8], [7]), ([9, 0, 1, 2, 3, 4, 5, 6, 7, 8, 9], [])])
def twin_Shl.B4 : List Nat := [0, 0, 3, 0, 15, 0, 32, 127, 31, 511, 1023]
theorem twin_Shl.tab4 : rtab .any (opsOf Try.f61 4) = twin_Shl.T4 := by kernel_rfl
theorem twin_Shl.bits4 : waitsOk twin_Shl.T4.2 twin_Shl.B4 = true := by kernel_rfl
set_option maxHeartbeats 8000000 in
set_option maxRecDepth 100000 in
theorem twin_Shl.calls (k : Nat) (a0_0 : Int) (a0_1 : Int) (a1 : Int) (r1 : Int) (r2 : Int) (r3 : Bool) (r4 : Option Int) (w : World) (h : twin_Shl.f k a0_0 a0_1 a1 = some (r1, r2, r3, r4)) :
    Calls Try.prog 61 #[.agg #[.int .u64 a0_0, .int .u64 a0_1], .int .i64 a1] w fun e w' => e = .returned (.tuple #[.agg #[.int .u64 r1, .int .u64 r2], .bool r3, errW r4]) ∧ Below w.heap.size w w' := by
  have hu25 := Try.underlying25
  have hu29 := Try.underlying29
  have hu77 := Try.underlying77
  have HB := Aside0.mk (Below.refl w.heap.size w)
  have H : (if a1 < 0 then (some (0, 0, false, some 1)) else ((twin_shl.f a0_0 a0_1 (mn a1 128)).bind fun bt606 => ((twin_Len.f k a0_0 a0_1).bind fun t608 => (some (bt606.1, bt606.2, decide (t608 > (wrap64 (128 - (mn a1 128)))), none))))) = some (r1, r2, r3, r4) := h
  clear h
  by_cases c3 : a1 < 0
  · rw [if_pos c3] at H
    have c3b0 : decide (a1 < 0) = true := decide_eq_true c3
    clear c3
    simp only [Option.some.injEq, Prod.mk.injEq] at H
    obtain ⟨rfl, rfl, rfl, rfl⟩ := H
    go_enter Try.func61, Try.ntmps61
    go_wp2_with (first | ((with_reducible refine gD (N := 2) rfl ?_); refine bE3 2 #[.int .u64 a0_0, .int .u64 a0_1] 25 ?hr ?_; (case hr => first | (go_simp; done) | (go_simp; rfl)); intro gb604 hg w4 hbox hb; have n0_ := Aside0.mk (bS3 HB.out hb); have n1_ := Aside0.mk (hbox); have n2_ := Aside0.mk ((bZ3 hg HB.out)); have n3_ := Aside0.mk ((bZ3 hg HB.out)); clear HB; have HB := n0_; have BK604 := n1_; have GW604 := n2_; have GE604 := n3_; clear n0_ n1_ n2_ n3_; clear hb hbox hg) | ((with_reducible refine gD (N := 4) rfl ?_); refine bE3 4 #[.int .u64 0, .int .u64 0] 25 ?hr ?_; (case hr => first | (go_simp; done) | (go_simp; rfl)); intro gb605 hg w5 hbox hb; have n0_ := Aside0.mk (bB3 BK604.out hb); have n1_ := Aside0.mk (bS3 HB.out hb); have n2_ := Aside0.mk (hbox); have n3_ := Aside0.mk ((bZ3 hg HB.out)); have n4_ := Aside0.mk ((bZ3 hg HB.out)); have n5_ := Aside0.mk ((bL3 hg BK604.out)); have n6_ := Aside0.mk ((bG3 hg BK604.out)); clear BK604; clear HB; have BK604 := n0_; have HB := n1_; have BK605 := n2_; have GW605 := n3_; have GE605 := n4_; have NB604_605 := n5_; have NB605_604 := n6_; clear n0_ n1_ n2_ n3_ n4_ n5_ n6_; clear hb hbox hg; have hnb6 := NB605_604.out; have hnc6 := NB604_605.out; have hcz7_0 : w5.cell? ⟨gb605, 0, none⟩ = some (.int .u64 0) := (blk_cell BK605.out 0).trans rfl; have hcz7_1 : w5.cell? ⟨gb605, 1, none⟩ = some (.int .u64 0) := (blk_cell BK605.out 1).trans rfl; have hfz7_0 := blk_frozen BK605.out 0; have hfz7_1 := blk_frozen BK605.out 1))
    refine bodyPost_ret (results_ctt rfl _ _ gb605 25 #[.int .u64 0, .int .u64 0] (0, 0) _ rfl (by (with_reducible repeat (first | refine bN ?_ _ | refine bD ?_ | refine bA ?_ _)); refine blk_put (cs := #[.int .u64 0, .int .u64 0]) ?_ 1 _ rfl; (with_reducible repeat (first | refine bN ?_ _ | refine bD ?_ | refine bA ?_ _)); refine blk_put (cs := #[.int .u64 0, .int .u64 0]) ?_ 0 _ rfl; (with_reducible repeat (first | refine bN ?_ _ | refine bD ?_ | refine bA ?_ _)); exact BK605.out) Try.underlying25 rfl (by kernel_rfl)) rfl ?_
    exact ⟨by first | rfl | (simp [errW_none, errW_some] <;> rfl) | (simp [*, errW_none, errW_some] <;> rfl), by repeat (first | (with_reducible first | exact HB.out | apply pA | apply pN | apply p1 | refine pS ?_ GE604.out | refine pS ?_ GE605.out) | exact HB.out)⟩
  · rw [if_neg c3] at H
    have c3b0 : decide (a1 < 0) = false := decide_eq_false c3
    clear c3
    obtain ⟨ji8, hji8⟩ : ∃ j_ : Int, (mn a1 128) = j_ := ⟨_, rfl⟩
    replace H : ((twin_shl.f a0_0 a0_1 (ji8)).bind fun bt606 => ((twin_Len.f k a0_0 a0_1).bind fun t608 => (some (bt606.1, bt606.2, decide (t608 > (wrap64 (128 - (ji8)))), none)))) = some (r1, r2, r3, r4) := by first | (rw [hji8] at H; exact H) | (simp only [hji8] at H ⊢; exact H)
    (try (have hji8h : ji8 ≤ 128 := by (rw [← hji8]; unfold mn; (repeat' split) <;> omega)))
    (try (have hji8g : ji8 ≤ 64 := by omega))
    have hji8_ : (if 128 < a1 then 128 else a1) = ji8 := hji8
    replace H := Option.bind_eq_some_iff.mp H
    obtain ⟨⟨t606, t607⟩, A90, H⟩ := H
    replace H : ((twin_Len.f k a0_0 a0_1).bind fun t608 => (some (t606, t607, decide (t608 > (wrap64 (128 - (ji8)))), none))) = some (r1, r2, r3, r4) := H
    have A9 := Aside0.mk A90
    clear A90
    replace H := Option.bind_eq_some_iff.mp H
    obtain ⟨t608, A100, H⟩ := H
    replace H : (some (t606, t607, decide (t608 > (wrap64 (128 - (ji8)))), none)) = some (r1, r2, r3, r4) := H
    have A10 := Aside0.mk A100
    clear A100
    simp only [Option.some.injEq, Prod.mk.injEq] at H
    obtain ⟨rfl, rfl, rfl, rfl⟩ := H
    go_enter Try.func61, Try.ntmps61
    try go_wp2_with (first | ((with_reducible refine gD (N := 2) rfl ?_); refine bE3 2 #[.int .u64 a0_0, .int .u64 a0_1] 25 ?hr ?_; (case hr => first | (go_simp; done) | (go_simp; rfl)); intro gb604 hg w11 hbox hb; have n0_ := Aside0.mk (bS3 HB.out hb); have n1_ := Aside0.mk (hbox); have n2_ := Aside0.mk ((bZ3 hg HB.out)); have n3_ := Aside0.mk ((bZ3 hg HB.out)); clear HB; have HB := n0_; have BK604 := n1_; have GW604 := n2_; have GE604 := n3_; clear n0_ n1_ n2_ n3_; clear hb hbox hg) | ((with_reducible refine gD (N := 4) rfl ?_); refine bE3 4 #[.int .u64 0, .int .u64 0] 25 ?hr ?_; (case hr => first | (go_simp; done) | (go_simp; rfl)); intro gb605 hg w12 hbox hb; have n0_ := Aside0.mk (bB3 BK604.out hb); have n1_ := Aside0.mk (bS3 HB.out hb); have n2_ := Aside0.mk (hbox); have n3_ := Aside0.mk ((bZ3 hg HB.out)); have n4_ := Aside0.mk ((bZ3 hg HB.out)); have n5_ := Aside0.mk ((bL3 hg BK604.out)); have n6_ := Aside0.mk ((bG3 hg BK604.out)); clear BK604; clear HB; have BK604 := n0_; have HB := n1_; have BK605 := n2_; have GW605 := n3_; have GE605 := n4_; have NB604_605 := n5_; have NB605_604 := n6_; clear n0_ n1_ n2_ n3_ n4_ n5_ n6_; clear hb hbox hg))
    have n0_ := Aside0.mk (bD BK604.out)
    have n1_ := Aside0.mk (bD BK605.out)
    have n2_ := Aside0.mk (p1 HB.out)
    clear BK604
    clear BK605
    clear HB
    have BK604 := n0_
    have BK605 := n1_
    have HB := n2_
    clear n0_ n1_ n2_
    refine start_ (n := 11) (S := fun w' => w'.cell? ⟨gb604, 0, none⟩ = some (.int .u64 a0_0) ∧ w'.cell? ⟨gb604, 1, none⟩ = some (.int .u64 a0_1)) (ds := []) #[false, false, false, false, false, false, false, false, false, false, false] (by kernel_rfl) rfl rfl ⟨(blk_cell BK604.out 0).trans rfl, (blk_cell BK604.out 1).trans rfl⟩ (fun hHeld => ?_); refine with_tabW twin_Shl.tab4 twin_Shl.bits4 (fun HT_ HW_ => ?_)
    generalize w12.drew = w13 at BK604 BK605 HB hHeld ⊢
    refine pure_ (i := 1) (N := some 14) (v := ?_) (a' := ?_) #[false, true, false, false, false, false, false, false, false, false, false] rfl rfl (any_of HT_.out (by kernel_rfl)) (fun _ _ _ h => h) (Or.inl ⟨by rfl, ?_⟩) ?_ ?_
    rotate_left
    · intro w'
      go_simp
      with_reducible rfl
    rotate_left
    · simp only [Act.put, List.setIfInBounds_toArray, List.set_cons_zero, List.set_cons_succ, i64_w, i32_w]
      rfl
    refine pure_ (i := 5) (N := some 18) (v := ?_) (a' := ?_) #[false, true, false, false, false, true, false, false, false, false, false] rfl rfl (any_of HT_.out (by kernel_rfl)) (fun _ _ _ h => h) (Or.inl ⟨by rfl, ?_⟩) ?_ ?_
    rotate_left
    · intro w'
      go_simp
      with_reducible rfl
    rotate_left
    · simp only [Act.put, List.setIfInBounds_toArray, List.set_cons_zero, List.set_cons_succ, i64_w, i32_w]
      rfl
    refine pure_ (i := 6) (N := some 19) (v := ?_) (a' := ?_) #[false, true, false, false, false, true, true, false, false, false, false] rfl rfl (any_of HT_.out (by kernel_rfl)) (fun _ _ _ h => h) (Or.inl ⟨by rfl, ?_⟩) ?_ ?_
    rotate_left
    · intro w'
      go_simp
      with_reducible rfl
    rotate_left
    · simp only [Act.put, List.setIfInBounds_toArray, List.set_cons_zero, List.set_cons_succ, i64_w, i32_w]
      rfl
    refine take_ (i := 0) (N := some 13) (v := ?_) (a' := ?_) #[true, true, false, false, false, true, true, false, false, false, false] rfl rfl (take_ofW HT_.out HW_.out (by kernel_rfl)) (fun _ _ _ h => h) (Or.inl ⟨by rfl, ?_⟩) hHeld ?_ ?_
    rotate_left
    · rintro w' ⟨s0, s1⟩
      go_simp
      with_reducible rfl
    rotate_left
    · simp only [Act.put, List.setIfInBounds_toArray, List.set_cons_zero, List.set_cons_succ, i64_w, i32_w]
      rfl
    refine take_ (i := 3) (N := some 16) (v := ?_) (a' := ?_) #[true, true, false, true, false, true, true, false, false, false, false] rfl rfl (take_ofW HT_.out HW_.out (by kernel_rfl)) (fun _ _ _ h => h) (Or.inl ⟨by rfl, ?_⟩) hHeld ?_ ?_
    rotate_left
    · rintro w' ⟨s0, s1⟩
      go_simp
      with_reducible rfl
    rotate_left
    · simp only [Act.put, List.setIfInBounds_toArray, List.set_cons_zero, List.set_cons_succ, i64_w, i32_w]
      rfl
    refine one_ (i := 2) (N := some 15) #[true, true, true, true, false, true, true, false, false, false, false] rfl rfl (one_of HT_.out (by kernel_rfl)) (by decide) (fun K hK => ?_)
    refine goes_ Try.func89 (by kernel_rfl) rfl #[.agg #[.int .u64 a0_0, .int .u64 a0_1], .int .i64 ji8] (by rfl) rfl rfl (by (try simp only [List.map_toArray, List.map_cons, List.map_nil]); first | done | (simp only [hji8]; rfl) | rfl | (simp only [List.length_drop, List.length_take]; rfl)) ?_
    with_reducible refine (twin_shl.calls a0_0 a0_1 ji8 t606 t607 _ A9.out).mono ?_
    rintro e w14 ⟨rfl, hb⟩
    refine ⟨_, rfl, ?_⟩
    have n0_ := Aside0.mk (bB3 BK604.out hb)
    have n1_ := Aside0.mk (bB3 BK605.out hb)
    have n2_ := Aside0.mk (bS3 HB.out hb)
    clear BK604
    clear BK605
    clear HB
    have BK604 := n0_
    have BK605 := n1_
    have HB := n2_
    clear n0_ n1_ n2_
    (try clear hb)
    (try clear hb2)
    (try clear hk)
    (try clear hi)
    refine hK.out _ _ ⟨(blk_cell BK604.out 0).trans rfl, (blk_cell BK604.out 1).trans rfl⟩ (fun hHeld => ?_)
    clear hK K
    refine norm_ (a' := ?_) ?_ ?_
    rotate_left
    · show Act.put _ (some 15) _ = _
      simp only [Act.put, List.setIfInBounds_toArray, List.set_cons_zero, List.set_cons_succ, i64_w, i32_w]
      rfl
    refine one_ (i := 4) (N := some 17) #[true, true, true, true, true, true, true, false, false, false, false] rfl rfl (one_of HT_.out (by kernel_rfl)) (by decide) (fun K hK => ?_)
    refine goes_ Try.func65 (by kernel_rfl) rfl #[.agg #[.int .u64 a0_0, .int .u64 a0_1]] (by rfl) rfl rfl (by (try simp only [List.map_toArray, List.map_cons, List.map_nil]); first | done | rfl | (simp only [List.length_drop, List.length_take]; rfl)) ?_
    with_reducible refine (twin_Len.calls k a0_0 a0_1 t608 _ A10.out).mono ?_
    rintro e w15 ⟨rfl, hb⟩
    refine ⟨_, rfl, ?_⟩
    have n0_ := Aside0.mk (bB3 BK604.out hb)
    have n1_ := Aside0.mk (bB3 BK605.out hb)
    have n2_ := Aside0.mk (bS3 HB.out hb)
    clear BK604
    clear BK605
    clear HB
    have BK604 := n0_
    have BK605 := n1_
    have HB := n2_
    clear n0_ n1_ n2_
    (try clear hb)
    (try clear hb2)
    (try clear hk)
    (try clear hi)
    refine hK.out _ _ ⟨(blk_cell BK604.out 0).trans rfl, (blk_cell BK604.out 1).trans rfl⟩ (fun hHeld => ?_)
    clear hK K
    refine norm_ (a' := ?_) ?_ ?_
    rotate_left
    · show Act.put _ (some 17) _ = _
      simp only [Act.put, List.setIfInBounds_toArray, List.set_cons_zero, List.set_cons_succ, i64_w, i32_w]
      rfl
    refine pure_ (i := 7) (N := some 20) (v := ?_) (a' := ?_) #[true, true, true, true, true, true, true, true, false, false, false] rfl rfl (any_of HT_.out (by kernel_rfl)) (fun _ _ _ h => h) (Or.inl ⟨by rfl, ?_⟩) ?_ ?_
    rotate_left
    · intro w'
      go_simp
      with_reducible rfl
    rotate_left
    · simp only [Act.put, List.setIfInBounds_toArray, List.set_cons_zero, List.set_cons_succ, i64_w, i32_w]
      rfl
    refine one_ (i := 8) (N := none) #[true, true, true, true, true, true, true, true, true, false, false] rfl rfl (one_of HT_.out (by kernel_rfl)) (by decide) (fun K hK => ?_)
    have hs16 : w15.cell? ⟨gb605, 0, none⟩ = some (.int .u64 0) := (blk_cell BK605.out 0).trans rfl
    have hfs16 := blk_frozen BK605.out 0
    have hns16_0 := NB604_605.out
    have hms16_0 := NB605_604.out
    have hs17 : w15.cell? ⟨gb605, 1, none⟩ = some (.int .u64 0) := (blk_cell BK605.out 1).trans rfl
    have hfs17 := blk_frozen BK605.out 1
    have hns17_0 := NB604_605.out
    have hms17_0 := NB605_604.out
    refine skip_ (w1 := ?_) (by rfl) rfl ?_ ?_
    rotate_left
    · go_simp
      rfl
    refine hK.out _ _ ⟨((cell_far (p := ⟨gb605, _, none⟩) NB604_605.out _).trans (((cell_far (p := ⟨gb605, _, none⟩) NB604_605.out _).trans (hHeld.1)))), ((cell_far (p := ⟨gb605, _, none⟩) NB604_605.out _).trans (((cell_far (p := ⟨gb605, _, none⟩) NB604_605.out _).trans (hHeld.2))))⟩ (fun hHeld => ?_)
    clear hK K
    refine pure_ (i := 9) (N := some 5) (v := ?_) (a' := ?_) #[true, true, true, true, true, true, true, true, true, true, false] rfl rfl (any_of HT_.out (by kernel_rfl)) (fun _ _ _ h => h) (Or.inl ⟨by rfl, ?_⟩) ?_ ?_
    rotate_left
    · intro w'
      go_simp
      with_reducible rfl
    rotate_left
    · simp only [Act.put, List.setIfInBounds_toArray, List.set_cons_zero, List.set_cons_succ, i64_w, i32_w]
      rfl
    refine pure_ (i := 10) (N := some 6) (v := ?_) (a' := ?_) #[true, true, true, true, true, true, true, true, true, true, true] rfl rfl (any_of HT_.out (by kernel_rfl)) (fun _ _ _ h => h) (Or.inl ⟨by rfl, ?_⟩) ?_ ?_
    rotate_left
    · intro w'
      go_simp
      with_reducible rfl
    rotate_left
    · simp only [Act.put, List.setIfInBounds_toArray, List.set_cons_zero, List.set_cons_succ, i64_w, i32_w]
      rfl
    refine done_ (done_of HT_.out (by kernel_rfl)) ?_
    try go_wp2
    refine bodyPost_ret (results_ctt rfl _ _ gb605 25 #[.int .u64 t606, .int .u64 t607] (0, 0) _ rfl (by (with_reducible repeat (first | refine bN ?_ _ | refine bD ?_ | refine bA ?_ _)); refine blk_put (cs := #[.int .u64 t606, .int .u64 0]) ?_ 1 _ rfl; (with_reducible repeat (first | refine bN ?_ _ | refine bD ?_ | refine bA ?_ _)); refine blk_put (cs := #[.int .u64 0, .int .u64 0]) ?_ 0 _ rfl; (with_reducible repeat (first | refine bN ?_ _ | refine bD ?_ | refine bA ?_ _)); exact BK605.out) Try.underlying25 rfl (by kernel_rfl)) rfl ?_
    exact ⟨by first | rfl | (simp [errW_none, errW_some] <;> rfl) | (simp only [← hji8]; first | rfl | (simp [errW_none, errW_some] <;> rfl)) | (simp [*, errW_none, errW_some] <;> rfl), by repeat (first | (with_reducible first | exact HB.out | apply pA | apply pN | apply p1 | refine pS ?_ GE604.out | refine pS ?_ GE605.out) | exact HB.out)⟩

/-! ### twin_Norm: function 63 -/
def twin_Norm.f (k : Nat) (a0_0 : Int) (a0_1 : Int) : Option (Int × Int × Int) := if (a0_0 == 0 && (a0_1 == 0)) = true then (some (a0_0, a0_1, 0)) else ((twin_Len.f k a0_0 a0_1).bind fun t638 => ((twin_shl.f a0_0 a0_1 (wrap64 (128 - t638))).bind fun bt639 => (some (bt639.1, bt639.2, wrap64 (128 - t638)))))
theorem twin_Norm.mono : ∀ a0 a1 k, LeO (twin_Norm.f k a0 a1) (twin_Norm.f (k + 1) a0 a1) := by
  intro a0 a1 k
  unfold twin_Norm.f
  repeat' first
      | (with_reducible exact twin_Len.mono _ _ _)
      | (with_reducible exact LeO.refl _)
      | (with_reducible exact LeO.none _)
      | (with_reducible refine LeO.ite ?_ ?_)
      | (with_reducible refine LeO.bind ?_ (fun _ => ?_))
      | exact twin_Len.mono _ _ _
      | exact LeO.none _
      | refine LeO.ite ?_ ?_
      | refine LeO.bind ?_ (fun _ => ?_)
set_option maxHeartbeats 8000000 in
set_option maxRecDepth 100000 in
theorem twin_Norm.calls (k : Nat) (a0_0 : Int) (a0_1 : Int) (r1 : Int) (r2 : Int) (r3 : Int) (w : World) (h : twin_Norm.f k a0_0 a0_1 = some (r1, r2, r3)) :
    Calls Try.prog 63 #[.agg #[.int .u64 a0_0, .int .u64 a0_1]] w fun e w' => e = .returned (.tuple #[.agg #[.int .u64 r1, .int .u64 r2], .int .i64 r3]) ∧ Below w.heap.size w w' := by
  have hu25 := Try.underlying25
  have HB := Aside0.mk (Below.refl w.heap.size w)
  have H : (if (a0_0 == 0 && (a0_1 == 0)) = true then (some (a0_0, a0_1, 0)) else ((twin_Len.f k a0_0 a0_1).bind fun t638 => ((twin_shl.f a0_0 a0_1 (wrap64 (128 - t638))).bind fun bt639 => (some (bt639.1, bt639.2, wrap64 (128 - t638)))))) = some (r1, r2, r3) := h
  clear h
  by_cases c2 : (a0_0 == 0 && (a0_1 == 0)) = true
  · rw [if_pos c2] at H
    have c2b0 : (a0_0 == 0 && (a0_1 == 0)) = true := c2
    (try (have c2b1 : decide (a0_0 = 0 && (a0_1 == 0)) = true := by simpa using c2))
    (try (have c2b2 : (a0_0 == 0 && (a0_1 == 0)) = true := by simpa using c2))
    clear c2
    simp only [Option.some.injEq, Prod.mk.injEq] at H
    obtain ⟨rfl, rfl, rfl⟩ := H
    go_enter Try.func63, Try.ntmps63
    go_wp2_with (first | ((with_reducible refine gD (N := 1) rfl ?_); refine bE3 1 #[.int .u64 a0_0, .int .u64 a0_1] 25 ?hr ?_; (case hr => first | (go_simp; done) | (go_simp; rfl)); intro gb636 hg w3 hbox hb; have n0_ := Aside0.mk (bS3 HB.out hb); have n1_ := Aside0.mk (hbox); have n2_ := Aside0.mk ((bZ3 hg HB.out)); have n3_ := Aside0.mk ((bZ3 hg HB.out)); clear HB; have HB := n0_; have BK636 := n1_; have GW636 := n2_; have GE636 := n3_; clear n0_ n1_ n2_ n3_; clear hb hbox hg) | ((with_reducible refine gD (N := 2) rfl ?_); refine bE3 2 #[.int .u64 0, .int .u64 0] 25 ?hr ?_; (case hr => first | (go_simp; done) | (go_simp; rfl)); intro gb637 hg w4 hbox hb; have n0_ := Aside0.mk (bB3 BK636.out hb); have n1_ := Aside0.mk (bS3 HB.out hb); have n2_ := Aside0.mk (hbox); have n3_ := Aside0.mk ((bZ3 hg HB.out)); have n4_ := Aside0.mk ((bZ3 hg HB.out)); have n5_ := Aside0.mk ((bL3 hg BK636.out)); have n6_ := Aside0.mk ((bG3 hg BK636.out)); clear BK636; clear HB; have BK636 := n0_; have HB := n1_; have BK637 := n2_; have GW637 := n3_; have GE637 := n4_; have NB636_637 := n5_; have NB637_636 := n6_; clear n0_ n1_ n2_ n3_ n4_ n5_ n6_; clear hb hbox hg; have hnb5 := NB636_637.out; have hnc5 := NB637_636.out; have hcz6_0 : w4.cell? ⟨gb636, 0, none⟩ = some (.int .u64 a0_0) := (blk_cell BK636.out 0).trans rfl; have hcz6_1 : w4.cell? ⟨gb636, 1, none⟩ = some (.int .u64 a0_1) := (blk_cell BK636.out 1).trans rfl; have hfz6_0 := blk_frozen BK636.out 0; have hfz6_1 := blk_frozen BK636.out 1; have hcz7_0 : w4.cell? ⟨gb637, 0, none⟩ = some (.int .u64 0) := (blk_cell BK637.out 0).trans rfl; have hcz7_1 : w4.cell? ⟨gb637, 1, none⟩ = some (.int .u64 0) := (blk_cell BK637.out 1).trans rfl; have hfz7_0 := blk_frozen BK637.out 0; have hfz7_1 := blk_frozen BK637.out 1))
    refine bodyPost_ret (results_ct rfl _ _ gb637 25 #[.int .u64 a0_0, .int .u64 a0_1] (0, 0) _ rfl (by (with_reducible repeat (first | refine bN ?_ _ | refine bD ?_ | refine bA ?_ _)); refine blk_put (cs := #[.int .u64 a0_0, .int .u64 0]) ?_ 1 _ rfl; (with_reducible repeat (first | refine bN ?_ _ | refine bD ?_ | refine bA ?_ _)); refine blk_put (cs := #[.int .u64 0, .int .u64 0]) ?_ 0 _ rfl; (with_reducible repeat (first | refine bN ?_ _ | refine bD ?_ | refine bA ?_ _)); exact BK637.out) Try.underlying25 rfl (by kernel_rfl)) rfl ?_
    exact ⟨by first | rfl | (simp [errW_none, errW_some] <;> rfl) | (simp [*, errW_none, errW_some] <;> rfl), by repeat (first | (with_reducible first | exact HB.out | apply pA | apply pN | apply p1 | refine pS ?_ GE636.out | refine pS ?_ GE637.out) | exact HB.out)⟩
  · rw [if_neg c2] at H
    have c2b0 : (a0_0 == 0 && (a0_1 == 0)) = false := by simpa using c2
    (try (have c2b1 : decide (a0_0 = 0 && (a0_1 == 0)) = false := by simpa using c2))
    (try (have c2b2 : (a0_0 == 0 && (a0_1 == 0)) = false := by simpa using c2))
    (try (have c2b3 : ¬ (a0_0 = 0 && (a0_1 == 0)) := by simpa using c2))
    clear c2
    replace H := Option.bind_eq_some_iff.mp H
    obtain ⟨t638, A80, H⟩ := H
    replace H : ((twin_shl.f a0_0 a0_1 (wrap64 (128 - t638))).bind fun bt639 => (some (bt639.1, bt639.2, wrap64 (128 - t638)))) = some (r1, r2, r3) := H
    have A8 := Aside0.mk A80
    clear A80
    replace H := Option.bind_eq_some_iff.mp H
    obtain ⟨⟨t639, t640⟩, A90, H⟩ := H
    replace H : (some (t639, t640, wrap64 (128 - t638))) = some (r1, r2, r3) := H
    have A9 := Aside0.mk A90
    clear A90
    simp only [Option.some.injEq, Prod.mk.injEq] at H
    obtain ⟨rfl, rfl, rfl⟩ := H
    go_enter Try.func63, Try.ntmps63
    go_wp2_with (first | ((with_reducible refine gD (N := 1) rfl ?_); refine bE3 1 #[.int .u64 a0_0, .int .u64 a0_1] 25 ?hr ?_; (case hr => first | (go_simp; done) | (go_simp; rfl)); intro gb636 hg w10 hbox hb; have n0_ := Aside0.mk (bS3 HB.out hb); have n1_ := Aside0.mk (hbox); have n2_ := Aside0.mk ((bZ3 hg HB.out)); have n3_ := Aside0.mk ((bZ3 hg HB.out)); clear HB; have HB := n0_; have BK636 := n1_; have GW636 := n2_; have GE636 := n3_; clear n0_ n1_ n2_ n3_; clear hb hbox hg) | ((with_reducible refine gD (N := 2) rfl ?_); refine bE3 2 #[.int .u64 0, .int .u64 0] 25 ?hr ?_; (case hr => first | (go_simp; done) | (go_simp; rfl)); intro gb637 hg w11 hbox hb; have n0_ := Aside0.mk (bB3 BK636.out hb); have n1_ := Aside0.mk (bS3 HB.out hb); have n2_ := Aside0.mk (hbox); have n3_ := Aside0.mk ((bZ3 hg HB.out)); have n4_ := Aside0.mk ((bZ3 hg HB.out)); have n5_ := Aside0.mk ((bL3 hg BK636.out)); have n6_ := Aside0.mk ((bG3 hg BK636.out)); clear BK636; clear HB; have BK636 := n0_; have HB := n1_; have BK637 := n2_; have GW637 := n3_; have GE637 := n4_; have NB636_637 := n5_; have NB637_636 := n6_; clear n0_ n1_ n2_ n3_ n4_ n5_ n6_; clear hb hbox hg; have hnb12 := NB636_637.out; have hnc12 := NB637_636.out; have hcz13_0 : w11.cell? ⟨gb636, 0, none⟩ = some (.int .u64 a0_0) := (blk_cell BK636.out 0).trans rfl; have hcz13_1 : w11.cell? ⟨gb636, 1, none⟩ = some (.int .u64 a0_1) := (blk_cell BK636.out 1).trans rfl; have hfz13_0 := blk_frozen BK636.out 0; have hfz13_1 := blk_frozen BK636.out 1) | ((with_reducible refine gC (f := 65) rfl ?_); refine goesY_ (some 10) Try.func65 #[.agg #[.int .u64 a0_0, .int .u64 a0_1]] ?_; (with_reducible refine (twin_Len.calls k a0_0 a0_1 t638 _ A8.out).mono ?_); rintro e w14 ⟨rfl, hb⟩; refine ⟨_, rfl, ?_⟩; have n0_ := Aside0.mk (bB3 BK636.out hb); have n1_ := Aside0.mk (bB3 BK637.out hb); have n2_ := Aside0.mk (bS3 HB.out hb); clear BK636; clear BK637; clear HB; have BK636 := n0_; have BK637 := n1_; have HB := n2_; clear n0_ n1_ n2_; (try clear hb); (try clear hb2); (try clear hk); (try clear hi); have hcz15_0 : w14.cell? ⟨gb636, 0, none⟩ = some (.int .u64 a0_0) := (blk_cell BK636.out 0).trans rfl; have hcz15_1 : w14.cell? ⟨gb636, 1, none⟩ = some (.int .u64 a0_1) := (blk_cell BK636.out 1).trans rfl; have hfz15_0 := blk_frozen BK636.out 0; have hfz15_1 := blk_frozen BK636.out 1) | ((with_reducible refine gC (f := 89) rfl ?_); refine goesY_ (some 14) Try.func89 #[.agg #[.int .u64 a0_0, .int .u64 a0_1], .int .i64 (wrap64 (128 - t638))] ?_; (with_reducible refine (twin_shl.calls a0_0 a0_1 (wrap64 (128 - t638)) t639 t640 _ A9.out).mono ?_); rintro e w16 ⟨rfl, hb⟩; refine ⟨_, rfl, ?_⟩; have n0_ := Aside0.mk (bB3 BK636.out hb); have n1_ := Aside0.mk (bB3 BK637.out hb); have n2_ := Aside0.mk (bS3 HB.out hb); clear BK636; clear BK637; clear HB; have BK636 := n0_; have BK637 := n1_; have HB := n2_; clear n0_ n1_ n2_; (try clear hb); (try clear hb2); (try clear hk); (try clear hi); have hcz17_0 : w16.cell? ⟨gb637, 0, none⟩ = some (.int .u64 0) := (blk_cell BK637.out 0).trans rfl; have hcz17_1 : w16.cell? ⟨gb637, 1, none⟩ = some (.int .u64 0) := (blk_cell BK637.out 1).trans rfl; have hfz17_0 := blk_frozen BK637.out 0; have hfz17_1 := blk_frozen BK637.out 1))
    refine bodyPost_ret (results_ct rfl _ _ gb637 25 #[.int .u64 t639, .int .u64 t640] (0, 0) _ rfl (by (with_reducible repeat (first | refine bN ?_ _ | refine bD ?_ | refine bA ?_ _)); refine blk_put (cs := #[.int .u64 t639, .int .u64 0]) ?_ 1 _ rfl; (with_reducible repeat (first | refine bN ?_ _ | refine bD ?_ | refine bA ?_ _)); refine blk_put (cs := #[.int .u64 0, .int .u64 0]) ?_ 0 _ rfl; (with_reducible repeat (first | refine bN ?_ _ | refine bD ?_ | refine bA ?_ _)); exact BK637.out) Try.underlying25 rfl (by kernel_rfl)) rfl ?_
    exact ⟨by first | rfl | (simp [errW_none, errW_some] <;> rfl) | (simp [*, errW_none, errW_some] <;> rfl), by repeat (first | (with_reducible first | exact HB.out | apply pA | apply pN | apply p1 | refine pS ?_ GE636.out | refine pS ?_ GE637.out) | exact HB.out)⟩

end Go.Proofs.Ytjbcfiigafbobaa.F
