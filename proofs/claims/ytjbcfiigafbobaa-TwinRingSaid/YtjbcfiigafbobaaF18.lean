/- Functions of the given program as plain Lean functions, and for each a proof that the program's call comes to just these answers; no further conditions. (Written by a program of this repo out of the translation.) -/
import Derived.Test.YtjbcfiigafbobaaF0
import Derived.Test.YtjbcfiigafbobaaF1
import Derived.Test.YtjbcfiigafbobaaF4
import Derived.Test.YtjbcfiigafbobaaF5
namespace Go.Proofs.Ytjbcfiigafbobaa.F
open Go.RowKit Go.Proofs.YtjbcfiigafbobaaW.PrintWords Go.Proofs.YtjbcfiigafbobaaW.PrintLast Go.Proofs.YtjbcfiigafbobaaW.PrintMore
attribute [local go_sem high] xor_u64 xor_u32 eqErr29 neErr29 eqErrL29 neErrL29
attribute [local go_sem] max2_int min2_int max_two min_two max_three min_three max_four min_four   -- for this text's walks alone
set_option linter.unusedVariables false
set_option linter.unusedSimpArgs false

attribute [local go_sem high] eqA25
/-! ### vernierlaw02_TwinRing: function 9 -/
def vernierlaw02_TwinRing.j0 : Nat → Int → Int → Int → Bool → Option (Bool)
  | 0, _, _, _, _ => none
  | k + 1, x2, x3, x4, x61 => if x61 = true then (some false) else ((twin_Mul.f x2 x3).bind fun bt382 => ((twin_Mul.f x3 x2).bind fun bt385 => (if (!(bt382.1 == bt385.1) || (!(bt382.2 == bt385.2))) = true then (some false) else (if (IntKind.u64.wrap (x3 + x4)) < x3 then (some true) else ((twin_Mul.f x2 x4).bind fun bt387 => ((twin_Add.f bt382.1 bt382.2 bt387.1 bt387.2).bind fun bt389 => (if bt389.2.2 = true then (some false) else ((twin_Mul.f x2 (IntKind.u64.wrap (x3 + x4))).bind fun bt393 => (some (bt389.1 == bt393.1 && (bt389.2.1 == bt393.2)))))))))))
def vernierlaw02_TwinRing.f (k : Nat) (a0_0 : Int) (a0_1 : Int) (a1_0 : Int) (a1_1 : Int) (a2 : Int) (a3 : Int) (a4 : Int) : Option (Bool) := (vernierlaw02_up.f).bind fun t369 => ((twin_Add.f a0_0 a0_1 a1_0 a1_1).bind fun bt370 => ((twin_Add.f a1_0 a1_1 a0_0 a0_1).bind fun bt374 => ((twin_Sub.f bt370.1 bt370.2.1 a1_0 a1_1).bind fun bt378 => (if t369 = true then (if (!(bt370.1 == bt374.1) || (!(bt370.2.1 == bt374.2.1))) = true then (vernierlaw02_TwinRing.j0 k a2 a3 a4 true) else (if (bt370.2.2 != bt374.2.2) = true then (vernierlaw02_TwinRing.j0 k a2 a3 a4 true) else (if (!(bt378.1 == a0_0) || (!(bt378.2.1 == a0_1))) = true then (vernierlaw02_TwinRing.j0 k a2 a3 a4 true) else (vernierlaw02_TwinRing.j0 k a2 a3 a4 (bt378.2.2 != bt370.2.2))))) else (vernierlaw02_TwinRing.j0 k a2 a3 a4 true)))))
theorem vernierlaw02_TwinRing.mono_l : ∀ k, (∀ y0 y1 y2 y3, LeO (vernierlaw02_TwinRing.j0 k y0 y1 y2 y3) (vernierlaw02_TwinRing.j0 (k + 1) y0 y1 y2 y3))
  | 0 => fun _ _ _ _ r h => by simp [vernierlaw02_TwinRing.j0] at h
  | k + 1 => by
    have ih0 := vernierlaw02_TwinRing.mono_l k
    · intro y0 y1 y2 y3
      unfold vernierlaw02_TwinRing.j0
      repeat' first
      | (with_reducible exact ih0 _ _ _ _)
      | (with_reducible exact LeO.refl _)
      | (with_reducible exact LeO.none _)
      | (with_reducible refine LeO.ite ?_ ?_)
      | (with_reducible refine LeO.bind ?_ (fun _ => ?_))
      | exact ih0 _ _ _ _
      | exact LeO.none _
      | refine LeO.ite ?_ ?_
      | refine LeO.bind ?_ (fun _ => ?_)
theorem vernierlaw02_TwinRing.mono : ∀ a0 a1 a2 a3 a4 a5 a6 k, LeO (vernierlaw02_TwinRing.f k a0 a1 a2 a3 a4 a5 a6) (vernierlaw02_TwinRing.f (k + 1) a0 a1 a2 a3 a4 a5 a6) := by
  intro a0 a1 a2 a3 a4 a5 a6 k
  have ih0 := vernierlaw02_TwinRing.mono_l k
  unfold vernierlaw02_TwinRing.f
  repeat' first
      | (with_reducible exact ih0 _ _ _ _)
      | (with_reducible exact LeO.refl _)
      | (with_reducible exact LeO.none _)
      | (with_reducible refine LeO.ite ?_ ?_)
      | (with_reducible refine LeO.bind ?_ (fun _ => ?_))
      | exact ih0 _ _ _ _
      | exact LeO.none _
      | refine LeO.ite ?_ ?_
      | refine LeO.bind ?_ (fun _ => ?_)
def vernierlaw02_TwinRing.T12 : Bool × List (List Nat × List Nat) := (true, [([], []), ([], []), ([], []), ([1, 2], [1, 2]), ([0, 3, 3], [0, 3]), ([4], [4]), ([5], [5]), ([5], [5]), ([], []), ([8, 6, 4, 0, 1, 2, 3, 4, 5, 6, 8], [6, 8]), ([7, 9, 0, 1, 2, 3, 4, 5, 6, 7, 8, 9], [7])])
def vernierlaw02_TwinRing.B12 : List Nat := [0, 0, 0, 6, 15, 31, 63, 63, 0, 383, 1023]
theorem vernierlaw02_TwinRing.tab12 : rtab .any (opsOf Try.f9 12) = vernierlaw02_TwinRing.T12 := by kernel_rfl
theorem vernierlaw02_TwinRing.bits12 : waitsOk vernierlaw02_TwinRing.T12.2 vernierlaw02_TwinRing.B12 = true := by kernel_rfl
def vernierlaw02_TwinRing.T13 : Bool × List (List Nat × List Nat) := (true, [([], []), ([0], [0]), ([1], [1]), ([2], [2]), ([2], [2]), ([2], [2]), ([2], [2]), ([5, 6, 2], [2, 5, 6]), ([4, 7, 2, 2], [2, 4, 7]), ([3, 8, 2], [2, 3, 8]), ([2, 9], [2, 9]), ([10, 8, 0, 1, 2, 3, 4, 5, 6, 7, 8, 9, 10], [10])])
def vernierlaw02_TwinRing.B13 : List Nat := [0, 1, 3, 7, 7, 7, 7, 103, 247, 511, 1023, 2047]
theorem vernierlaw02_TwinRing.tab13 : rtab .any (opsOf Try.f9 13) = vernierlaw02_TwinRing.T13 := by kernel_rfl
theorem vernierlaw02_TwinRing.bits13 : waitsOk vernierlaw02_TwinRing.T13.2 vernierlaw02_TwinRing.B13 = true := by kernel_rfl
set_option maxHeartbeats 8000000 in
set_option maxRecDepth 100000 in
theorem vernierlaw02_TwinRing.calls (k : Nat) (a0_0 : Int) (a0_1 : Int) (a1_0 : Int) (a1_1 : Int) (a2 : Int) (a3 : Int) (a4 : Int) (r : Bool) (w : World) (h : vernierlaw02_TwinRing.f k a0_0 a0_1 a1_0 a1_1 a2 a3 a4 = some r) :
    Calls Try.prog 9 #[.agg #[.int .u64 a0_0, .int .u64 a0_1], .agg #[.int .u64 a1_0, .int .u64 a1_1], .int .u64 a2, .int .u64 a3, .int .u64 a4] w fun e w' => e = .returned (.bool r) ∧ Below w.heap.size w w' := by
  have hu25 := Try.underlying25
  have HB := Aside0.mk (Below.refl w.heap.size w)
  have H : ((vernierlaw02_up.f).bind fun t369 => ((twin_Add.f a0_0 a0_1 a1_0 a1_1).bind fun bt370 => ((twin_Add.f a1_0 a1_1 a0_0 a0_1).bind fun bt374 => ((twin_Sub.f bt370.1 bt370.2.1 a1_0 a1_1).bind fun bt378 => (if t369 = true then (if (!(bt370.1 == bt374.1) || (!(bt370.2.1 == bt374.2.1))) = true then (vernierlaw02_TwinRing.j0 k a2 a3 a4 true) else (if (bt370.2.2 != bt374.2.2) = true then (vernierlaw02_TwinRing.j0 k a2 a3 a4 true) else (if (!(bt378.1 == a0_0) || (!(bt378.2.1 == a0_1))) = true then (vernierlaw02_TwinRing.j0 k a2 a3 a4 true) else (vernierlaw02_TwinRing.j0 k a2 a3 a4 (bt378.2.2 != bt370.2.2))))) else (vernierlaw02_TwinRing.j0 k a2 a3 a4 true)))))) = some r := h
  clear h
  replace H := Option.bind_eq_some_iff.mp H
  obtain ⟨t369, A60, H⟩ := H
  replace H : ((twin_Add.f a0_0 a0_1 a1_0 a1_1).bind fun bt370 => ((twin_Add.f a1_0 a1_1 a0_0 a0_1).bind fun bt374 => ((twin_Sub.f bt370.1 bt370.2.1 a1_0 a1_1).bind fun bt378 => (if t369 = true then (if (!(bt370.1 == bt374.1) || (!(bt370.2.1 == bt374.2.1))) = true then (vernierlaw02_TwinRing.j0 k a2 a3 a4 true) else (if (bt370.2.2 != bt374.2.2) = true then (vernierlaw02_TwinRing.j0 k a2 a3 a4 true) else (if (!(bt378.1 == a0_0) || (!(bt378.2.1 == a0_1))) = true then (vernierlaw02_TwinRing.j0 k a2 a3 a4 true) else (vernierlaw02_TwinRing.j0 k a2 a3 a4 (bt378.2.2 != bt370.2.2))))) else (vernierlaw02_TwinRing.j0 k a2 a3 a4 true))))) = some r := H
  have A6 := Aside0.mk A60
  clear A60
  replace H := Option.bind_eq_some_iff.mp H
  obtain ⟨⟨t370, t371, t372⟩, A70, H⟩ := H
  replace H : ((twin_Add.f a1_0 a1_1 a0_0 a0_1).bind fun bt374 => ((twin_Sub.f t370 t371 a1_0 a1_1).bind fun bt378 => (if t369 = true then (if (!(t370 == bt374.1) || (!(t371 == bt374.2.1))) = true then (vernierlaw02_TwinRing.j0 k a2 a3 a4 true) else (if (t372 != bt374.2.2) = true then (vernierlaw02_TwinRing.j0 k a2 a3 a4 true) else (if (!(bt378.1 == a0_0) || (!(bt378.2.1 == a0_1))) = true then (vernierlaw02_TwinRing.j0 k a2 a3 a4 true) else (vernierlaw02_TwinRing.j0 k a2 a3 a4 (bt378.2.2 != t372))))) else (vernierlaw02_TwinRing.j0 k a2 a3 a4 true)))) = some r := H
  have A7 := Aside0.mk A70
  clear A70
  replace H := Option.bind_eq_some_iff.mp H
  obtain ⟨⟨t374, t375, t376⟩, A80, H⟩ := H
  replace H : ((twin_Sub.f t370 t371 a1_0 a1_1).bind fun bt378 => (if t369 = true then (if (!(t370 == t374) || (!(t371 == t375))) = true then (vernierlaw02_TwinRing.j0 k a2 a3 a4 true) else (if (t372 != t376) = true then (vernierlaw02_TwinRing.j0 k a2 a3 a4 true) else (if (!(bt378.1 == a0_0) || (!(bt378.2.1 == a0_1))) = true then (vernierlaw02_TwinRing.j0 k a2 a3 a4 true) else (vernierlaw02_TwinRing.j0 k a2 a3 a4 (bt378.2.2 != t372))))) else (vernierlaw02_TwinRing.j0 k a2 a3 a4 true))) = some r := H
  have A8 := Aside0.mk A80
  clear A80
  replace H := Option.bind_eq_some_iff.mp H
  obtain ⟨⟨t378, t379, t380⟩, A90, H⟩ := H
  replace H : (if t369 = true then (if (!(t370 == t374) || (!(t371 == t375))) = true then (vernierlaw02_TwinRing.j0 k a2 a3 a4 true) else (if (t372 != t376) = true then (vernierlaw02_TwinRing.j0 k a2 a3 a4 true) else (if (!(t378 == a0_0) || (!(t379 == a0_1))) = true then (vernierlaw02_TwinRing.j0 k a2 a3 a4 true) else (vernierlaw02_TwinRing.j0 k a2 a3 a4 (t380 != t372))))) else (vernierlaw02_TwinRing.j0 k a2 a3 a4 true)) = some r := H
  have A9 := Aside0.mk A90
  clear A90
  have HC10 := Aside0.mk H
  clear H
  go_enter Try.func9, Try.ntmps9
  go_upto_region 5 with (first | ((with_reducible refine gD (N := 5) rfl ?_); refine bE3 5 #[.int .u64 a0_0, .int .u64 a0_1] 25 ?hr ?_; (case hr => first | (go_simp; done) | (go_simp; rfl)); intro gb367 hg w11 hbox hb; have n0_ := Aside0.mk (bS3 HB.out hb); have n1_ := Aside0.mk (hbox); have n2_ := Aside0.mk ((bZ3 hg HB.out)); have n3_ := Aside0.mk ((bZ3 hg HB.out)); clear HB; have HB := n0_; have BK367 := n1_; have GW367 := n2_; have GE367 := n3_; clear n0_ n1_ n2_ n3_; clear hb hbox hg) | ((with_reducible refine gD (N := 6) rfl ?_); refine bE3 6 #[.int .u64 a1_0, .int .u64 a1_1] 25 ?hr ?_; (case hr => first | (go_simp; done) | (go_simp; rfl)); intro gb368 hg w12 hbox hb; have n0_ := Aside0.mk (bB3 BK367.out hb); have n1_ := Aside0.mk (bS3 HB.out hb); have n2_ := Aside0.mk (hbox); have n3_ := Aside0.mk ((bZ3 hg HB.out)); have n4_ := Aside0.mk ((bZ3 hg HB.out)); have n5_ := Aside0.mk ((bL3 hg BK367.out)); have n6_ := Aside0.mk ((bG3 hg BK367.out)); clear BK367; clear HB; have BK367 := n0_; have HB := n1_; have BK368 := n2_; have GW368 := n3_; have GE368 := n4_; have NB367_368 := n5_; have NB368_367 := n6_; clear n0_ n1_ n2_ n3_ n4_ n5_ n6_; clear hb hbox hg) | ((with_reducible refine gC (f := 22) rfl ?_); refine goesY_ (some 21) Try.func22 #[] ?_; (with_reducible refine (vernierlaw02_up.calls  t369 _ A6.out).mono ?_); rintro e w13 ⟨rfl, hb⟩; refine ⟨_, rfl, ?_⟩; have n0_ := Aside0.mk (bB3 BK367.out hb); have n1_ := Aside0.mk (bB3 BK368.out hb); have n2_ := Aside0.mk (bS3 HB.out hb); clear BK367; clear BK368; clear HB; have BK367 := n0_; have BK368 := n1_; have HB := n2_; clear n0_ n1_ n2_; (try clear hb); (try clear hb2); (try clear hk); (try clear hi); have hnb14 := NB367_368.out; have hnc14 := NB368_367.out; have hcz15_0 : w13.cell? ⟨gb367, 0, none⟩ = some (.int .u64 a0_0) := (blk_cell BK367.out 0).trans rfl; have hcz15_1 : w13.cell? ⟨gb367, 1, none⟩ = some (.int .u64 a0_1) := (blk_cell BK367.out 1).trans rfl; have hfz15_0 := blk_frozen BK367.out 0; have hfz15_1 := blk_frozen BK367.out 1; have hcz16_0 : w13.cell? ⟨gb368, 0, none⟩ = some (.int .u64 a1_0) := (blk_cell BK368.out 0).trans rfl; have hcz16_1 : w13.cell? ⟨gb368, 1, none⟩ = some (.int .u64 a1_1) := (blk_cell BK368.out 1).trans rfl; have hfz16_0 := blk_frozen BK368.out 0; have hfz16_1 := blk_frozen BK368.out 1) | ((with_reducible refine gC (f := 35) rfl ?_); refine goesY_ (some 25) Try.func35 #[.agg #[.int .u64 a0_0, .int .u64 a0_1], .agg #[.int .u64 a1_0, .int .u64 a1_1]] ?_; (with_reducible refine (twin_Add.calls a0_0 a0_1 a1_0 a1_1 t370 t371 t372 _ A7.out).mono ?_); rintro e w17 ⟨rfl, hb⟩; refine ⟨_, rfl, ?_⟩; have n0_ := Aside0.mk (bB3 BK367.out hb); have n1_ := Aside0.mk (bB3 BK368.out hb); have n2_ := Aside0.mk (bS3 HB.out hb); clear BK367; clear BK368; clear HB; have BK367 := n0_; have BK368 := n1_; have HB := n2_; clear n0_ n1_ n2_; (try clear hb); (try clear hb2); (try clear hk); (try clear hi)) | ((with_reducible refine gD (N := 12) rfl ?_); refine bE3 12 #[.int .u64 0, .int .u64 0] 25 ?hr ?_; (case hr => first | (go_simp; done) | (go_simp; rfl)); intro gb373 hg w18 hbox hb; have n0_ := Aside0.mk (bB3 BK367.out hb); have n1_ := Aside0.mk (bB3 BK368.out hb); have n2_ := Aside0.mk (bS3 HB.out hb); have n3_ := Aside0.mk (hbox); have n4_ := Aside0.mk ((bZ3 hg HB.out)); have n5_ := Aside0.mk ((bZ3 hg HB.out)); have n6_ := Aside0.mk ((bL3 hg BK367.out)); have n7_ := Aside0.mk ((bG3 hg BK367.out)); have n8_ := Aside0.mk ((bL3 hg BK368.out)); have n9_ := Aside0.mk ((bG3 hg BK368.out)); clear BK367; clear BK368; clear HB; have BK367 := n0_; have BK368 := n1_; have HB := n2_; have BK373 := n3_; have GW373 := n4_; have GE373 := n5_; have NB367_373 := n6_; have NB373_367 := n7_; have NB368_373 := n8_; have NB373_368 := n9_; clear n0_ n1_ n2_ n3_ n4_ n5_ n6_ n7_ n8_ n9_; clear hb hbox hg; have hnb19 := NB373_367.out; have hnc19 := NB367_373.out; have hnb20 := NB373_368.out; have hnc20 := NB368_373.out; have hcz21_0 : w18.cell? ⟨gb373, 0, none⟩ = some (.int .u64 0) := (blk_cell BK373.out 0).trans rfl; have hcz21_1 : w18.cell? ⟨gb373, 1, none⟩ = some (.int .u64 0) := (blk_cell BK373.out 1).trans rfl; have hfz21_0 := blk_frozen BK373.out 0; have hfz21_1 := blk_frozen BK373.out 1; have hcz22_0 : w18.cell? ⟨gb368, 0, none⟩ = some (.int .u64 a1_0) := (blk_cell BK368.out 0).trans rfl; have hcz22_1 : w18.cell? ⟨gb368, 1, none⟩ = some (.int .u64 a1_1) := (blk_cell BK368.out 1).trans rfl; have hfz22_0 := blk_frozen BK368.out 0; have hfz22_1 := blk_frozen BK368.out 1; have hcz23_0 : w18.cell? ⟨gb367, 0, none⟩ = some (.int .u64 a0_0) := (blk_cell BK367.out 0).trans rfl; have hcz23_1 : w18.cell? ⟨gb367, 1, none⟩ = some (.int .u64 a0_1) := (blk_cell BK367.out 1).trans rfl; have hfz23_0 := blk_frozen BK367.out 0; have hfz23_1 := blk_frozen BK367.out 1) | ((with_reducible refine gC (f := 35) rfl ?_); refine goesY_ (some 31) Try.func35 #[.agg #[.int .u64 a1_0, .int .u64 a1_1], .agg #[.int .u64 a0_0, .int .u64 a0_1]] ?_; (with_reducible refine (twin_Add.calls a1_0 a1_1 a0_0 a0_1 t374 t375 t376 _ A8.out).mono ?_); rintro e w24 ⟨rfl, hb⟩; refine ⟨_, rfl, ?_⟩; have n0_ := Aside0.mk (bB (g := gb367) (o := .cells #[.int .u64 a0_0, .int .u64 a0_1] 25 (0, 0)) (by (with_reducible repeat (first | refine bN ?_ _ | refine bD ?_ | refine bA ?_ _)); refine blk_far ?_ NB367_373.out _; (with_reducible repeat (first | refine bN ?_ _ | refine bD ?_ | refine bA ?_ _)); refine blk_far ?_ NB367_373.out _; (with_reducible repeat (first | refine bN ?_ _ | refine bD ?_ | refine bA ?_ _)); exact BK367.out) hb); have n1_ := Aside0.mk (bB (g := gb368) (o := .cells #[.int .u64 a1_0, .int .u64 a1_1] 25 (0, 0)) (by (with_reducible repeat (first | refine bN ?_ _ | refine bD ?_ | refine bA ?_ _)); refine blk_far ?_ NB368_373.out _; (with_reducible repeat (first | refine bN ?_ _ | refine bD ?_ | refine bA ?_ _)); refine blk_far ?_ NB368_373.out _; (with_reducible repeat (first | refine bN ?_ _ | refine bD ?_ | refine bA ?_ _)); exact BK368.out) hb); have n2_ := Aside0.mk (bB (g := gb373) (o := .cells #[.int .u64 t370, .int .u64 t371] 25 (0, 0)) (by (with_reducible repeat (first | refine bN ?_ _ | refine bD ?_ | refine bA ?_ _)); refine blk_put (cs := #[.int .u64 t370, .int .u64 0]) ?_ 1 _ rfl; (with_reducible repeat (first | refine bN ?_ _ | refine bD ?_ | refine bA ?_ _)); refine blk_put (cs := #[.int .u64 0, .int .u64 0]) ?_ 0 _ rfl; (with_reducible repeat (first | refine bN ?_ _ | refine bD ?_ | refine bA ?_ _)); exact BK373.out) hb); have n3_ := Aside0.mk (bS3 HB.out hb); clear BK367; clear BK368; clear BK373; clear HB; have BK367 := n0_; have BK368 := n1_; have BK373 := n2_; have HB := n3_; clear n0_ n1_ n2_ n3_; (try clear hb); (try clear hb2); (try clear hk); (try clear hi)) | ((with_reducible refine gD (N := 14) rfl ?_); refine bE3 14 #[.int .u64 0, .int .u64 0] 25 ?hr ?_; (case hr => first | (go_simp; done) | (go_simp; rfl)); intro gb377 hg w25 hbox hb; have n0_ := Aside0.mk (bB3 BK367.out hb); have n1_ := Aside0.mk (bB3 BK368.out hb); have n2_ := Aside0.mk (bB3 BK373.out hb); have n3_ := Aside0.mk (bS3 HB.out hb); have n4_ := Aside0.mk (hbox); have n5_ := Aside0.mk ((bZ3 hg HB.out)); have n6_ := Aside0.mk ((bZ3 hg HB.out)); have n7_ := Aside0.mk ((bL3 hg BK367.out)); have n8_ := Aside0.mk ((bG3 hg BK367.out)); have n9_ := Aside0.mk ((bL3 hg BK368.out)); have n10_ := Aside0.mk ((bG3 hg BK368.out)); have n11_ := Aside0.mk ((bL3 hg BK373.out)); have n12_ := Aside0.mk ((bG3 hg BK373.out)); clear BK367; clear BK368; clear BK373; clear HB; have BK367 := n0_; have BK368 := n1_; have BK373 := n2_; have HB := n3_; have BK377 := n4_; have GW377 := n5_; have GE377 := n6_; have NB367_377 := n7_; have NB377_367 := n8_; have NB368_377 := n9_; have NB377_368 := n10_; have NB373_377 := n11_; have NB377_373 := n12_; clear n0_ n1_ n2_ n3_ n4_ n5_ n6_ n7_ n8_ n9_ n10_ n11_ n12_; clear hb hbox hg; have hnb26 := NB377_367.out; have hnc26 := NB367_377.out; have hnb27 := NB377_368.out; have hnc27 := NB368_377.out; have hnb28 := NB377_373.out; have hnc28 := NB373_377.out; have hcz29_0 : w25.cell? ⟨gb377, 0, none⟩ = some (.int .u64 0) := (blk_cell BK377.out 0).trans rfl; have hcz29_1 : w25.cell? ⟨gb377, 1, none⟩ = some (.int .u64 0) := (blk_cell BK377.out 1).trans rfl; have hfz29_0 := blk_frozen BK377.out 0; have hfz29_1 := blk_frozen BK377.out 1; have hcz30_0 : w25.cell? ⟨gb373, 0, none⟩ = some (.int .u64 t370) := (blk_cell BK373.out 0).trans rfl; have hcz30_1 : w25.cell? ⟨gb373, 1, none⟩ = some (.int .u64 t371) := (blk_cell BK373.out 1).trans rfl; have hfz30_0 := blk_frozen BK373.out 0; have hfz30_1 := blk_frozen BK373.out 1; have hcz31_0 : w25.cell? ⟨gb368, 0, none⟩ = some (.int .u64 a1_0) := (blk_cell BK368.out 0).trans rfl; have hcz31_1 : w25.cell? ⟨gb368, 1, none⟩ = some (.int .u64 a1_1) := (blk_cell BK368.out 1).trans rfl; have hfz31_0 := blk_frozen BK368.out 0; have hfz31_1 := blk_frozen BK368.out 1) | ((with_reducible refine gC (f := 36) rfl ?_); refine goesY_ (some 37) Try.func36 #[.agg #[.int .u64 t370, .int .u64 t371], .agg #[.int .u64 a1_0, .int .u64 a1_1]] ?_; (with_reducible refine (twin_Sub.calls t370 t371 a1_0 a1_1 t378 t379 t380 _ A9.out).mono ?_); rintro e w32 ⟨rfl, hb⟩; refine ⟨_, rfl, ?_⟩; have n0_ := Aside0.mk (bB (g := gb367) (o := .cells #[.int .u64 a0_0, .int .u64 a0_1] 25 (0, 0)) (by (with_reducible repeat (first | refine bN ?_ _ | refine bD ?_ | refine bA ?_ _)); refine blk_far ?_ NB367_377.out _; (with_reducible repeat (first | refine bN ?_ _ | refine bD ?_ | refine bA ?_ _)); refine blk_far ?_ NB367_377.out _; (with_reducible repeat (first | refine bN ?_ _ | refine bD ?_ | refine bA ?_ _)); exact BK367.out) hb); have n1_ := Aside0.mk (bB (g := gb368) (o := .cells #[.int .u64 a1_0, .int .u64 a1_1] 25 (0, 0)) (by (with_reducible repeat (first | refine bN ?_ _ | refine bD ?_ | refine bA ?_ _)); refine blk_far ?_ NB368_377.out _; (with_reducible repeat (first | refine bN ?_ _ | refine bD ?_ | refine bA ?_ _)); refine blk_far ?_ NB368_377.out _; (with_reducible repeat (first | refine bN ?_ _ | refine bD ?_ | refine bA ?_ _)); exact BK368.out) hb); have n2_ := Aside0.mk (bB (g := gb373) (o := .cells #[.int .u64 t370, .int .u64 t371] 25 (0, 0)) (by (with_reducible repeat (first | refine bN ?_ _ | refine bD ?_ | refine bA ?_ _)); refine blk_far ?_ NB373_377.out _; (with_reducible repeat (first | refine bN ?_ _ | refine bD ?_ | refine bA ?_ _)); refine blk_far ?_ NB373_377.out _; (with_reducible repeat (first | refine bN ?_ _ | refine bD ?_ | refine bA ?_ _)); exact BK373.out) hb); have n3_ := Aside0.mk (bB (g := gb377) (o := .cells #[.int .u64 t374, .int .u64 t375] 25 (0, 0)) (by (with_reducible repeat (first | refine bN ?_ _ | refine bD ?_ | refine bA ?_ _)); refine blk_put (cs := #[.int .u64 t374, .int .u64 0]) ?_ 1 _ rfl; (with_reducible repeat (first | refine bN ?_ _ | refine bD ?_ | refine bA ?_ _)); refine blk_put (cs := #[.int .u64 0, .int .u64 0]) ?_ 0 _ rfl; (with_reducible repeat (first | refine bN ?_ _ | refine bD ?_ | refine bA ?_ _)); exact BK377.out) hb); have n4_ := Aside0.mk (bS3 HB.out hb); clear BK367; clear BK368; clear BK373; clear BK377; clear HB; have BK367 := n0_; have BK368 := n1_; have BK373 := n2_; have BK377 := n3_; have HB := n4_; clear n0_ n1_ n2_ n3_ n4_; (try clear hb); (try clear hb2); (try clear hk); (try clear hi)) | ((with_reducible refine gD (N := 16) rfl ?_); refine bE3 16 #[.int .u64 0, .int .u64 0] 25 ?hr ?_; (case hr => first | (go_simp; done) | (go_simp; rfl)); intro gb381 hg w33 hbox hb; have n0_ := Aside0.mk (bB3 BK367.out hb); have n1_ := Aside0.mk (bB3 BK368.out hb); have n2_ := Aside0.mk (bB3 BK373.out hb); have n3_ := Aside0.mk (bB3 BK377.out hb); have n4_ := Aside0.mk (bS3 HB.out hb); have n5_ := Aside0.mk (hbox); have n6_ := Aside0.mk ((bZ3 hg HB.out)); have n7_ := Aside0.mk ((bZ3 hg HB.out)); have n8_ := Aside0.mk ((bL3 hg BK367.out)); have n9_ := Aside0.mk ((bG3 hg BK367.out)); have n10_ := Aside0.mk ((bL3 hg BK368.out)); have n11_ := Aside0.mk ((bG3 hg BK368.out)); have n12_ := Aside0.mk ((bL3 hg BK373.out)); have n13_ := Aside0.mk ((bG3 hg BK373.out)); have n14_ := Aside0.mk ((bL3 hg BK377.out)); have n15_ := Aside0.mk ((bG3 hg BK377.out)); clear BK367; clear BK368; clear BK373; clear BK377; clear HB; have BK367 := n0_; have BK368 := n1_; have BK373 := n2_; have BK377 := n3_; have HB := n4_; have BK381 := n5_; have GW381 := n6_; have GE381 := n7_; have NB367_381 := n8_; have NB381_367 := n9_; have NB368_381 := n10_; have NB381_368 := n11_; have NB373_381 := n12_; have NB381_373 := n13_; have NB377_381 := n14_; have NB381_377 := n15_; clear n0_ n1_ n2_ n3_ n4_ n5_ n6_ n7_ n8_ n9_ n10_ n11_ n12_ n13_ n14_ n15_; clear hb hbox hg; have hnb34 := NB381_367.out; have hnc34 := NB367_381.out; have hnb35 := NB381_368.out; have hnc35 := NB368_381.out; have hnb36 := NB381_373.out; have hnc36 := NB373_381.out; have hnb37 := NB381_377.out; have hnc37 := NB377_381.out; have hcz38_0 : w33.cell? ⟨gb381, 0, none⟩ = some (.int .u64 0) := (blk_cell BK381.out 0).trans rfl; have hcz38_1 : w33.cell? ⟨gb381, 1, none⟩ = some (.int .u64 0) := (blk_cell BK381.out 1).trans rfl; have hfz38_0 := blk_frozen BK381.out 0; have hfz38_1 := blk_frozen BK381.out 1))
  (try simp only [Act.put, List.setIfInBounds_toArray, List.set_cons_zero, List.set_cons_succ])
  go_cut [61] (fun v61 wc => ∃ (kq : Nat) (x61_9 : Bool), v61 = .bool x61_9 ∧ Aside0 (vernierlaw02_TwinRing.j0 kq a2 a3 a4 x61_9 = some r) ∧ Aside0 (kq ≤ k) ∧ Aside0 (wc.heap[gb367]? = some (.cells #[.int .u64 a0_0, .int .u64 a0_1] 25 (0, 0))) ∧ Aside0 (wc.heap[gb368]? = some (.cells #[.int .u64 a1_0, .int .u64 a1_1] 25 (0, 0))) ∧ Aside0 (wc.heap[gb373]? = some (.cells #[.int .u64 t370, .int .u64 t371] 25 (0, 0))) ∧ Aside0 (wc.heap[gb377]? = some (.cells #[.int .u64 t374, .int .u64 t375] 25 (0, 0))) ∧ Aside0 (wc.heap[gb381]? = some (.cells #[.int .u64 t378, .int .u64 t379] 25 (0, 0))) ∧ Aside0 (Below w.heap.size w wc))
  case first =>
    have H := HC10.out
    clear HC10
    by_cases c39 : t369 = true
    · subst c39
      have H1 : (if (!(t370 == t374) || (!(t371 == t375))) = true then (vernierlaw02_TwinRing.j0 k a2 a3 a4 true) else (if (t372 != t376) = true then (vernierlaw02_TwinRing.j0 k a2 a3 a4 true) else (if (!(t378 == a0_0) || (!(t379 == a0_1))) = true then (vernierlaw02_TwinRing.j0 k a2 a3 a4 true) else (vernierlaw02_TwinRing.j0 k a2 a3 a4 (t380 != t372))))) = some r := by rw [if_pos rfl] at H; exact H
      clear H
      have H := H1
      clear H1
      by_cases c40 : (!(t370 == t374) || (!(t371 == t375))) = true
      · rw [if_pos c40] at H
        have c40b0 : (!(t370 == t374) || (!(t371 == t375))) = true := c40
        clear c40
        (first | rw [c40b0] | (simp only [i64_w, i32_w]; rw [c40b0]) | skip)
        have H' := Aside0.mk H
        clear H
        have hnb41 := NB373_367.out
        have hnc41 := NB367_373.out
        have hnb42 := NB373_368.out
        have hnc42 := NB368_373.out
        have hnb43 := NB373_377.out
        have hnc43 := NB377_373.out
        have hnb44 := NB373_381.out
        have hnc44 := NB381_373.out
        have hcz45_0 : w33.cell? ⟨gb373, 0, none⟩ = some (.int .u64 t370) := (blk_cell BK373.out 0).trans rfl
        have hcz45_1 : w33.cell? ⟨gb373, 1, none⟩ = some (.int .u64 t371) := (blk_cell BK373.out 1).trans rfl
        have hfz45_0 := blk_frozen BK373.out 0
        have hfz45_1 := blk_frozen BK373.out 1
        have hnb46 := NB377_367.out
        have hnc46 := NB367_377.out
        have hnb47 := NB377_368.out
        have hnc47 := NB368_377.out
        have hnb48 := NB377_381.out
        have hnc48 := NB381_377.out
        have hcz49_0 : w33.cell? ⟨gb377, 0, none⟩ = some (.int .u64 t374) := (blk_cell BK377.out 0).trans rfl
        have hcz49_1 : w33.cell? ⟨gb377, 1, none⟩ = some (.int .u64 t375) := (blk_cell BK377.out 1).trans rfl
        have hfz49_0 := blk_frozen BK377.out 0
        have hfz49_1 := blk_frozen BK377.out 1
        go_wp2
        go_meet
        case rel => exact ⟨_, (true), (by first | rfl | (simp; done) | (simp [*]; done)), H', ⟨by first | omega | exact Nat.le_refl _⟩, ⟨by (with_reducible repeat (first | refine bN ?_ _ | refine bD ?_ | refine bA ?_ _)); refine blk_far ?_ NB367_381.out _; (with_reducible repeat (first | refine bN ?_ _ | refine bD ?_ | refine bA ?_ _)); refine blk_far ?_ NB367_381.out _; (with_reducible repeat (first | refine bN ?_ _ | refine bD ?_ | refine bA ?_ _)); exact BK367.out⟩, ⟨by (with_reducible repeat (first | refine bN ?_ _ | refine bD ?_ | refine bA ?_ _)); refine blk_far ?_ NB368_381.out _; (with_reducible repeat (first | refine bN ?_ _ | refine bD ?_ | refine bA ?_ _)); refine blk_far ?_ NB368_381.out _; (with_reducible repeat (first | refine bN ?_ _ | refine bD ?_ | refine bA ?_ _)); exact BK368.out⟩, ⟨by (with_reducible repeat (first | refine bN ?_ _ | refine bD ?_ | refine bA ?_ _)); refine blk_far ?_ NB373_381.out _; (with_reducible repeat (first | refine bN ?_ _ | refine bD ?_ | refine bA ?_ _)); refine blk_far ?_ NB373_381.out _; (with_reducible repeat (first | refine bN ?_ _ | refine bD ?_ | refine bA ?_ _)); exact BK373.out⟩, ⟨by (with_reducible repeat (first | refine bN ?_ _ | refine bD ?_ | refine bA ?_ _)); refine blk_far ?_ NB377_381.out _; (with_reducible repeat (first | refine bN ?_ _ | refine bD ?_ | refine bA ?_ _)); refine blk_far ?_ NB377_381.out _; (with_reducible repeat (first | refine bN ?_ _ | refine bD ?_ | refine bA ?_ _)); exact BK377.out⟩, ⟨by (with_reducible repeat (first | refine bN ?_ _ | refine bD ?_ | refine bA ?_ _)); refine blk_put (cs := #[.int .u64 t378, .int .u64 0]) ?_ 1 _ rfl; (with_reducible repeat (first | refine bN ?_ _ | refine bD ?_ | refine bA ?_ _)); refine blk_put (cs := #[.int .u64 0, .int .u64 0]) ?_ 0 _ rfl; (with_reducible repeat (first | refine bN ?_ _ | refine bD ?_ | refine bA ?_ _)); exact BK381.out⟩, ⟨by repeat (first | (with_reducible first | exact HB.out | apply pA | apply pN | apply p1 | refine pS ?_ GE367.out | refine pS ?_ GE368.out | refine pS ?_ GE373.out | refine pS ?_ GE377.out | refine pS ?_ GE381.out) | exact HB.out)⟩⟩
      · rw [if_neg c40] at H
        have c40b0 : (!(t370 == t374) || (!(t371 == t375))) = false := by simpa using c40
        clear c40
        (first | rw [c40b0] | (simp only [i64_w, i32_w]; rw [c40b0]) | skip)
        by_cases c50 : (t372 != t376) = true
        · rw [if_pos c50] at H
          have c50b0 : (t372 != t376) = true := c50
          (try (have c50b1 : decide (t372 = t376) = false := by simpa using c50))
          (try (have c50b2 : (t372 == t376) = false := by simpa using c50))
          (try (have c50b3 : ¬ (t372 = t376) := by simpa using c50))
          clear c50
          have H' := Aside0.mk H
          clear H
          have hnb51 := NB373_367.out
          have hnc51 := NB367_373.out
          have hnb52 := NB373_368.out
          have hnc52 := NB368_373.out
          have hnb53 := NB373_377.out
          have hnc53 := NB377_373.out
          have hnb54 := NB373_381.out
          have hnc54 := NB381_373.out
          have hcz55_0 : w33.cell? ⟨gb373, 0, none⟩ = some (.int .u64 t370) := (blk_cell BK373.out 0).trans rfl
          have hcz55_1 : w33.cell? ⟨gb373, 1, none⟩ = some (.int .u64 t371) := (blk_cell BK373.out 1).trans rfl
          have hfz55_0 := blk_frozen BK373.out 0
          have hfz55_1 := blk_frozen BK373.out 1
          have hnb56 := NB377_367.out
          have hnc56 := NB367_377.out
          have hnb57 := NB377_368.out
          have hnc57 := NB368_377.out
          have hnb58 := NB377_381.out
          have hnc58 := NB381_377.out
          have hcz59_0 : w33.cell? ⟨gb377, 0, none⟩ = some (.int .u64 t374) := (blk_cell BK377.out 0).trans rfl
          have hcz59_1 : w33.cell? ⟨gb377, 1, none⟩ = some (.int .u64 t375) := (blk_cell BK377.out 1).trans rfl
          have hfz59_0 := blk_frozen BK377.out 0
          have hfz59_1 := blk_frozen BK377.out 1
          go_wp2
          go_meet
          case rel => exact ⟨_, (true), (by first | rfl | (simp; done) | (simp [*]; done)), H', ⟨by first | omega | exact Nat.le_refl _⟩, ⟨by (with_reducible repeat (first | refine bN ?_ _ | refine bD ?_ | refine bA ?_ _)); refine blk_far ?_ NB367_381.out _; (with_reducible repeat (first | refine bN ?_ _ | refine bD ?_ | refine bA ?_ _)); refine blk_far ?_ NB367_381.out _; (with_reducible repeat (first | refine bN ?_ _ | refine bD ?_ | refine bA ?_ _)); exact BK367.out⟩, ⟨by (with_reducible repeat (first | refine bN ?_ _ | refine bD ?_ | refine bA ?_ _)); refine blk_far ?_ NB368_381.out _; (with_reducible repeat (first | refine bN ?_ _ | refine bD ?_ | refine bA ?_ _)); refine blk_far ?_ NB368_381.out _; (with_reducible repeat (first | refine bN ?_ _ | refine bD ?_ | refine bA ?_ _)); exact BK368.out⟩, ⟨by (with_reducible repeat (first | refine bN ?_ _ | refine bD ?_ | refine bA ?_ _)); refine blk_far ?_ NB373_381.out _; (with_reducible repeat (first | refine bN ?_ _ | refine bD ?_ | refine bA ?_ _)); refine blk_far ?_ NB373_381.out _; (with_reducible repeat (first | refine bN ?_ _ | refine bD ?_ | refine bA ?_ _)); exact BK373.out⟩, ⟨by (with_reducible repeat (first | refine bN ?_ _ | refine bD ?_ | refine bA ?_ _)); refine blk_far ?_ NB377_381.out _; (with_reducible repeat (first | refine bN ?_ _ | refine bD ?_ | refine bA ?_ _)); refine blk_far ?_ NB377_381.out _; (with_reducible repeat (first | refine bN ?_ _ | refine bD ?_ | refine bA ?_ _)); exact BK377.out⟩, ⟨by (with_reducible repeat (first | refine bN ?_ _ | refine bD ?_ | refine bA ?_ _)); refine blk_put (cs := #[.int .u64 t378, .int .u64 0]) ?_ 1 _ rfl; (with_reducible repeat (first | refine bN ?_ _ | refine bD ?_ | refine bA ?_ _)); refine blk_put (cs := #[.int .u64 0, .int .u64 0]) ?_ 0 _ rfl; (with_reducible repeat (first | refine bN ?_ _ | refine bD ?_ | refine bA ?_ _)); exact BK381.out⟩, ⟨by repeat (first | (with_reducible first | exact HB.out | apply pA | apply pN | apply p1 | refine pS ?_ GE367.out | refine pS ?_ GE368.out | refine pS ?_ GE373.out | refine pS ?_ GE377.out | refine pS ?_ GE381.out) | exact HB.out)⟩⟩
        · rw [if_neg c50] at H
          have c50b0 : (t372 != t376) = false := by simpa using c50
          (try (have c50b1 : decide (t372 = t376) = true := by simpa using c50))
          (try (have c50b2 : (t372 == t376) = true := by simpa using c50))
          clear c50
          by_cases c60 : (!(t378 == a0_0) || (!(t379 == a0_1))) = true
          · rw [if_pos c60] at H
            have c60b0 : (!(t378 == a0_0) || (!(t379 == a0_1))) = true := c60
            clear c60
            have H' := Aside0.mk H
            clear H
            have hnb61 := NB373_367.out
            have hnc61 := NB367_373.out
            have hnb62 := NB373_368.out
            have hnc62 := NB368_373.out
            have hnb63 := NB373_377.out
            have hnc63 := NB377_373.out
            have hnb64 := NB373_381.out
            have hnc64 := NB381_373.out
            have hcz65_0 : w33.cell? ⟨gb373, 0, none⟩ = some (.int .u64 t370) := (blk_cell BK373.out 0).trans rfl
            have hcz65_1 : w33.cell? ⟨gb373, 1, none⟩ = some (.int .u64 t371) := (blk_cell BK373.out 1).trans rfl
            have hfz65_0 := blk_frozen BK373.out 0
            have hfz65_1 := blk_frozen BK373.out 1
            have hnb66 := NB377_367.out
            have hnc66 := NB367_377.out
            have hnb67 := NB377_368.out
            have hnc67 := NB368_377.out
            have hnb68 := NB377_381.out
            have hnc68 := NB381_377.out
            have hcz69_0 : w33.cell? ⟨gb377, 0, none⟩ = some (.int .u64 t374) := (blk_cell BK377.out 0).trans rfl
            have hcz69_1 : w33.cell? ⟨gb377, 1, none⟩ = some (.int .u64 t375) := (blk_cell BK377.out 1).trans rfl
            have hfz69_0 := blk_frozen BK377.out 0
            have hfz69_1 := blk_frozen BK377.out 1
            have hnb70 := NB381_367.out
            have hnc70 := NB367_381.out
            have hnb71 := NB381_368.out
            have hnc71 := NB368_381.out
            have hcz72_0 : w33.cell? ⟨gb381, 0, none⟩ = some (.int .u64 0) := (blk_cell BK381.out 0).trans rfl
            have hcz72_1 : w33.cell? ⟨gb381, 1, none⟩ = some (.int .u64 0) := (blk_cell BK381.out 1).trans rfl
            have hfz72_0 := blk_frozen BK381.out 0
            have hfz72_1 := blk_frozen BK381.out 1
            have hnb73 := NB367_368.out
            have hnc73 := NB368_367.out
            have hcz74_0 : w33.cell? ⟨gb367, 0, none⟩ = some (.int .u64 a0_0) := (blk_cell BK367.out 0).trans rfl
            have hcz74_1 : w33.cell? ⟨gb367, 1, none⟩ = some (.int .u64 a0_1) := (blk_cell BK367.out 1).trans rfl
            have hfz74_0 := blk_frozen BK367.out 0
            have hfz74_1 := blk_frozen BK367.out 1
            go_wp2
            go_meet
            case rel => exact ⟨_, (true), (by first | rfl | (simp; done) | (simp [*]; done)), H', ⟨by first | omega | exact Nat.le_refl _⟩, ⟨by (with_reducible repeat (first | refine bN ?_ _ | refine bD ?_ | refine bA ?_ _)); refine blk_far ?_ NB367_381.out _; (with_reducible repeat (first | refine bN ?_ _ | refine bD ?_ | refine bA ?_ _)); refine blk_far ?_ NB367_381.out _; (with_reducible repeat (first | refine bN ?_ _ | refine bD ?_ | refine bA ?_ _)); exact BK367.out⟩, ⟨by (with_reducible repeat (first | refine bN ?_ _ | refine bD ?_ | refine bA ?_ _)); refine blk_far ?_ NB368_381.out _; (with_reducible repeat (first | refine bN ?_ _ | refine bD ?_ | refine bA ?_ _)); refine blk_far ?_ NB368_381.out _; (with_reducible repeat (first | refine bN ?_ _ | refine bD ?_ | refine bA ?_ _)); exact BK368.out⟩, ⟨by (with_reducible repeat (first | refine bN ?_ _ | refine bD ?_ | refine bA ?_ _)); refine blk_far ?_ NB373_381.out _; (with_reducible repeat (first | refine bN ?_ _ | refine bD ?_ | refine bA ?_ _)); refine blk_far ?_ NB373_381.out _; (with_reducible repeat (first | refine bN ?_ _ | refine bD ?_ | refine bA ?_ _)); exact BK373.out⟩, ⟨by (with_reducible repeat (first | refine bN ?_ _ | refine bD ?_ | refine bA ?_ _)); refine blk_far ?_ NB377_381.out _; (with_reducible repeat (first | refine bN ?_ _ | refine bD ?_ | refine bA ?_ _)); refine blk_far ?_ NB377_381.out _; (with_reducible repeat (first | refine bN ?_ _ | refine bD ?_ | refine bA ?_ _)); exact BK377.out⟩, ⟨by (with_reducible repeat (first | refine bN ?_ _ | refine bD ?_ | refine bA ?_ _)); refine blk_put (cs := #[.int .u64 t378, .int .u64 0]) ?_ 1 _ rfl; (with_reducible repeat (first | refine bN ?_ _ | refine bD ?_ | refine bA ?_ _)); refine blk_put (cs := #[.int .u64 0, .int .u64 0]) ?_ 0 _ rfl; (with_reducible repeat (first | refine bN ?_ _ | refine bD ?_ | refine bA ?_ _)); exact BK381.out⟩, ⟨by repeat (first | (with_reducible first | exact HB.out | apply pA | apply pN | apply p1 | refine pS ?_ GE367.out | refine pS ?_ GE368.out | refine pS ?_ GE373.out | refine pS ?_ GE377.out | refine pS ?_ GE381.out) | exact HB.out)⟩⟩
          · rw [if_neg c60] at H
            have c60b0 : (!(t378 == a0_0) || (!(t379 == a0_1))) = false := by simpa using c60
            clear c60
            have H' := Aside0.mk H
            clear H
            have hnb75 := NB373_367.out
            have hnc75 := NB367_373.out
            have hnb76 := NB373_368.out
            have hnc76 := NB368_373.out
            have hnb77 := NB373_377.out
            have hnc77 := NB377_373.out
            have hnb78 := NB373_381.out
            have hnc78 := NB381_373.out
            have hcz79_0 : w33.cell? ⟨gb373, 0, none⟩ = some (.int .u64 t370) := (blk_cell BK373.out 0).trans rfl
            have hcz79_1 : w33.cell? ⟨gb373, 1, none⟩ = some (.int .u64 t371) := (blk_cell BK373.out 1).trans rfl
            have hfz79_0 := blk_frozen BK373.out 0
            have hfz79_1 := blk_frozen BK373.out 1
            have hnb80 := NB377_367.out
            have hnc80 := NB367_377.out
            have hnb81 := NB377_368.out
            have hnc81 := NB368_377.out
            have hnb82 := NB377_381.out
            have hnc82 := NB381_377.out
            have hcz83_0 : w33.cell? ⟨gb377, 0, none⟩ = some (.int .u64 t374) := (blk_cell BK377.out 0).trans rfl
            have hcz83_1 : w33.cell? ⟨gb377, 1, none⟩ = some (.int .u64 t375) := (blk_cell BK377.out 1).trans rfl
            have hfz83_0 := blk_frozen BK377.out 0
            have hfz83_1 := blk_frozen BK377.out 1
            have hnb84 := NB381_367.out
            have hnc84 := NB367_381.out
            have hnb85 := NB381_368.out
            have hnc85 := NB368_381.out
            have hcz86_0 : w33.cell? ⟨gb381, 0, none⟩ = some (.int .u64 0) := (blk_cell BK381.out 0).trans rfl
            have hcz86_1 : w33.cell? ⟨gb381, 1, none⟩ = some (.int .u64 0) := (blk_cell BK381.out 1).trans rfl
            have hfz86_0 := blk_frozen BK381.out 0
            have hfz86_1 := blk_frozen BK381.out 1
            have hnb87 := NB367_368.out
            have hnc87 := NB368_367.out
            have hcz88_0 : w33.cell? ⟨gb367, 0, none⟩ = some (.int .u64 a0_0) := (blk_cell BK367.out 0).trans rfl
            have hcz88_1 : w33.cell? ⟨gb367, 1, none⟩ = some (.int .u64 a0_1) := (blk_cell BK367.out 1).trans rfl
            have hfz88_0 := blk_frozen BK367.out 0
            have hfz88_1 := blk_frozen BK367.out 1
            go_wp2
            go_meet
            case rel => exact ⟨_, ((t380 != t372)), (by first | rfl | (simp; done) | (simp [*]; done)), H', ⟨by first | omega | exact Nat.le_refl _⟩, ⟨by (with_reducible repeat (first | refine bN ?_ _ | refine bD ?_ | refine bA ?_ _)); refine blk_far ?_ NB367_381.out _; (with_reducible repeat (first | refine bN ?_ _ | refine bD ?_ | refine bA ?_ _)); refine blk_far ?_ NB367_381.out _; (with_reducible repeat (first | refine bN ?_ _ | refine bD ?_ | refine bA ?_ _)); exact BK367.out⟩, ⟨by (with_reducible repeat (first | refine bN ?_ _ | refine bD ?_ | refine bA ?_ _)); refine blk_far ?_ NB368_381.out _; (with_reducible repeat (first | refine bN ?_ _ | refine bD ?_ | refine bA ?_ _)); refine blk_far ?_ NB368_381.out _; (with_reducible repeat (first | refine bN ?_ _ | refine bD ?_ | refine bA ?_ _)); exact BK368.out⟩, ⟨by (with_reducible repeat (first | refine bN ?_ _ | refine bD ?_ | refine bA ?_ _)); refine blk_far ?_ NB373_381.out _; (with_reducible repeat (first | refine bN ?_ _ | refine bD ?_ | refine bA ?_ _)); refine blk_far ?_ NB373_381.out _; (with_reducible repeat (first | refine bN ?_ _ | refine bD ?_ | refine bA ?_ _)); exact BK373.out⟩, ⟨by (with_reducible repeat (first | refine bN ?_ _ | refine bD ?_ | refine bA ?_ _)); refine blk_far ?_ NB377_381.out _; (with_reducible repeat (first | refine bN ?_ _ | refine bD ?_ | refine bA ?_ _)); refine blk_far ?_ NB377_381.out _; (with_reducible repeat (first | refine bN ?_ _ | refine bD ?_ | refine bA ?_ _)); exact BK377.out⟩, ⟨by (with_reducible repeat (first | refine bN ?_ _ | refine bD ?_ | refine bA ?_ _)); refine blk_put (cs := #[.int .u64 t378, .int .u64 0]) ?_ 1 _ rfl; (with_reducible repeat (first | refine bN ?_ _ | refine bD ?_ | refine bA ?_ _)); refine blk_put (cs := #[.int .u64 0, .int .u64 0]) ?_ 0 _ rfl; (with_reducible repeat (first | refine bN ?_ _ | refine bD ?_ | refine bA ?_ _)); exact BK381.out⟩, ⟨by repeat (first | (with_reducible first | exact HB.out | apply pA | apply pN | apply p1 | refine pS ?_ GE367.out | refine pS ?_ GE368.out | refine pS ?_ GE373.out | refine pS ?_ GE377.out | refine pS ?_ GE381.out) | exact HB.out)⟩⟩
    · replace c39 := Bool.eq_false_iff.mpr c39
      subst c39
      have H1 : (vernierlaw02_TwinRing.j0 k a2 a3 a4 true) = some r := by rw [if_neg (show ¬ (false = true) by decide)] at H; exact H
      clear H
      have H := H1
      clear H1
      have H' := Aside0.mk H
      clear H
      go_wp2
      go_meet
      case rel => exact ⟨_, (true), (by first | rfl | (simp; done) | (simp [*]; done)), H', ⟨by first | omega | exact Nat.le_refl _⟩, ⟨by (with_reducible repeat (first | refine bN ?_ _ | refine bD ?_ | refine bA ?_ _)); refine blk_far ?_ NB367_381.out _; (with_reducible repeat (first | refine bN ?_ _ | refine bD ?_ | refine bA ?_ _)); refine blk_far ?_ NB367_381.out _; (with_reducible repeat (first | refine bN ?_ _ | refine bD ?_ | refine bA ?_ _)); exact BK367.out⟩, ⟨by (with_reducible repeat (first | refine bN ?_ _ | refine bD ?_ | refine bA ?_ _)); refine blk_far ?_ NB368_381.out _; (with_reducible repeat (first | refine bN ?_ _ | refine bD ?_ | refine bA ?_ _)); refine blk_far ?_ NB368_381.out _; (with_reducible repeat (first | refine bN ?_ _ | refine bD ?_ | refine bA ?_ _)); exact BK368.out⟩, ⟨by (with_reducible repeat (first | refine bN ?_ _ | refine bD ?_ | refine bA ?_ _)); refine blk_far ?_ NB373_381.out _; (with_reducible repeat (first | refine bN ?_ _ | refine bD ?_ | refine bA ?_ _)); refine blk_far ?_ NB373_381.out _; (with_reducible repeat (first | refine bN ?_ _ | refine bD ?_ | refine bA ?_ _)); exact BK373.out⟩, ⟨by (with_reducible repeat (first | refine bN ?_ _ | refine bD ?_ | refine bA ?_ _)); refine blk_far ?_ NB377_381.out _; (with_reducible repeat (first | refine bN ?_ _ | refine bD ?_ | refine bA ?_ _)); refine blk_far ?_ NB377_381.out _; (with_reducible repeat (first | refine bN ?_ _ | refine bD ?_ | refine bA ?_ _)); exact BK377.out⟩, ⟨by (with_reducible repeat (first | refine bN ?_ _ | refine bD ?_ | refine bA ?_ _)); refine blk_put (cs := #[.int .u64 t378, .int .u64 0]) ?_ 1 _ rfl; (with_reducible repeat (first | refine bN ?_ _ | refine bD ?_ | refine bA ?_ _)); refine blk_put (cs := #[.int .u64 0, .int .u64 0]) ?_ 0 _ rfl; (with_reducible repeat (first | refine bN ?_ _ | refine bD ?_ | refine bA ?_ _)); exact BK381.out⟩, ⟨by repeat (first | (with_reducible first | exact HB.out | apply pA | apply pN | apply p1 | refine pS ?_ GE367.out | refine pS ?_ GE368.out | refine pS ?_ GE373.out | refine pS ?_ GE377.out | refine pS ?_ GE381.out) | exact HB.out)⟩⟩
  case rest =>
    clear HC10
    try clear c1
    try clear c2
    try clear p2
    try clear c3
    try clear c4
    try clear c5
    try clear c6
    try clear c7
    try clear c8
    try clear c9
    try clear c14
    try clear c19
    try clear c20
    try clear c22
    try clear c26
    try clear c27
    try clear c28
    try clear c34
    try clear c35
    try clear c36
    try clear c37
    try clear c39
    try clear c40
    try clear c40b0
    try clear c41
    try clear c42
    try clear c43
    try clear c44
    try clear c46
    try clear c47
    try clear c48
    try clear c50
    try clear c50b0
    try clear c50b1
    try clear c50b2
    try clear c51
    try clear c52
    try clear c53
    try clear c54
    try clear c56
    try clear c57
    try clear c58
    try clear c60
    try clear c60b0
    try clear c61
    try clear c62
    try clear c63
    try clear c64
    try clear c66
    try clear c67
    try clear c68
    try clear c70
    try clear c71
    try clear c73
    try clear c75
    try clear c76
    try clear c77
    try clear c78
    try clear c80
    try clear c81
    try clear c82
    try clear c84
    try clear c85
    try clear c87
    try clear hcz15_0
    try clear hcz15_1
    try clear hcz16_0
    try clear hcz16_1
    try clear hcz21_0
    try clear hcz21_1
    try clear hcz22_0
    try clear hcz22_1
    try clear hcz23_0
    try clear hcz23_1
    try clear hcz29_0
    try clear hcz29_1
    try clear hcz30_0
    try clear hcz30_1
    try clear hcz31_0
    try clear hcz31_1
    try clear hcz38_0
    try clear hcz38_1
    try clear hcz45_0
    try clear hcz45_1
    try clear hcz49_0
    try clear hcz49_1
    try clear hcz55_0
    try clear hcz55_1
    try clear hcz59_0
    try clear hcz59_1
    try clear hcz65_0
    try clear hcz65_1
    try clear hcz69_0
    try clear hcz69_1
    try clear hcz72_0
    try clear hcz72_1
    try clear hcz74_0
    try clear hcz74_1
    try clear hcz79_0
    try clear hcz79_1
    try clear hcz83_0
    try clear hcz83_1
    try clear hcz86_0
    try clear hcz86_1
    try clear hcz88_0
    try clear hcz88_1
    try clear hfz15_0
    try clear hfz15_1
    try clear hfz16_0
    try clear hfz16_1
    try clear hfz21_0
    try clear hfz21_1
    try clear hfz22_0
    try clear hfz22_1
    try clear hfz23_0
    try clear hfz23_1
    try clear hfz29_0
    try clear hfz29_1
    try clear hfz30_0
    try clear hfz30_1
    try clear hfz31_0
    try clear hfz31_1
    try clear hfz38_0
    try clear hfz38_1
    try clear hfz45_0
    try clear hfz45_1
    try clear hfz49_0
    try clear hfz49_1
    try clear hfz55_0
    try clear hfz55_1
    try clear hfz59_0
    try clear hfz59_1
    try clear hfz65_0
    try clear hfz65_1
    try clear hfz69_0
    try clear hfz69_1
    try clear hfz72_0
    try clear hfz72_1
    try clear hfz74_0
    try clear hfz74_1
    try clear hfz79_0
    try clear hfz79_1
    try clear hfz83_0
    try clear hfz83_1
    try clear hfz86_0
    try clear hfz86_1
    try clear hfz88_0
    try clear hfz88_1
    obtain ⟨kq, x61_9, rfl, HA, HJ9, BK367, BK368, BK373, BK377, BK381, HB⟩ := hcut
    cases kq with
    | zero => exact absurd HA.out (by simp [vernierlaw02_TwinRing.j0])
    | succ kj9 =>
      have H := HA.out
      clear HA
      simp only [vernierlaw02_TwinRing.j0] at H
      by_cases c89 : x61_9 = true
      · subst c89
        have H1 : (some false) = some r := by rw [if_pos rfl] at H; exact H
        clear H
        have H := H1
        clear H1
        obtain rfl := Option.some.inj H
        go_wp2
        go_ret
        exact ⟨by first | rfl | (simp [errW_none, errW_some] <;> rfl) | (simp [*, errW_none, errW_some] <;> rfl), by repeat (first | (with_reducible first | exact HB.out | apply pA | apply pN | apply p1 | refine pS ?_ GE367.out | refine pS ?_ GE368.out | refine pS ?_ GE373.out | refine pS ?_ GE377.out | refine pS ?_ GE381.out) | exact HB.out)⟩
      · replace c89 := Bool.eq_false_iff.mpr c89
        subst c89
        have H1 : ((twin_Mul.f a2 a3).bind fun bt382 => ((twin_Mul.f a3 a2).bind fun bt385 => (if (!(bt382.1 == bt385.1) || (!(bt382.2 == bt385.2))) = true then (some false) else (if (IntKind.u64.wrap (a3 + a4)) < a3 then (some true) else ((twin_Mul.f a2 a4).bind fun bt387 => ((twin_Add.f bt382.1 bt382.2 bt387.1 bt387.2).bind fun bt389 => (if bt389.2.2 = true then (some false) else ((twin_Mul.f a2 (IntKind.u64.wrap (a3 + a4))).bind fun bt393 => (some (bt389.1 == bt393.1 && (bt389.2.1 == bt393.2))))))))))) = some r := by rw [if_neg (show ¬ (false = true) by decide)] at H; exact H
        clear H
        have H := H1
        clear H1
        replace H := Option.bind_eq_some_iff.mp H
        obtain ⟨⟨t382, t383⟩, A900, H⟩ := H
        replace H : ((twin_Mul.f a3 a2).bind fun bt385 => (if (!(t382 == bt385.1) || (!(t383 == bt385.2))) = true then (some false) else (if (IntKind.u64.wrap (a3 + a4)) < a3 then (some true) else ((twin_Mul.f a2 a4).bind fun bt387 => ((twin_Add.f t382 t383 bt387.1 bt387.2).bind fun bt389 => (if bt389.2.2 = true then (some false) else ((twin_Mul.f a2 (IntKind.u64.wrap (a3 + a4))).bind fun bt393 => (some (bt389.1 == bt393.1 && (bt389.2.1 == bt393.2)))))))))) = some r := H
        have A90 := Aside0.mk A900
        clear A900
        replace H := Option.bind_eq_some_iff.mp H
        obtain ⟨⟨t385, t386⟩, A910, H⟩ := H
        replace H : (if (!(t382 == t385) || (!(t383 == t386))) = true then (some false) else (if (IntKind.u64.wrap (a3 + a4)) < a3 then (some true) else ((twin_Mul.f a2 a4).bind fun bt387 => ((twin_Add.f t382 t383 bt387.1 bt387.2).bind fun bt389 => (if bt389.2.2 = true then (some false) else ((twin_Mul.f a2 (IntKind.u64.wrap (a3 + a4))).bind fun bt393 => (some (bt389.1 == bt393.1 && (bt389.2.1 == bt393.2))))))))) = some r := H
        have A91 := Aside0.mk A910
        clear A910
        by_cases c92 : (!(t382 == t385) || (!(t383 == t386))) = true
        · rw [if_pos c92] at H
          have c92b0 : (!(t382 == t385) || (!(t383 == t386))) = true := c92
          clear c92
          obtain rfl := Option.some.inj H
          try go_wp2_with (first | ((with_reducible refine gC (f := 23) rfl ?_); refine goesY_ (some 64) Try.func23 #[.int .u64 a2, .int .u64 a3] ?_; (with_reducible refine (twin_Mul.calls a2 a3 t382 t383 _ A90.out).mono ?_); rintro e w93 ⟨rfl, hb⟩; refine ⟨_, rfl, ?_⟩; have n0_ := Aside0.mk (bB3 BK367.out hb); have n1_ := Aside0.mk (bB3 BK368.out hb); have n2_ := Aside0.mk (bB3 BK373.out hb); have n3_ := Aside0.mk (bB3 BK377.out hb); have n4_ := Aside0.mk (bB3 BK381.out hb); have n5_ := Aside0.mk (bS3 HB.out hb); clear BK367; clear BK368; clear BK373; clear BK377; clear BK381; clear HB; have BK367 := n0_; have BK368 := n1_; have BK373 := n2_; have BK377 := n3_; have BK381 := n4_; have HB := n5_; clear n0_ n1_ n2_ n3_ n4_ n5_; (try clear hb); (try clear hb2); (try clear hk); (try clear hi)) | ((with_reducible refine gD (N := 18) rfl ?_); refine bE3 18 #[.int .u64 0, .int .u64 0] 25 ?hr ?_; (case hr => first | (go_simp; done) | (go_simp; rfl)); intro gb384 hg w94 hbox hb; have n0_ := Aside0.mk (bB3 BK367.out hb); have n1_ := Aside0.mk (bB3 BK368.out hb); have n2_ := Aside0.mk (bB3 BK373.out hb); have n3_ := Aside0.mk (bB3 BK377.out hb); have n4_ := Aside0.mk (bB3 BK381.out hb); have n5_ := Aside0.mk (bS3 HB.out hb); have n6_ := Aside0.mk (hbox); have n7_ := Aside0.mk ((bZ3 hg HB.out)); have n8_ := Aside0.mk ((bZ3 hg HB.out)); have n9_ := Aside0.mk ((bL3 hg BK367.out)); have n10_ := Aside0.mk ((bG3 hg BK367.out)); have n11_ := Aside0.mk ((bL3 hg BK368.out)); have n12_ := Aside0.mk ((bG3 hg BK368.out)); have n13_ := Aside0.mk ((bL3 hg BK373.out)); have n14_ := Aside0.mk ((bG3 hg BK373.out)); have n15_ := Aside0.mk ((bL3 hg BK377.out)); have n16_ := Aside0.mk ((bG3 hg BK377.out)); have n17_ := Aside0.mk ((bL3 hg BK381.out)); have n18_ := Aside0.mk ((bG3 hg BK381.out)); clear BK367; clear BK368; clear BK373; clear BK377; clear BK381; clear HB; have BK367 := n0_; have BK368 := n1_; have BK373 := n2_; have BK377 := n3_; have BK381 := n4_; have HB := n5_; have BK384 := n6_; have GW384 := n7_; have GE384 := n8_; have NB367_384 := n9_; have NB384_367 := n10_; have NB368_384 := n11_; have NB384_368 := n12_; have NB373_384 := n13_; have NB384_373 := n14_; have NB377_384 := n15_; have NB384_377 := n16_; have NB381_384 := n17_; have NB384_381 := n18_; clear n0_ n1_ n2_ n3_ n4_ n5_ n6_ n7_ n8_ n9_ n10_ n11_ n12_ n13_ n14_ n15_ n16_ n17_ n18_; clear hb hbox hg; have hnb95 := NB384_367.out; have hnc95 := NB367_384.out; have hnb96 := NB384_368.out; have hnc96 := NB368_384.out; have hnb97 := NB384_373.out; have hnc97 := NB373_384.out; have hnb98 := NB384_377.out; have hnc98 := NB377_384.out; have hnb99 := NB384_381.out; have hnc99 := NB381_384.out; have hcz100_0 : w94.cell? ⟨gb384, 0, none⟩ = some (.int .u64 0) := (blk_cell BK384.out 0).trans rfl; have hcz100_1 : w94.cell? ⟨gb384, 1, none⟩ = some (.int .u64 0) := (blk_cell BK384.out 1).trans rfl; have hfz100_0 := blk_frozen BK384.out 0; have hfz100_1 := blk_frozen BK384.out 1))
          have n0_ : Aside0 (((w94.setCell ⟨gb384, 0, none⟩ (.int .u64 t382)).setCell ⟨gb384, 1, none⟩ (.int .u64 t383)).heap[gb367]? = some (.cells #[.int .u64 a0_0, .int .u64 a0_1] 25 (0, 0))) := ⟨by (with_reducible repeat (first | refine bN ?_ _ | refine bD ?_ | refine bA ?_ _)); refine blk_far ?_ NB367_384.out _; (with_reducible repeat (first | refine bN ?_ _ | refine bD ?_ | refine bA ?_ _)); refine blk_far ?_ NB367_384.out _; (with_reducible repeat (first | refine bN ?_ _ | refine bD ?_ | refine bA ?_ _)); exact BK367.out⟩
          have n1_ : Aside0 (((w94.setCell ⟨gb384, 0, none⟩ (.int .u64 t382)).setCell ⟨gb384, 1, none⟩ (.int .u64 t383)).heap[gb368]? = some (.cells #[.int .u64 a1_0, .int .u64 a1_1] 25 (0, 0))) := ⟨by (with_reducible repeat (first | refine bN ?_ _ | refine bD ?_ | refine bA ?_ _)); refine blk_far ?_ NB368_384.out _; (with_reducible repeat (first | refine bN ?_ _ | refine bD ?_ | refine bA ?_ _)); refine blk_far ?_ NB368_384.out _; (with_reducible repeat (first | refine bN ?_ _ | refine bD ?_ | refine bA ?_ _)); exact BK368.out⟩
          have n2_ : Aside0 (((w94.setCell ⟨gb384, 0, none⟩ (.int .u64 t382)).setCell ⟨gb384, 1, none⟩ (.int .u64 t383)).heap[gb373]? = some (.cells #[.int .u64 t370, .int .u64 t371] 25 (0, 0))) := ⟨by (with_reducible repeat (first | refine bN ?_ _ | refine bD ?_ | refine bA ?_ _)); refine blk_far ?_ NB373_384.out _; (with_reducible repeat (first | refine bN ?_ _ | refine bD ?_ | refine bA ?_ _)); refine blk_far ?_ NB373_384.out _; (with_reducible repeat (first | refine bN ?_ _ | refine bD ?_ | refine bA ?_ _)); exact BK373.out⟩
          have n3_ : Aside0 (((w94.setCell ⟨gb384, 0, none⟩ (.int .u64 t382)).setCell ⟨gb384, 1, none⟩ (.int .u64 t383)).heap[gb377]? = some (.cells #[.int .u64 t374, .int .u64 t375] 25 (0, 0))) := ⟨by (with_reducible repeat (first | refine bN ?_ _ | refine bD ?_ | refine bA ?_ _)); refine blk_far ?_ NB377_384.out _; (with_reducible repeat (first | refine bN ?_ _ | refine bD ?_ | refine bA ?_ _)); refine blk_far ?_ NB377_384.out _; (with_reducible repeat (first | refine bN ?_ _ | refine bD ?_ | refine bA ?_ _)); exact BK377.out⟩
          have n4_ : Aside0 (((w94.setCell ⟨gb384, 0, none⟩ (.int .u64 t382)).setCell ⟨gb384, 1, none⟩ (.int .u64 t383)).heap[gb381]? = some (.cells #[.int .u64 t378, .int .u64 t379] 25 (0, 0))) := ⟨by (with_reducible repeat (first | refine bN ?_ _ | refine bD ?_ | refine bA ?_ _)); refine blk_far ?_ NB381_384.out _; (with_reducible repeat (first | refine bN ?_ _ | refine bD ?_ | refine bA ?_ _)); refine blk_far ?_ NB381_384.out _; (with_reducible repeat (first | refine bN ?_ _ | refine bD ?_ | refine bA ?_ _)); exact BK381.out⟩
          have n5_ : Aside0 (((w94.setCell ⟨gb384, 0, none⟩ (.int .u64 t382)).setCell ⟨gb384, 1, none⟩ (.int .u64 t383)).heap[gb384]? = some (.cells #[.int .u64 t382, .int .u64 t383] 25 (0, 0))) := ⟨by (with_reducible repeat (first | refine bN ?_ _ | refine bD ?_ | refine bA ?_ _)); refine blk_put (cs := #[.int .u64 t382, .int .u64 0]) ?_ 1 _ rfl; (with_reducible repeat (first | refine bN ?_ _ | refine bD ?_ | refine bA ?_ _)); refine blk_put (cs := #[.int .u64 0, .int .u64 0]) ?_ 0 _ rfl; (with_reducible repeat (first | refine bN ?_ _ | refine bD ?_ | refine bA ?_ _)); exact BK384.out⟩
          have n6_ : Aside0 (Below w.heap.size w ((w94.setCell ⟨gb384, 0, none⟩ (.int .u64 t382)).setCell ⟨gb384, 1, none⟩ (.int .u64 t383))) := ⟨by repeat (first | (with_reducible first | exact HB.out | apply pA | apply pN | apply p1 | refine pS ?_ GE367.out | refine pS ?_ GE368.out | refine pS ?_ GE373.out | refine pS ?_ GE377.out | refine pS ?_ GE381.out | refine pS ?_ GE384.out) | exact HB.out)⟩
          (try clear BK367)
          (try clear BK368)
          (try clear BK373)
          (try clear BK377)
          (try clear BK381)
          (try clear BK384)
          (try clear HB)
          generalize ((w94.setCell ⟨gb384, 0, none⟩ (.int .u64 t382)).setCell ⟨gb384, 1, none⟩ (.int .u64 t383)) = w101 at n0_ n1_ n2_ n3_ n4_ n5_ n6_ ⊢
          have BK367 := n0_
          have BK368 := n1_
          have BK373 := n2_
          have BK377 := n3_
          have BK381 := n4_
          have BK384 := n5_
          have HB := n6_
          clear n0_ n1_ n2_ n3_ n4_ n5_ n6_
          have n0_ := Aside0.mk (bD BK367.out)
          have n1_ := Aside0.mk (bD BK368.out)
          have n2_ := Aside0.mk (bD BK373.out)
          have n3_ := Aside0.mk (bD BK377.out)
          have n4_ := Aside0.mk (bD BK381.out)
          have n5_ := Aside0.mk (bD BK384.out)
          have n6_ := Aside0.mk (p1 HB.out)
          clear BK367
          clear BK368
          clear BK373
          clear BK377
          clear BK381
          clear BK384
          clear HB
          have BK367 := n0_
          have BK368 := n1_
          have BK373 := n2_
          have BK377 := n3_
          have BK381 := n4_
          have BK384 := n5_
          have HB := n6_
          clear n0_ n1_ n2_ n3_ n4_ n5_ n6_
          refine start_ (n := 5) (S := fun w' => w'.cell? ⟨gb384, 0, none⟩ = some (.int .u64 t382) ∧ w'.cell? ⟨gb384, 1, none⟩ = some (.int .u64 t383)) (ds := []) #[false, false, false, false, false] (by kernel_rfl) rfl rfl ⟨(blk_cell BK384.out 0).trans rfl, (blk_cell BK384.out 1).trans rfl⟩ (fun hHeld => ?_)
          generalize w101.drew = w102 at BK367 BK368 BK373 BK377 BK381 BK384 HB hHeld ⊢
          refine pure_ (i := 1) (N := some 66) (v := ?_) (a' := ?_) #[false, true, false, false, false] rfl rfl (by kernel_rfl) (fun _ _ _ h => h) (Or.inl ⟨by rfl, ?_⟩) ?_ ?_
          rotate_left
          · intro w'
            go_simp
            with_reducible rfl
          rotate_left
          · simp only [Act.put, List.setIfInBounds_toArray, List.set_cons_zero, List.set_cons_succ, i64_w, i32_w]
            rfl
          refine pure_ (i := 2) (N := some 67) (v := ?_) (a' := ?_) #[false, true, true, false, false] rfl rfl (by kernel_rfl) (fun _ _ _ h => h) (Or.inl ⟨by rfl, ?_⟩) ?_ ?_
          rotate_left
          · intro w'
            go_simp
            with_reducible rfl
          rotate_left
          · simp only [Act.put, List.setIfInBounds_toArray, List.set_cons_zero, List.set_cons_succ, i64_w, i32_w]
            rfl
          refine take_ (i := 0) (N := some 65) (v := ?_) (a' := ?_) #[true, true, true, false, false] rfl rfl (by kernel_rfl) (fun _ _ _ h => h) (Or.inl ⟨by rfl, ?_⟩) hHeld ?_ ?_
          rotate_left
          · rintro w' ⟨s0, s1⟩
            go_simp
            with_reducible rfl
          rotate_left
          · simp only [Act.put, List.setIfInBounds_toArray, List.set_cons_zero, List.set_cons_succ, i64_w, i32_w]
            rfl
          refine one_ (i := 3) (N := some 68) #[true, true, true, true, false] rfl rfl (by kernel_rfl) (by decide) (fun K hK => ?_)
          refine goes_ Try.func23 (by kernel_rfl) rfl #[.int .u64 a3, .int .u64 a2] (by rfl) rfl rfl (by (try simp only [List.map_toArray, List.map_cons, List.map_nil]); first | done | rfl | (simp only [List.length_drop, List.length_take]; rfl)) ?_
          with_reducible refine (twin_Mul.calls a3 a2 t385 t386 _ A91.out).mono ?_
          rintro e w103 ⟨rfl, hb⟩
          refine ⟨_, rfl, ?_⟩
          have n0_ := Aside0.mk (bB3 BK367.out hb)
          have n1_ := Aside0.mk (bB3 BK368.out hb)
          have n2_ := Aside0.mk (bB3 BK373.out hb)
          have n3_ := Aside0.mk (bB3 BK377.out hb)
          have n4_ := Aside0.mk (bB3 BK381.out hb)
          have n5_ := Aside0.mk (bB3 BK384.out hb)
          have n6_ := Aside0.mk (bS3 HB.out hb)
          clear BK367
          clear BK368
          clear BK373
          clear BK377
          clear BK381
          clear BK384
          clear HB
          have BK367 := n0_
          have BK368 := n1_
          have BK373 := n2_
          have BK377 := n3_
          have BK381 := n4_
          have BK384 := n5_
          have HB := n6_
          clear n0_ n1_ n2_ n3_ n4_ n5_ n6_
          (try clear hb)
          (try clear hb2)
          (try clear hk)
          (try clear hi)
          refine hK.out _ _ ⟨(blk_cell BK384.out 0).trans rfl, (blk_cell BK384.out 1).trans rfl⟩ (fun hHeld => ?_)
          clear hK K
          refine norm_ (a' := ?_) ?_ ?_
          rotate_left
          · show Act.put _ (some 68) _ = _
            simp only [Act.put, List.setIfInBounds_toArray, List.set_cons_zero, List.set_cons_succ, i64_w, i32_w]
            rfl
          refine pure_ (i := 4) (N := some 69) (v := ?_) (a' := ?_) #[true, true, true, true, true] rfl rfl (by kernel_rfl) (fun _ _ _ h => h) (Or.inl ⟨by rfl, ?_⟩) ?_ ?_
          rotate_left
          · intro w'
            go_simp
            with_reducible rfl
          rotate_left
          · simp only [Act.put, List.setIfInBounds_toArray, List.set_cons_zero, List.set_cons_succ, i64_w, i32_w]
            rfl
          refine done_ (by kernel_rfl) ?_
          try go_wp2
          go_ret
          exact ⟨by first | rfl | (simp [errW_none, errW_some] <;> rfl) | (simp [*, errW_none, errW_some] <;> rfl), by repeat (first | (with_reducible first | exact HB.out | apply pA | apply pN | apply p1 | refine pS ?_ GE367.out | refine pS ?_ GE368.out | refine pS ?_ GE373.out | refine pS ?_ GE377.out | refine pS ?_ GE381.out | refine pS ?_ GE384.out) | exact HB.out)⟩
        · rw [if_neg c92] at H
          have c92b0 : (!(t382 == t385) || (!(t383 == t386))) = false := by simpa using c92
          clear c92
          by_cases c104 : (IntKind.u64.wrap (a3 + a4)) < a3
          · rw [if_pos c104] at H
            have c104b0 : decide ((IntKind.u64.wrap (a3 + a4)) < a3) = true := decide_eq_true c104
            clear c104
            obtain rfl := Option.some.inj H
            try go_wp2_with (first | ((with_reducible refine gC (f := 23) rfl ?_); refine goesY_ (some 64) Try.func23 #[.int .u64 a2, .int .u64 a3] ?_; (with_reducible refine (twin_Mul.calls a2 a3 t382 t383 _ A90.out).mono ?_); rintro e w105 ⟨rfl, hb⟩; refine ⟨_, rfl, ?_⟩; have n0_ := Aside0.mk (bB3 BK367.out hb); have n1_ := Aside0.mk (bB3 BK368.out hb); have n2_ := Aside0.mk (bB3 BK373.out hb); have n3_ := Aside0.mk (bB3 BK377.out hb); have n4_ := Aside0.mk (bB3 BK381.out hb); have n5_ := Aside0.mk (bS3 HB.out hb); clear BK367; clear BK368; clear BK373; clear BK377; clear BK381; clear HB; have BK367 := n0_; have BK368 := n1_; have BK373 := n2_; have BK377 := n3_; have BK381 := n4_; have HB := n5_; clear n0_ n1_ n2_ n3_ n4_ n5_; (try clear hb); (try clear hb2); (try clear hk); (try clear hi)) | ((with_reducible refine gD (N := 18) rfl ?_); refine bE3 18 #[.int .u64 0, .int .u64 0] 25 ?hr ?_; (case hr => first | (go_simp; done) | (go_simp; rfl)); intro gb384 hg w106 hbox hb; have n0_ := Aside0.mk (bB3 BK367.out hb); have n1_ := Aside0.mk (bB3 BK368.out hb); have n2_ := Aside0.mk (bB3 BK373.out hb); have n3_ := Aside0.mk (bB3 BK377.out hb); have n4_ := Aside0.mk (bB3 BK381.out hb); have n5_ := Aside0.mk (bS3 HB.out hb); have n6_ := Aside0.mk (hbox); have n7_ := Aside0.mk ((bZ3 hg HB.out)); have n8_ := Aside0.mk ((bZ3 hg HB.out)); have n9_ := Aside0.mk ((bL3 hg BK367.out)); have n10_ := Aside0.mk ((bG3 hg BK367.out)); have n11_ := Aside0.mk ((bL3 hg BK368.out)); have n12_ := Aside0.mk ((bG3 hg BK368.out)); have n13_ := Aside0.mk ((bL3 hg BK373.out)); have n14_ := Aside0.mk ((bG3 hg BK373.out)); have n15_ := Aside0.mk ((bL3 hg BK377.out)); have n16_ := Aside0.mk ((bG3 hg BK377.out)); have n17_ := Aside0.mk ((bL3 hg BK381.out)); have n18_ := Aside0.mk ((bG3 hg BK381.out)); clear BK367; clear BK368; clear BK373; clear BK377; clear BK381; clear HB; have BK367 := n0_; have BK368 := n1_; have BK373 := n2_; have BK377 := n3_; have BK381 := n4_; have HB := n5_; have BK384 := n6_; have GW384 := n7_; have GE384 := n8_; have NB367_384 := n9_; have NB384_367 := n10_; have NB368_384 := n11_; have NB384_368 := n12_; have NB373_384 := n13_; have NB384_373 := n14_; have NB377_384 := n15_; have NB384_377 := n16_; have NB381_384 := n17_; have NB384_381 := n18_; clear n0_ n1_ n2_ n3_ n4_ n5_ n6_ n7_ n8_ n9_ n10_ n11_ n12_ n13_ n14_ n15_ n16_ n17_ n18_; clear hb hbox hg; have hnb107 := NB384_367.out; have hnc107 := NB367_384.out; have hnb108 := NB384_368.out; have hnc108 := NB368_384.out; have hnb109 := NB384_373.out; have hnc109 := NB373_384.out; have hnb110 := NB384_377.out; have hnc110 := NB377_384.out; have hnb111 := NB384_381.out; have hnc111 := NB381_384.out; have hcz112_0 : w106.cell? ⟨gb384, 0, none⟩ = some (.int .u64 0) := (blk_cell BK384.out 0).trans rfl; have hcz112_1 : w106.cell? ⟨gb384, 1, none⟩ = some (.int .u64 0) := (blk_cell BK384.out 1).trans rfl; have hfz112_0 := blk_frozen BK384.out 0; have hfz112_1 := blk_frozen BK384.out 1))
            have n0_ : Aside0 (((w106.setCell ⟨gb384, 0, none⟩ (.int .u64 t382)).setCell ⟨gb384, 1, none⟩ (.int .u64 t383)).heap[gb367]? = some (.cells #[.int .u64 a0_0, .int .u64 a0_1] 25 (0, 0))) := ⟨by (with_reducible repeat (first | refine bN ?_ _ | refine bD ?_ | refine bA ?_ _)); refine blk_far ?_ NB367_384.out _; (with_reducible repeat (first | refine bN ?_ _ | refine bD ?_ | refine bA ?_ _)); refine blk_far ?_ NB367_384.out _; (with_reducible repeat (first | refine bN ?_ _ | refine bD ?_ | refine bA ?_ _)); exact BK367.out⟩
            have n1_ : Aside0 (((w106.setCell ⟨gb384, 0, none⟩ (.int .u64 t382)).setCell ⟨gb384, 1, none⟩ (.int .u64 t383)).heap[gb368]? = some (.cells #[.int .u64 a1_0, .int .u64 a1_1] 25 (0, 0))) := ⟨by (with_reducible repeat (first | refine bN ?_ _ | refine bD ?_ | refine bA ?_ _)); refine blk_far ?_ NB368_384.out _; (with_reducible repeat (first | refine bN ?_ _ | refine bD ?_ | refine bA ?_ _)); refine blk_far ?_ NB368_384.out _; (with_reducible repeat (first | refine bN ?_ _ | refine bD ?_ | refine bA ?_ _)); exact BK368.out⟩
            have n2_ : Aside0 (((w106.setCell ⟨gb384, 0, none⟩ (.int .u64 t382)).setCell ⟨gb384, 1, none⟩ (.int .u64 t383)).heap[gb373]? = some (.cells #[.int .u64 t370, .int .u64 t371] 25 (0, 0))) := ⟨by (with_reducible repeat (first | refine bN ?_ _ | refine bD ?_ | refine bA ?_ _)); refine blk_far ?_ NB373_384.out _; (with_reducible repeat (first | refine bN ?_ _ | refine bD ?_ | refine bA ?_ _)); refine blk_far ?_ NB373_384.out _; (with_reducible repeat (first | refine bN ?_ _ | refine bD ?_ | refine bA ?_ _)); exact BK373.out⟩
            have n3_ : Aside0 (((w106.setCell ⟨gb384, 0, none⟩ (.int .u64 t382)).setCell ⟨gb384, 1, none⟩ (.int .u64 t383)).heap[gb377]? = some (.cells #[.int .u64 t374, .int .u64 t375] 25 (0, 0))) := ⟨by (with_reducible repeat (first | refine bN ?_ _ | refine bD ?_ | refine bA ?_ _)); refine blk_far ?_ NB377_384.out _; (with_reducible repeat (first | refine bN ?_ _ | refine bD ?_ | refine bA ?_ _)); refine blk_far ?_ NB377_384.out _; (with_reducible repeat (first | refine bN ?_ _ | refine bD ?_ | refine bA ?_ _)); exact BK377.out⟩
            have n4_ : Aside0 (((w106.setCell ⟨gb384, 0, none⟩ (.int .u64 t382)).setCell ⟨gb384, 1, none⟩ (.int .u64 t383)).heap[gb381]? = some (.cells #[.int .u64 t378, .int .u64 t379] 25 (0, 0))) := ⟨by (with_reducible repeat (first | refine bN ?_ _ | refine bD ?_ | refine bA ?_ _)); refine blk_far ?_ NB381_384.out _; (with_reducible repeat (first | refine bN ?_ _ | refine bD ?_ | refine bA ?_ _)); refine blk_far ?_ NB381_384.out _; (with_reducible repeat (first | refine bN ?_ _ | refine bD ?_ | refine bA ?_ _)); exact BK381.out⟩
            have n5_ : Aside0 (((w106.setCell ⟨gb384, 0, none⟩ (.int .u64 t382)).setCell ⟨gb384, 1, none⟩ (.int .u64 t383)).heap[gb384]? = some (.cells #[.int .u64 t382, .int .u64 t383] 25 (0, 0))) := ⟨by (with_reducible repeat (first | refine bN ?_ _ | refine bD ?_ | refine bA ?_ _)); refine blk_put (cs := #[.int .u64 t382, .int .u64 0]) ?_ 1 _ rfl; (with_reducible repeat (first | refine bN ?_ _ | refine bD ?_ | refine bA ?_ _)); refine blk_put (cs := #[.int .u64 0, .int .u64 0]) ?_ 0 _ rfl; (with_reducible repeat (first | refine bN ?_ _ | refine bD ?_ | refine bA ?_ _)); exact BK384.out⟩
            have n6_ : Aside0 (Below w.heap.size w ((w106.setCell ⟨gb384, 0, none⟩ (.int .u64 t382)).setCell ⟨gb384, 1, none⟩ (.int .u64 t383))) := ⟨by repeat (first | (with_reducible first | exact HB.out | apply pA | apply pN | apply p1 | refine pS ?_ GE367.out | refine pS ?_ GE368.out | refine pS ?_ GE373.out | refine pS ?_ GE377.out | refine pS ?_ GE381.out | refine pS ?_ GE384.out) | exact HB.out)⟩
            (try clear BK367)
            (try clear BK368)
            (try clear BK373)
            (try clear BK377)
            (try clear BK381)
            (try clear BK384)
            (try clear HB)
            generalize ((w106.setCell ⟨gb384, 0, none⟩ (.int .u64 t382)).setCell ⟨gb384, 1, none⟩ (.int .u64 t383)) = w113 at n0_ n1_ n2_ n3_ n4_ n5_ n6_ ⊢
            have BK367 := n0_
            have BK368 := n1_
            have BK373 := n2_
            have BK377 := n3_
            have BK381 := n4_
            have BK384 := n5_
            have HB := n6_
            clear n0_ n1_ n2_ n3_ n4_ n5_ n6_
            have n0_ := Aside0.mk (bD BK367.out)
            have n1_ := Aside0.mk (bD BK368.out)
            have n2_ := Aside0.mk (bD BK373.out)
            have n3_ := Aside0.mk (bD BK377.out)
            have n4_ := Aside0.mk (bD BK381.out)
            have n5_ := Aside0.mk (bD BK384.out)
            have n6_ := Aside0.mk (p1 HB.out)
            clear BK367
            clear BK368
            clear BK373
            clear BK377
            clear BK381
            clear BK384
            clear HB
            have BK367 := n0_
            have BK368 := n1_
            have BK373 := n2_
            have BK377 := n3_
            have BK381 := n4_
            have BK384 := n5_
            have HB := n6_
            clear n0_ n1_ n2_ n3_ n4_ n5_ n6_
            refine start_ (n := 5) (S := fun w' => w'.cell? ⟨gb384, 0, none⟩ = some (.int .u64 t382) ∧ w'.cell? ⟨gb384, 1, none⟩ = some (.int .u64 t383)) (ds := []) #[false, false, false, false, false] (by kernel_rfl) rfl rfl ⟨(blk_cell BK384.out 0).trans rfl, (blk_cell BK384.out 1).trans rfl⟩ (fun hHeld => ?_)
            generalize w113.drew = w114 at BK367 BK368 BK373 BK377 BK381 BK384 HB hHeld ⊢
            refine pure_ (i := 1) (N := some 66) (v := ?_) (a' := ?_) #[false, true, false, false, false] rfl rfl (by kernel_rfl) (fun _ _ _ h => h) (Or.inl ⟨by rfl, ?_⟩) ?_ ?_
            rotate_left
            · intro w'
              go_simp
              with_reducible rfl
            rotate_left
            · simp only [Act.put, List.setIfInBounds_toArray, List.set_cons_zero, List.set_cons_succ, i64_w, i32_w]
              rfl
            refine pure_ (i := 2) (N := some 67) (v := ?_) (a' := ?_) #[false, true, true, false, false] rfl rfl (by kernel_rfl) (fun _ _ _ h => h) (Or.inl ⟨by rfl, ?_⟩) ?_ ?_
            rotate_left
            · intro w'
              go_simp
              with_reducible rfl
            rotate_left
            · simp only [Act.put, List.setIfInBounds_toArray, List.set_cons_zero, List.set_cons_succ, i64_w, i32_w]
              rfl
            refine take_ (i := 0) (N := some 65) (v := ?_) (a' := ?_) #[true, true, true, false, false] rfl rfl (by kernel_rfl) (fun _ _ _ h => h) (Or.inl ⟨by rfl, ?_⟩) hHeld ?_ ?_
            rotate_left
            · rintro w' ⟨s0, s1⟩
              go_simp
              with_reducible rfl
            rotate_left
            · simp only [Act.put, List.setIfInBounds_toArray, List.set_cons_zero, List.set_cons_succ, i64_w, i32_w]
              rfl
            refine one_ (i := 3) (N := some 68) #[true, true, true, true, false] rfl rfl (by kernel_rfl) (by decide) (fun K hK => ?_)
            refine goes_ Try.func23 (by kernel_rfl) rfl #[.int .u64 a3, .int .u64 a2] (by rfl) rfl rfl (by (try simp only [List.map_toArray, List.map_cons, List.map_nil]); first | done | rfl | (simp only [List.length_drop, List.length_take]; rfl)) ?_
            with_reducible refine (twin_Mul.calls a3 a2 t385 t386 _ A91.out).mono ?_
            rintro e w115 ⟨rfl, hb⟩
            refine ⟨_, rfl, ?_⟩
            have n0_ := Aside0.mk (bB3 BK367.out hb)
            have n1_ := Aside0.mk (bB3 BK368.out hb)
            have n2_ := Aside0.mk (bB3 BK373.out hb)
            have n3_ := Aside0.mk (bB3 BK377.out hb)
            have n4_ := Aside0.mk (bB3 BK381.out hb)
            have n5_ := Aside0.mk (bB3 BK384.out hb)
            have n6_ := Aside0.mk (bS3 HB.out hb)
            clear BK367
            clear BK368
            clear BK373
            clear BK377
            clear BK381
            clear BK384
            clear HB
            have BK367 := n0_
            have BK368 := n1_
            have BK373 := n2_
            have BK377 := n3_
            have BK381 := n4_
            have BK384 := n5_
            have HB := n6_
            clear n0_ n1_ n2_ n3_ n4_ n5_ n6_
            (try clear hb)
            (try clear hb2)
            (try clear hk)
            (try clear hi)
            refine hK.out _ _ ⟨(blk_cell BK384.out 0).trans rfl, (blk_cell BK384.out 1).trans rfl⟩ (fun hHeld => ?_)
            clear hK K
            refine norm_ (a' := ?_) ?_ ?_
            rotate_left
            · show Act.put _ (some 68) _ = _
              simp only [Act.put, List.setIfInBounds_toArray, List.set_cons_zero, List.set_cons_succ, i64_w, i32_w]
              rfl
            refine pure_ (i := 4) (N := some 69) (v := ?_) (a' := ?_) #[true, true, true, true, true] rfl rfl (by kernel_rfl) (fun _ _ _ h => h) (Or.inl ⟨by rfl, ?_⟩) ?_ ?_
            rotate_left
            · intro w'
              go_simp
              with_reducible rfl
            rotate_left
            · simp only [Act.put, List.setIfInBounds_toArray, List.set_cons_zero, List.set_cons_succ, i64_w, i32_w]
              rfl
            refine done_ (by kernel_rfl) ?_
            try go_wp2
            go_ret
            exact ⟨by first | rfl | (simp [errW_none, errW_some] <;> rfl) | (simp [*, errW_none, errW_some] <;> rfl), by repeat (first | (with_reducible first | exact HB.out | apply pA | apply pN | apply p1 | refine pS ?_ GE367.out | refine pS ?_ GE368.out | refine pS ?_ GE373.out | refine pS ?_ GE377.out | refine pS ?_ GE381.out | refine pS ?_ GE384.out) | exact HB.out)⟩
          · rw [if_neg c104] at H
            have c104b0 : decide ((IntKind.u64.wrap (a3 + a4)) < a3) = false := decide_eq_false c104
            clear c104
            replace H := Option.bind_eq_some_iff.mp H
            obtain ⟨⟨t387, t388⟩, A1160, H⟩ := H
            replace H : ((twin_Add.f t382 t383 t387 t388).bind fun bt389 => (if bt389.2.2 = true then (some false) else ((twin_Mul.f a2 (IntKind.u64.wrap (a3 + a4))).bind fun bt393 => (some (bt389.1 == bt393.1 && (bt389.2.1 == bt393.2)))))) = some r := H
            have A116 := Aside0.mk A1160
            clear A1160
            replace H := Option.bind_eq_some_iff.mp H
            obtain ⟨⟨t389, t390, t391⟩, A1170, H⟩ := H
            replace H : (if t391 = true then (some false) else ((twin_Mul.f a2 (IntKind.u64.wrap (a3 + a4))).bind fun bt393 => (some (t389 == bt393.1 && (t390 == bt393.2))))) = some r := H
            have A117 := Aside0.mk A1170
            clear A1170
            by_cases c118 : t391 = true
            · subst c118
              have H1 : (some false) = some r := by rw [if_pos rfl] at H; exact H
              clear H
              have H := H1
              clear H1
              obtain rfl := Option.some.inj H
              try go_wp2_with (first | ((with_reducible refine gC (f := 23) rfl ?_); refine goesY_ (some 64) Try.func23 #[.int .u64 a2, .int .u64 a3] ?_; (with_reducible refine (twin_Mul.calls a2 a3 t382 t383 _ A90.out).mono ?_); rintro e w119 ⟨rfl, hb⟩; refine ⟨_, rfl, ?_⟩; have n0_ := Aside0.mk (bB3 BK367.out hb); have n1_ := Aside0.mk (bB3 BK368.out hb); have n2_ := Aside0.mk (bB3 BK373.out hb); have n3_ := Aside0.mk (bB3 BK377.out hb); have n4_ := Aside0.mk (bB3 BK381.out hb); have n5_ := Aside0.mk (bS3 HB.out hb); clear BK367; clear BK368; clear BK373; clear BK377; clear BK381; clear HB; have BK367 := n0_; have BK368 := n1_; have BK373 := n2_; have BK377 := n3_; have BK381 := n4_; have HB := n5_; clear n0_ n1_ n2_ n3_ n4_ n5_; (try clear hb); (try clear hb2); (try clear hk); (try clear hi)) | ((with_reducible refine gD (N := 18) rfl ?_); refine bE3 18 #[.int .u64 0, .int .u64 0] 25 ?hr ?_; (case hr => first | (go_simp; done) | (go_simp; rfl)); intro gb384 hg w120 hbox hb; have n0_ := Aside0.mk (bB3 BK367.out hb); have n1_ := Aside0.mk (bB3 BK368.out hb); have n2_ := Aside0.mk (bB3 BK373.out hb); have n3_ := Aside0.mk (bB3 BK377.out hb); have n4_ := Aside0.mk (bB3 BK381.out hb); have n5_ := Aside0.mk (bS3 HB.out hb); have n6_ := Aside0.mk (hbox); have n7_ := Aside0.mk ((bZ3 hg HB.out)); have n8_ := Aside0.mk ((bZ3 hg HB.out)); have n9_ := Aside0.mk ((bL3 hg BK367.out)); have n10_ := Aside0.mk ((bG3 hg BK367.out)); have n11_ := Aside0.mk ((bL3 hg BK368.out)); have n12_ := Aside0.mk ((bG3 hg BK368.out)); have n13_ := Aside0.mk ((bL3 hg BK373.out)); have n14_ := Aside0.mk ((bG3 hg BK373.out)); have n15_ := Aside0.mk ((bL3 hg BK377.out)); have n16_ := Aside0.mk ((bG3 hg BK377.out)); have n17_ := Aside0.mk ((bL3 hg BK381.out)); have n18_ := Aside0.mk ((bG3 hg BK381.out)); clear BK367; clear BK368; clear BK373; clear BK377; clear BK381; clear HB; have BK367 := n0_; have BK368 := n1_; have BK373 := n2_; have BK377 := n3_; have BK381 := n4_; have HB := n5_; have BK384 := n6_; have GW384 := n7_; have GE384 := n8_; have NB367_384 := n9_; have NB384_367 := n10_; have NB368_384 := n11_; have NB384_368 := n12_; have NB373_384 := n13_; have NB384_373 := n14_; have NB377_384 := n15_; have NB384_377 := n16_; have NB381_384 := n17_; have NB384_381 := n18_; clear n0_ n1_ n2_ n3_ n4_ n5_ n6_ n7_ n8_ n9_ n10_ n11_ n12_ n13_ n14_ n15_ n16_ n17_ n18_; clear hb hbox hg; have hnb121 := NB384_367.out; have hnc121 := NB367_384.out; have hnb122 := NB384_368.out; have hnc122 := NB368_384.out; have hnb123 := NB384_373.out; have hnc123 := NB373_384.out; have hnb124 := NB384_377.out; have hnc124 := NB377_384.out; have hnb125 := NB384_381.out; have hnc125 := NB381_384.out; have hcz126_0 : w120.cell? ⟨gb384, 0, none⟩ = some (.int .u64 0) := (blk_cell BK384.out 0).trans rfl; have hcz126_1 : w120.cell? ⟨gb384, 1, none⟩ = some (.int .u64 0) := (blk_cell BK384.out 1).trans rfl; have hfz126_0 := blk_frozen BK384.out 0; have hfz126_1 := blk_frozen BK384.out 1))
              have n0_ : Aside0 (((w120.setCell ⟨gb384, 0, none⟩ (.int .u64 t382)).setCell ⟨gb384, 1, none⟩ (.int .u64 t383)).heap[gb367]? = some (.cells #[.int .u64 a0_0, .int .u64 a0_1] 25 (0, 0))) := ⟨by (with_reducible repeat (first | refine bN ?_ _ | refine bD ?_ | refine bA ?_ _)); refine blk_far ?_ NB367_384.out _; (with_reducible repeat (first | refine bN ?_ _ | refine bD ?_ | refine bA ?_ _)); refine blk_far ?_ NB367_384.out _; (with_reducible repeat (first | refine bN ?_ _ | refine bD ?_ | refine bA ?_ _)); exact BK367.out⟩
              have n1_ : Aside0 (((w120.setCell ⟨gb384, 0, none⟩ (.int .u64 t382)).setCell ⟨gb384, 1, none⟩ (.int .u64 t383)).heap[gb368]? = some (.cells #[.int .u64 a1_0, .int .u64 a1_1] 25 (0, 0))) := ⟨by (with_reducible repeat (first | refine bN ?_ _ | refine bD ?_ | refine bA ?_ _)); refine blk_far ?_ NB368_384.out _; (with_reducible repeat (first | refine bN ?_ _ | refine bD ?_ | refine bA ?_ _)); refine blk_far ?_ NB368_384.out _; (with_reducible repeat (first | refine bN ?_ _ | refine bD ?_ | refine bA ?_ _)); exact BK368.out⟩
              have n2_ : Aside0 (((w120.setCell ⟨gb384, 0, none⟩ (.int .u64 t382)).setCell ⟨gb384, 1, none⟩ (.int .u64 t383)).heap[gb373]? = some (.cells #[.int .u64 t370, .int .u64 t371] 25 (0, 0))) := ⟨by (with_reducible repeat (first | refine bN ?_ _ | refine bD ?_ | refine bA ?_ _)); refine blk_far ?_ NB373_384.out _; (with_reducible repeat (first | refine bN ?_ _ | refine bD ?_ | refine bA ?_ _)); refine blk_far ?_ NB373_384.out _; (with_reducible repeat (first | refine bN ?_ _ | refine bD ?_ | refine bA ?_ _)); exact BK373.out⟩
              have n3_ : Aside0 (((w120.setCell ⟨gb384, 0, none⟩ (.int .u64 t382)).setCell ⟨gb384, 1, none⟩ (.int .u64 t383)).heap[gb377]? = some (.cells #[.int .u64 t374, .int .u64 t375] 25 (0, 0))) := ⟨by (with_reducible repeat (first | refine bN ?_ _ | refine bD ?_ | refine bA ?_ _)); refine blk_far ?_ NB377_384.out _; (with_reducible repeat (first | refine bN ?_ _ | refine bD ?_ | refine bA ?_ _)); refine blk_far ?_ NB377_384.out _; (with_reducible repeat (first | refine bN ?_ _ | refine bD ?_ | refine bA ?_ _)); exact BK377.out⟩
              have n4_ : Aside0 (((w120.setCell ⟨gb384, 0, none⟩ (.int .u64 t382)).setCell ⟨gb384, 1, none⟩ (.int .u64 t383)).heap[gb381]? = some (.cells #[.int .u64 t378, .int .u64 t379] 25 (0, 0))) := ⟨by (with_reducible repeat (first | refine bN ?_ _ | refine bD ?_ | refine bA ?_ _)); refine blk_far ?_ NB381_384.out _; (with_reducible repeat (first | refine bN ?_ _ | refine bD ?_ | refine bA ?_ _)); refine blk_far ?_ NB381_384.out _; (with_reducible repeat (first | refine bN ?_ _ | refine bD ?_ | refine bA ?_ _)); exact BK381.out⟩
              have n5_ : Aside0 (((w120.setCell ⟨gb384, 0, none⟩ (.int .u64 t382)).setCell ⟨gb384, 1, none⟩ (.int .u64 t383)).heap[gb384]? = some (.cells #[.int .u64 t382, .int .u64 t383] 25 (0, 0))) := ⟨by (with_reducible repeat (first | refine bN ?_ _ | refine bD ?_ | refine bA ?_ _)); refine blk_put (cs := #[.int .u64 t382, .int .u64 0]) ?_ 1 _ rfl; (with_reducible repeat (first | refine bN ?_ _ | refine bD ?_ | refine bA ?_ _)); refine blk_put (cs := #[.int .u64 0, .int .u64 0]) ?_ 0 _ rfl; (with_reducible repeat (first | refine bN ?_ _ | refine bD ?_ | refine bA ?_ _)); exact BK384.out⟩
              have n6_ : Aside0 (Below w.heap.size w ((w120.setCell ⟨gb384, 0, none⟩ (.int .u64 t382)).setCell ⟨gb384, 1, none⟩ (.int .u64 t383))) := ⟨by repeat (first | (with_reducible first | exact HB.out | apply pA | apply pN | apply p1 | refine pS ?_ GE367.out | refine pS ?_ GE368.out | refine pS ?_ GE373.out | refine pS ?_ GE377.out | refine pS ?_ GE381.out | refine pS ?_ GE384.out) | exact HB.out)⟩
              (try clear BK367)
              (try clear BK368)
              (try clear BK373)
              (try clear BK377)
              (try clear BK381)
              (try clear BK384)
              (try clear HB)
              generalize ((w120.setCell ⟨gb384, 0, none⟩ (.int .u64 t382)).setCell ⟨gb384, 1, none⟩ (.int .u64 t383)) = w127 at n0_ n1_ n2_ n3_ n4_ n5_ n6_ ⊢
              have BK367 := n0_
              have BK368 := n1_
              have BK373 := n2_
              have BK377 := n3_
              have BK381 := n4_
              have BK384 := n5_
              have HB := n6_
              clear n0_ n1_ n2_ n3_ n4_ n5_ n6_
              have n0_ := Aside0.mk (bD BK367.out)
              have n1_ := Aside0.mk (bD BK368.out)
              have n2_ := Aside0.mk (bD BK373.out)
              have n3_ := Aside0.mk (bD BK377.out)
              have n4_ := Aside0.mk (bD BK381.out)
              have n5_ := Aside0.mk (bD BK384.out)
              have n6_ := Aside0.mk (p1 HB.out)
              clear BK367
              clear BK368
              clear BK373
              clear BK377
              clear BK381
              clear BK384
              clear HB
              have BK367 := n0_
              have BK368 := n1_
              have BK373 := n2_
              have BK377 := n3_
              have BK381 := n4_
              have BK384 := n5_
              have HB := n6_
              clear n0_ n1_ n2_ n3_ n4_ n5_ n6_
              refine start_ (n := 5) (S := fun w' => w'.cell? ⟨gb384, 0, none⟩ = some (.int .u64 t382) ∧ w'.cell? ⟨gb384, 1, none⟩ = some (.int .u64 t383)) (ds := []) #[false, false, false, false, false] (by kernel_rfl) rfl rfl ⟨(blk_cell BK384.out 0).trans rfl, (blk_cell BK384.out 1).trans rfl⟩ (fun hHeld => ?_)
              generalize w127.drew = w128 at BK367 BK368 BK373 BK377 BK381 BK384 HB hHeld ⊢
              refine pure_ (i := 1) (N := some 66) (v := ?_) (a' := ?_) #[false, true, false, false, false] rfl rfl (by kernel_rfl) (fun _ _ _ h => h) (Or.inl ⟨by rfl, ?_⟩) ?_ ?_
              rotate_left
              · intro w'
                go_simp
                with_reducible rfl
              rotate_left
              · simp only [Act.put, List.setIfInBounds_toArray, List.set_cons_zero, List.set_cons_succ, i64_w, i32_w]
                rfl
              refine pure_ (i := 2) (N := some 67) (v := ?_) (a' := ?_) #[false, true, true, false, false] rfl rfl (by kernel_rfl) (fun _ _ _ h => h) (Or.inl ⟨by rfl, ?_⟩) ?_ ?_
              rotate_left
              · intro w'
                go_simp
                with_reducible rfl
              rotate_left
              · simp only [Act.put, List.setIfInBounds_toArray, List.set_cons_zero, List.set_cons_succ, i64_w, i32_w]
                rfl
              refine take_ (i := 0) (N := some 65) (v := ?_) (a' := ?_) #[true, true, true, false, false] rfl rfl (by kernel_rfl) (fun _ _ _ h => h) (Or.inl ⟨by rfl, ?_⟩) hHeld ?_ ?_
              rotate_left
              · rintro w' ⟨s0, s1⟩
                go_simp
                with_reducible rfl
              rotate_left
              · simp only [Act.put, List.setIfInBounds_toArray, List.set_cons_zero, List.set_cons_succ, i64_w, i32_w]
                rfl
              refine one_ (i := 3) (N := some 68) #[true, true, true, true, false] rfl rfl (by kernel_rfl) (by decide) (fun K hK => ?_)
              refine goes_ Try.func23 (by kernel_rfl) rfl #[.int .u64 a3, .int .u64 a2] (by rfl) rfl rfl (by (try simp only [List.map_toArray, List.map_cons, List.map_nil]); first | done | rfl | (simp only [List.length_drop, List.length_take]; rfl)) ?_
              with_reducible refine (twin_Mul.calls a3 a2 t385 t386 _ A91.out).mono ?_
              rintro e w129 ⟨rfl, hb⟩
              refine ⟨_, rfl, ?_⟩
              have n0_ := Aside0.mk (bB3 BK367.out hb)
              have n1_ := Aside0.mk (bB3 BK368.out hb)
              have n2_ := Aside0.mk (bB3 BK373.out hb)
              have n3_ := Aside0.mk (bB3 BK377.out hb)
              have n4_ := Aside0.mk (bB3 BK381.out hb)
              have n5_ := Aside0.mk (bB3 BK384.out hb)
              have n6_ := Aside0.mk (bS3 HB.out hb)
              clear BK367
              clear BK368
              clear BK373
              clear BK377
              clear BK381
              clear BK384
              clear HB
              have BK367 := n0_
              have BK368 := n1_
              have BK373 := n2_
              have BK377 := n3_
              have BK381 := n4_
              have BK384 := n5_
              have HB := n6_
              clear n0_ n1_ n2_ n3_ n4_ n5_ n6_
              (try clear hb)
              (try clear hb2)
              (try clear hk)
              (try clear hi)
              refine hK.out _ _ ⟨(blk_cell BK384.out 0).trans rfl, (blk_cell BK384.out 1).trans rfl⟩ (fun hHeld => ?_)
              clear hK K
              refine norm_ (a' := ?_) ?_ ?_
              rotate_left
              · show Act.put _ (some 68) _ = _
                simp only [Act.put, List.setIfInBounds_toArray, List.set_cons_zero, List.set_cons_succ, i64_w, i32_w]
                rfl
              refine pure_ (i := 4) (N := some 69) (v := ?_) (a' := ?_) #[true, true, true, true, true] rfl rfl (by kernel_rfl) (fun _ _ _ h => h) (Or.inl ⟨by rfl, ?_⟩) ?_ ?_
              rotate_left
              · intro w'
                go_simp
                with_reducible rfl
              rotate_left
              · simp only [Act.put, List.setIfInBounds_toArray, List.set_cons_zero, List.set_cons_succ, i64_w, i32_w]
                rfl
              refine done_ (by kernel_rfl) ?_
              try go_wp2
              have n0_ := Aside0.mk (bD BK367.out)
              have n1_ := Aside0.mk (bD BK368.out)
              have n2_ := Aside0.mk (bD BK373.out)
              have n3_ := Aside0.mk (bD BK377.out)
              have n4_ := Aside0.mk (bD BK381.out)
              have n5_ := Aside0.mk (bD BK384.out)
              have n6_ := Aside0.mk (p1 HB.out)
              clear BK367
              clear BK368
              clear BK373
              clear BK377
              clear BK381
              clear BK384
              clear HB
              have BK367 := n0_
              have BK368 := n1_
              have BK373 := n2_
              have BK377 := n3_
              have BK381 := n4_
              have BK384 := n5_
              have HB := n6_
              clear n0_ n1_ n2_ n3_ n4_ n5_ n6_
              refine start_ (n := 11) (S := fun w' => w'.cell? ⟨gb384, 0, none⟩ = some (.int .u64 t382) ∧ w'.cell? ⟨gb384, 1, none⟩ = some (.int .u64 t383)) (ds := []) #[false, false, false, false, false, false, false, false, false, false, false] (by kernel_rfl) rfl rfl ⟨(blk_cell BK384.out 0).trans rfl, (blk_cell BK384.out 1).trans rfl⟩ (fun hHeld => ?_); refine with_tabW vernierlaw02_TwinRing.tab12 vernierlaw02_TwinRing.bits12 (fun HT_ HW_ => ?_)
              generalize w129.drew = w130 at BK367 BK368 BK373 BK377 BK381 BK384 HB hHeld ⊢
              refine pure_ (i := 1) (N := some 77) (v := ?_) (a' := ?_) #[false, true, false, false, false, false, false, false, false, false, false] rfl rfl (any_of HT_.out (by kernel_rfl)) (fun _ _ _ h => h) (Or.inl ⟨by rfl, ?_⟩) ?_ ?_
              rotate_left
              · intro w'
                go_simp
                with_reducible rfl
              rotate_left
              · simp only [Act.put, List.setIfInBounds_toArray, List.set_cons_zero, List.set_cons_succ, i64_w, i32_w]
                rfl
              refine pure_ (i := 2) (N := some 78) (v := ?_) (a' := ?_) #[false, true, true, false, false, false, false, false, false, false, false] rfl rfl (any_of HT_.out (by kernel_rfl)) (fun _ _ _ h => h) (Or.inl ⟨by rfl, ?_⟩) ?_ ?_
              rotate_left
              · intro w'
                go_simp
                with_reducible rfl
              rotate_left
              · simp only [Act.put, List.setIfInBounds_toArray, List.set_cons_zero, List.set_cons_succ, i64_w, i32_w]
                rfl
              refine take_ (i := 0) (N := some 76) (v := ?_) (a' := ?_) #[true, true, true, false, false, false, false, false, false, false, false] rfl rfl (take_ofW HT_.out HW_.out (by kernel_rfl)) (fun _ _ _ h => h) (Or.inl ⟨by rfl, ?_⟩) hHeld ?_ ?_
              rotate_left
              · rintro w' ⟨s0, s1⟩
                go_simp
                with_reducible rfl
              rotate_left
              · simp only [Act.put, List.setIfInBounds_toArray, List.set_cons_zero, List.set_cons_succ, i64_w, i32_w]
                rfl
              refine join_ (σ := Nat) 2 #[true, true, true, true, true, true, true, true, true, false, false] (fun s_ => [(79, .agg #[.int .u64 t387, .int .u64 t388]), (80, .tuple #[.agg #[.int .u64 t389, .int .u64 t390], .bool true]), (19, .pointer (some ⟨s_, 0, none⟩)), (75, .tuple #[.agg #[.int .u64 t389, .int .u64 t390], .bool true]), (81, .agg #[.int .u64 t389, .int .u64 t390]), (82, .bool true)]) (fun s_ w' => (w'.cell? ⟨gb384, 0, none⟩ = some (.int .u64 t382) ∧ w'.cell? ⟨gb384, 1, none⟩ = some (.int .u64 t383)) ∧ (w'.heap[gb367]? = some (.cells #[.int .u64 a0_0, .int .u64 a0_1] 25 (0, 0))) ∧ (w'.heap[gb368]? = some (.cells #[.int .u64 a1_0, .int .u64 a1_1] 25 (0, 0))) ∧ (w'.heap[gb373]? = some (.cells #[.int .u64 t370, .int .u64 t371] 25 (0, 0))) ∧ (w'.heap[gb377]? = some (.cells #[.int .u64 t374, .int .u64 t375] 25 (0, 0))) ∧ (w'.heap[gb381]? = some (.cells #[.int .u64 t378, .int .u64 t379] 25 (0, 0))) ∧ (w'.heap[gb384]? = some (.cells #[.int .u64 t382, .int .u64 t383] 25 (0, 0))) ∧ (w'.heap[s_]? = some (.cells #[.int .u64 0, .int .u64 0] 25 (0, 0))) ∧ (w.heap.size ≤ s_) ∧ (w.heap.size ≤ s_) ∧ (gb367 ≠ s_) ∧ (s_ ≠ gb367) ∧ (gb368 ≠ s_) ∧ (s_ ≠ gb368) ∧ (gb373 ≠ s_) ∧ (s_ ≠ gb373) ∧ (gb377 ≠ s_) ∧ (s_ ≠ gb377) ∧ (gb381 ≠ s_) ∧ (s_ ≠ gb381) ∧ (gb384 ≠ s_) ∧ (s_ ≠ gb384) ∧ (Below w.heap.size w w')) ?_ ?_
              rotate_left
              · intro hCont
                refine two_ (i := 3) (j := 8) (Ni := some 79) (Nj := some 19) #[true, true, true, true, false, false, false, false, false, false, false] #[true, true, true, false, false, false, false, false, true, false, false] rfl rfl rfl rfl (two_of HT_.out (by kernel_rfl)) (by decide) (by decide) (fun K hK => ?_) (fun K hK => ?_)
                · skip
                  refine goes_ Try.func23 (by kernel_rfl) rfl #[.int .u64 a2, .int .u64 a4] (by rfl) rfl rfl (by (try simp only [List.map_toArray, List.map_cons, List.map_nil]); first | done | rfl | (simp only [List.length_drop, List.length_take]; rfl)) ?_
                  with_reducible refine (twin_Mul.calls a2 a4 t387 t388 _ A116.out).mono ?_
                  rintro e w131 ⟨rfl, hb⟩
                  refine ⟨_, rfl, ?_⟩
                  have n0_ := Aside0.mk (bB3 BK367.out hb)
                  have n1_ := Aside0.mk (bB3 BK368.out hb)
                  have n2_ := Aside0.mk (bB3 BK373.out hb)
                  have n3_ := Aside0.mk (bB3 BK377.out hb)
                  have n4_ := Aside0.mk (bB3 BK381.out hb)
                  have n5_ := Aside0.mk (bB3 BK384.out hb)
                  have n6_ := Aside0.mk (bS3 HB.out hb)
                  clear BK367
                  clear BK368
                  clear BK373
                  clear BK377
                  clear BK381
                  clear BK384
                  clear HB
                  have BK367 := n0_
                  have BK368 := n1_
                  have BK373 := n2_
                  have BK377 := n3_
                  have BK381 := n4_
                  have BK384 := n5_
                  have HB := n6_
                  clear n0_ n1_ n2_ n3_ n4_ n5_ n6_
                  (try clear hb)
                  (try clear hb2)
                  (try clear hk)
                  (try clear hi)
                  refine hK.out _ _ ⟨(blk_cell BK384.out 0).trans rfl, (blk_cell BK384.out 1).trans rfl⟩ (fun hHeld => ?_)
                  clear hK K
                  refine norm_ (a' := ?_) ?_ ?_
                  rotate_left
                  · show Act.put _ (some 79) _ = _
                    simp only [Act.put, List.setIfInBounds_toArray, List.set_cons_zero, List.set_cons_succ, i64_w, i32_w]
                    rfl
                  refine two_ (i := 4) (j := 8) (Ni := some 80) (Nj := some 19) #[true, true, true, true, true, false, false, false, false, false, false] #[true, true, true, true, false, false, false, false, true, false, false] rfl rfl rfl rfl (two_of HT_.out (by kernel_rfl)) (by decide) (by decide) (fun K hK => ?_) (fun K hK => ?_)
                  · skip
                    refine goes_ Try.func35 (by kernel_rfl) rfl #[.agg #[.int .u64 t382, .int .u64 t383], .agg #[.int .u64 t387, .int .u64 t388]] (by rfl) rfl rfl (by (try simp only [List.map_toArray, List.map_cons, List.map_nil]); first | done | rfl | (simp only [List.length_drop, List.length_take]; rfl)) ?_
                    with_reducible refine (twin_Add.calls t382 t383 t387 t388 t389 t390 true _ A117.out).mono ?_
                    rintro e w132 ⟨rfl, hb⟩
                    refine ⟨_, rfl, ?_⟩
                    have n0_ := Aside0.mk (bB3 BK367.out hb)
                    have n1_ := Aside0.mk (bB3 BK368.out hb)
                    have n2_ := Aside0.mk (bB3 BK373.out hb)
                    have n3_ := Aside0.mk (bB3 BK377.out hb)
                    have n4_ := Aside0.mk (bB3 BK381.out hb)
                    have n5_ := Aside0.mk (bB3 BK384.out hb)
                    have n6_ := Aside0.mk (bS3 HB.out hb)
                    clear BK367
                    clear BK368
                    clear BK373
                    clear BK377
                    clear BK381
                    clear BK384
                    clear HB
                    have BK367 := n0_
                    have BK368 := n1_
                    have BK373 := n2_
                    have BK377 := n3_
                    have BK381 := n4_
                    have BK384 := n5_
                    have HB := n6_
                    clear n0_ n1_ n2_ n3_ n4_ n5_ n6_
                    (try clear hb)
                    (try clear hb2)
                    (try clear hk)
                    (try clear hi)
                    refine hK.out _ _ ⟨(blk_cell BK384.out 0).trans rfl, (blk_cell BK384.out 1).trans rfl⟩ (fun hHeld => ?_)
                    clear hK K
                    refine norm_ (a' := ?_) ?_ ?_
                    rotate_left
                    · show Act.put _ (some 80) _ = _
                      simp only [Act.put, List.setIfInBounds_toArray, List.set_cons_zero, List.set_cons_succ, i64_w, i32_w]
                      rfl
                    refine pure_ (i := 5) (N := some 75) (v := ?_) (a' := ?_) #[true, true, true, true, true, true, false, false, false, false, false] rfl rfl (any_of HT_.out (by kernel_rfl)) (fun _ _ _ h => h) (Or.inl ⟨by rfl, ?_⟩) ?_ ?_
                    rotate_left
                    · intro w'
                      go_simp
                      with_reducible rfl
                    rotate_left
                    · simp only [Act.put, List.setIfInBounds_toArray, List.set_cons_zero, List.set_cons_succ, i64_w, i32_w]
                      rfl
                    refine pure_ (i := 6) (N := some 81) (v := ?_) (a' := ?_) #[true, true, true, true, true, true, true, false, false, false, false] rfl rfl (any_of HT_.out (by kernel_rfl)) (fun _ _ _ h => h) (Or.inl ⟨by rfl, ?_⟩) ?_ ?_
                    rotate_left
                    · intro w'
                      go_simp
                      with_reducible rfl
                    rotate_left
                    · simp only [Act.put, List.setIfInBounds_toArray, List.set_cons_zero, List.set_cons_succ, i64_w, i32_w]
                      rfl
                    refine pure_ (i := 7) (N := some 82) (v := ?_) (a' := ?_) #[true, true, true, true, true, true, true, true, false, false, false] rfl rfl (any_of HT_.out (by kernel_rfl)) (fun _ _ _ h => h) (Or.inl ⟨by rfl, ?_⟩) ?_ ?_
                    rotate_left
                    · intro w'
                      go_simp
                      with_reducible rfl
                    rotate_left
                    · simp only [Act.put, List.setIfInBounds_toArray, List.set_cons_zero, List.set_cons_succ, i64_w, i32_w]
                      rfl
                    refine one_ (i := 8) (N := some 19) #[true, true, true, true, true, true, true, true, true, false, false] rfl rfl (one_of HT_.out (by kernel_rfl)) (by decide) (fun K hK => ?_)
                    refine box_step ?hg (N := 19) ?hd (cs := #[.int .u64 0, .int .u64 0]) (t := 25) ?hr ?_; (case hd => rfl); (case hg => rfl); (case hr => first | (go_simp; done) | (go_simp; rfl))
                    intro gb392 hg w133 hbox hb
                    have n0_ := Aside0.mk (bB3 BK367.out hb)
                    have n1_ := Aside0.mk (bB3 BK368.out hb)
                    have n2_ := Aside0.mk (bB3 BK373.out hb)
                    have n3_ := Aside0.mk (bB3 BK377.out hb)
                    have n4_ := Aside0.mk (bB3 BK381.out hb)
                    have n5_ := Aside0.mk (bB3 BK384.out hb)
                    have n6_ := Aside0.mk (bS3 HB.out hb)
                    have n7_ := Aside0.mk (hbox)
                    have n8_ := Aside0.mk ((bZ3 hg HB.out))
                    have n9_ := Aside0.mk ((bZ3 hg HB.out))
                    have n10_ := Aside0.mk ((bL3 hg BK367.out))
                    have n11_ := Aside0.mk ((bG3 hg BK367.out))
                    have n12_ := Aside0.mk ((bL3 hg BK368.out))
                    have n13_ := Aside0.mk ((bG3 hg BK368.out))
                    have n14_ := Aside0.mk ((bL3 hg BK373.out))
                    have n15_ := Aside0.mk ((bG3 hg BK373.out))
                    have n16_ := Aside0.mk ((bL3 hg BK377.out))
                    have n17_ := Aside0.mk ((bG3 hg BK377.out))
                    have n18_ := Aside0.mk ((bL3 hg BK381.out))
                    have n19_ := Aside0.mk ((bG3 hg BK381.out))
                    have n20_ := Aside0.mk ((bL3 hg BK384.out))
                    have n21_ := Aside0.mk ((bG3 hg BK384.out))
                    clear BK367
                    clear BK368
                    clear BK373
                    clear BK377
                    clear BK381
                    clear BK384
                    clear HB
                    have BK367 := n0_
                    have BK368 := n1_
                    have BK373 := n2_
                    have BK377 := n3_
                    have BK381 := n4_
                    have BK384 := n5_
                    have HB := n6_
                    have BK392 := n7_
                    have GW392 := n8_
                    have GE392 := n9_
                    have NB367_392 := n10_
                    have NB392_367 := n11_
                    have NB368_392 := n12_
                    have NB392_368 := n13_
                    have NB373_392 := n14_
                    have NB392_373 := n15_
                    have NB377_392 := n16_
                    have NB392_377 := n17_
                    have NB381_392 := n18_
                    have NB392_381 := n19_
                    have NB384_392 := n20_
                    have NB392_384 := n21_
                    clear n0_ n1_ n2_ n3_ n4_ n5_ n6_ n7_ n8_ n9_ n10_ n11_ n12_ n13_ n14_ n15_ n16_ n17_ n18_ n19_ n20_ n21_
                    clear hb hbox hg
                    refine hK.out _ _ ⟨(blk_cell BK384.out 0).trans rfl, (blk_cell BK384.out 1).trans rfl⟩ (fun hHeld => ?_)
                    clear hK K
                    refine norm_ (a' := ?_) ?_ ?_
                    rotate_left
                    · show Act.put _ (some 19) _ = _
                      simp only [Act.put, List.setIfInBounds_toArray, List.set_cons_zero, List.set_cons_succ, i64_w, i32_w]
                      rfl
                    exact norm_ (by simp only [putAll, Act.put, List.setIfInBounds_toArray, List.set_cons_zero, List.set_cons_succ]) (hCont (gb392) _ ⟨hHeld, (by (with_reducible repeat (first | refine bN ?_ _ | refine bD ?_ | refine bA ?_ _)); exact BK367.out), (by (with_reducible repeat (first | refine bN ?_ _ | refine bD ?_ | refine bA ?_ _)); exact BK368.out), (by (with_reducible repeat (first | refine bN ?_ _ | refine bD ?_ | refine bA ?_ _)); exact BK373.out), (by (with_reducible repeat (first | refine bN ?_ _ | refine bD ?_ | refine bA ?_ _)); exact BK377.out), (by (with_reducible repeat (first | refine bN ?_ _ | refine bD ?_ | refine bA ?_ _)); exact BK381.out), (by (with_reducible repeat (first | refine bN ?_ _ | refine bD ?_ | refine bA ?_ _)); exact BK384.out), (by (with_reducible repeat (first | refine bN ?_ _ | refine bD ?_ | refine bA ?_ _)); exact BK392.out), GW392.out, GE392.out, NB367_392.out, NB392_367.out, NB368_392.out, NB392_368.out, NB373_392.out, NB392_373.out, NB377_392.out, NB392_377.out, NB381_392.out, NB392_381.out, NB384_392.out, NB392_384.out, (by repeat (first | (with_reducible first | exact HB.out | apply pA | apply pN | apply p1 | refine pS ?_ GE367.out | refine pS ?_ GE368.out | refine pS ?_ GE373.out | refine pS ?_ GE377.out | refine pS ?_ GE381.out | refine pS ?_ GE384.out | refine pS ?_ GE392.out) | exact HB.out))⟩)
                  · skip
                    refine box_step ?hg (N := 19) ?hd (cs := #[.int .u64 0, .int .u64 0]) (t := 25) ?hr ?_; (case hd => rfl); (case hg => rfl); (case hr => first | (go_simp; done) | (go_simp; rfl))
                    intro gb392 hg w132 hbox hb
                    have n0_ := Aside0.mk (bB3 BK367.out hb)
                    have n1_ := Aside0.mk (bB3 BK368.out hb)
                    have n2_ := Aside0.mk (bB3 BK373.out hb)
                    have n3_ := Aside0.mk (bB3 BK377.out hb)
                    have n4_ := Aside0.mk (bB3 BK381.out hb)
                    have n5_ := Aside0.mk (bB3 BK384.out hb)
                    have n6_ := Aside0.mk (bS3 HB.out hb)
                    have n7_ := Aside0.mk (hbox)
                    have n8_ := Aside0.mk ((bZ3 hg HB.out))
                    have n9_ := Aside0.mk ((bZ3 hg HB.out))
                    have n10_ := Aside0.mk ((bL3 hg BK367.out))
                    have n11_ := Aside0.mk ((bG3 hg BK367.out))
                    have n12_ := Aside0.mk ((bL3 hg BK368.out))
                    have n13_ := Aside0.mk ((bG3 hg BK368.out))
                    have n14_ := Aside0.mk ((bL3 hg BK373.out))
                    have n15_ := Aside0.mk ((bG3 hg BK373.out))
                    have n16_ := Aside0.mk ((bL3 hg BK377.out))
                    have n17_ := Aside0.mk ((bG3 hg BK377.out))
                    have n18_ := Aside0.mk ((bL3 hg BK381.out))
                    have n19_ := Aside0.mk ((bG3 hg BK381.out))
                    have n20_ := Aside0.mk ((bL3 hg BK384.out))
                    have n21_ := Aside0.mk ((bG3 hg BK384.out))
                    clear BK367
                    clear BK368
                    clear BK373
                    clear BK377
                    clear BK381
                    clear BK384
                    clear HB
                    have BK367 := n0_
                    have BK368 := n1_
                    have BK373 := n2_
                    have BK377 := n3_
                    have BK381 := n4_
                    have BK384 := n5_
                    have HB := n6_
                    have BK392 := n7_
                    have GW392 := n8_
                    have GE392 := n9_
                    have NB367_392 := n10_
                    have NB392_367 := n11_
                    have NB368_392 := n12_
                    have NB392_368 := n13_
                    have NB373_392 := n14_
                    have NB392_373 := n15_
                    have NB377_392 := n16_
                    have NB392_377 := n17_
                    have NB381_392 := n18_
                    have NB392_381 := n19_
                    have NB384_392 := n20_
                    have NB392_384 := n21_
                    clear n0_ n1_ n2_ n3_ n4_ n5_ n6_ n7_ n8_ n9_ n10_ n11_ n12_ n13_ n14_ n15_ n16_ n17_ n18_ n19_ n20_ n21_
                    clear hb hbox hg
                    refine hK.out _ _ ⟨(blk_cell BK384.out 0).trans rfl, (blk_cell BK384.out 1).trans rfl⟩ (fun hHeld => ?_)
                    clear hK K
                    refine norm_ (a' := ?_) ?_ ?_
                    rotate_left
                    · show Act.put _ (some 19) _ = _
                      simp only [Act.put, List.setIfInBounds_toArray, List.set_cons_zero, List.set_cons_succ, i64_w, i32_w]
                      rfl
                    refine one_ (i := 4) (N := some 80) #[true, true, true, true, true, false, false, false, true, false, false] rfl rfl (one_of HT_.out (by kernel_rfl)) (by decide) (fun K hK => ?_)
                    refine goes_ Try.func35 (by kernel_rfl) rfl #[.agg #[.int .u64 t382, .int .u64 t383], .agg #[.int .u64 t387, .int .u64 t388]] (by rfl) rfl rfl (by (try simp only [List.map_toArray, List.map_cons, List.map_nil]); first | done | rfl | (simp only [List.length_drop, List.length_take]; rfl)) ?_
                    with_reducible refine (twin_Add.calls t382 t383 t387 t388 t389 t390 true _ A117.out).mono ?_
                    rintro e w133 ⟨rfl, hb⟩
                    refine ⟨_, rfl, ?_⟩
                    have n0_ := Aside0.mk (bB3 BK367.out hb)
                    have n1_ := Aside0.mk (bB3 BK368.out hb)
                    have n2_ := Aside0.mk (bB3 BK373.out hb)
                    have n3_ := Aside0.mk (bB3 BK377.out hb)
                    have n4_ := Aside0.mk (bB3 BK381.out hb)
                    have n5_ := Aside0.mk (bB3 BK384.out hb)
                    have n6_ := Aside0.mk (bB3 BK392.out hb)
                    have n7_ := Aside0.mk (bS3 HB.out hb)
                    clear BK367
                    clear BK368
                    clear BK373
                    clear BK377
                    clear BK381
                    clear BK384
                    clear BK392
                    clear HB
                    have BK367 := n0_
                    have BK368 := n1_
                    have BK373 := n2_
                    have BK377 := n3_
                    have BK381 := n4_
                    have BK384 := n5_
                    have BK392 := n6_
                    have HB := n7_
                    clear n0_ n1_ n2_ n3_ n4_ n5_ n6_ n7_
                    (try clear hb)
                    (try clear hb2)
                    (try clear hk)
                    (try clear hi)
                    refine hK.out _ _ ⟨(blk_cell BK384.out 0).trans rfl, (blk_cell BK384.out 1).trans rfl⟩ (fun hHeld => ?_)
                    clear hK K
                    refine norm_ (a' := ?_) ?_ ?_
                    rotate_left
                    · show Act.put _ (some 80) _ = _
                      simp only [Act.put, List.setIfInBounds_toArray, List.set_cons_zero, List.set_cons_succ, i64_w, i32_w]
                      rfl
                    refine pure_ (i := 5) (N := some 75) (v := ?_) (a' := ?_) #[true, true, true, true, true, true, false, false, true, false, false] rfl rfl (any_of HT_.out (by kernel_rfl)) (fun _ _ _ h => h) (Or.inl ⟨by rfl, ?_⟩) ?_ ?_
                    rotate_left
                    · intro w'
                      go_simp
                      with_reducible rfl
                    rotate_left
                    · simp only [Act.put, List.setIfInBounds_toArray, List.set_cons_zero, List.set_cons_succ, i64_w, i32_w]
                      rfl
                    refine pure_ (i := 6) (N := some 81) (v := ?_) (a' := ?_) #[true, true, true, true, true, true, true, false, true, false, false] rfl rfl (any_of HT_.out (by kernel_rfl)) (fun _ _ _ h => h) (Or.inl ⟨by rfl, ?_⟩) ?_ ?_
                    rotate_left
                    · intro w'
                      go_simp
                      with_reducible rfl
                    rotate_left
                    · simp only [Act.put, List.setIfInBounds_toArray, List.set_cons_zero, List.set_cons_succ, i64_w, i32_w]
                      rfl
                    refine pure_ (i := 7) (N := some 82) (v := ?_) (a' := ?_) #[true, true, true, true, true, true, true, true, true, false, false] rfl rfl (any_of HT_.out (by kernel_rfl)) (fun _ _ _ h => h) (Or.inl ⟨by rfl, ?_⟩) ?_ ?_
                    rotate_left
                    · intro w'
                      go_simp
                      with_reducible rfl
                    rotate_left
                    · simp only [Act.put, List.setIfInBounds_toArray, List.set_cons_zero, List.set_cons_succ, i64_w, i32_w]
                      rfl
                    exact norm_ (by simp only [putAll, Act.put, List.setIfInBounds_toArray, List.set_cons_zero, List.set_cons_succ]) (hCont (gb392) _ ⟨hHeld, (by (with_reducible repeat (first | refine bN ?_ _ | refine bD ?_ | refine bA ?_ _)); exact BK367.out), (by (with_reducible repeat (first | refine bN ?_ _ | refine bD ?_ | refine bA ?_ _)); exact BK368.out), (by (with_reducible repeat (first | refine bN ?_ _ | refine bD ?_ | refine bA ?_ _)); exact BK373.out), (by (with_reducible repeat (first | refine bN ?_ _ | refine bD ?_ | refine bA ?_ _)); exact BK377.out), (by (with_reducible repeat (first | refine bN ?_ _ | refine bD ?_ | refine bA ?_ _)); exact BK381.out), (by (with_reducible repeat (first | refine bN ?_ _ | refine bD ?_ | refine bA ?_ _)); exact BK384.out), (by (with_reducible repeat (first | refine bN ?_ _ | refine bD ?_ | refine bA ?_ _)); exact BK392.out), GW392.out, GE392.out, NB367_392.out, NB392_367.out, NB368_392.out, NB392_368.out, NB373_392.out, NB392_373.out, NB377_392.out, NB392_377.out, NB381_392.out, NB392_381.out, NB384_392.out, NB392_384.out, (by repeat (first | (with_reducible first | exact HB.out | apply pA | apply pN | apply p1 | refine pS ?_ GE367.out | refine pS ?_ GE368.out | refine pS ?_ GE373.out | refine pS ?_ GE377.out | refine pS ?_ GE381.out | refine pS ?_ GE384.out | refine pS ?_ GE392.out) | exact HB.out))⟩)
                · skip
                  refine box_step ?hg (N := 19) ?hd (cs := #[.int .u64 0, .int .u64 0]) (t := 25) ?hr ?_; (case hd => rfl); (case hg => rfl); (case hr => first | (go_simp; done) | (go_simp; rfl))
                  intro gb392 hg w131 hbox hb
                  have n0_ := Aside0.mk (bB3 BK367.out hb)
                  have n1_ := Aside0.mk (bB3 BK368.out hb)
                  have n2_ := Aside0.mk (bB3 BK373.out hb)
                  have n3_ := Aside0.mk (bB3 BK377.out hb)
                  have n4_ := Aside0.mk (bB3 BK381.out hb)
                  have n5_ := Aside0.mk (bB3 BK384.out hb)
                  have n6_ := Aside0.mk (bS3 HB.out hb)
                  have n7_ := Aside0.mk (hbox)
                  have n8_ := Aside0.mk ((bZ3 hg HB.out))
                  have n9_ := Aside0.mk ((bZ3 hg HB.out))
                  have n10_ := Aside0.mk ((bL3 hg BK367.out))
                  have n11_ := Aside0.mk ((bG3 hg BK367.out))
                  have n12_ := Aside0.mk ((bL3 hg BK368.out))
                  have n13_ := Aside0.mk ((bG3 hg BK368.out))
                  have n14_ := Aside0.mk ((bL3 hg BK373.out))
                  have n15_ := Aside0.mk ((bG3 hg BK373.out))
                  have n16_ := Aside0.mk ((bL3 hg BK377.out))
                  have n17_ := Aside0.mk ((bG3 hg BK377.out))
                  have n18_ := Aside0.mk ((bL3 hg BK381.out))
                  have n19_ := Aside0.mk ((bG3 hg BK381.out))
                  have n20_ := Aside0.mk ((bL3 hg BK384.out))
                  have n21_ := Aside0.mk ((bG3 hg BK384.out))
                  clear BK367
                  clear BK368
                  clear BK373
                  clear BK377
                  clear BK381
                  clear BK384
                  clear HB
                  have BK367 := n0_
                  have BK368 := n1_
                  have BK373 := n2_
                  have BK377 := n3_
                  have BK381 := n4_
                  have BK384 := n5_
                  have HB := n6_
                  have BK392 := n7_
                  have GW392 := n8_
                  have GE392 := n9_
                  have NB367_392 := n10_
                  have NB392_367 := n11_
                  have NB368_392 := n12_
                  have NB392_368 := n13_
                  have NB373_392 := n14_
                  have NB392_373 := n15_
                  have NB377_392 := n16_
                  have NB392_377 := n17_
                  have NB381_392 := n18_
                  have NB392_381 := n19_
                  have NB384_392 := n20_
                  have NB392_384 := n21_
                  clear n0_ n1_ n2_ n3_ n4_ n5_ n6_ n7_ n8_ n9_ n10_ n11_ n12_ n13_ n14_ n15_ n16_ n17_ n18_ n19_ n20_ n21_
                  clear hb hbox hg
                  refine hK.out _ _ ⟨(blk_cell BK384.out 0).trans rfl, (blk_cell BK384.out 1).trans rfl⟩ (fun hHeld => ?_)
                  clear hK K
                  refine norm_ (a' := ?_) ?_ ?_
                  rotate_left
                  · show Act.put _ (some 19) _ = _
                    simp only [Act.put, List.setIfInBounds_toArray, List.set_cons_zero, List.set_cons_succ, i64_w, i32_w]
                    rfl
                  refine one_ (i := 3) (N := some 79) #[true, true, true, true, false, false, false, false, true, false, false] rfl rfl (one_of HT_.out (by kernel_rfl)) (by decide) (fun K hK => ?_)
                  refine goes_ Try.func23 (by kernel_rfl) rfl #[.int .u64 a2, .int .u64 a4] (by rfl) rfl rfl (by (try simp only [List.map_toArray, List.map_cons, List.map_nil]); first | done | rfl | (simp only [List.length_drop, List.length_take]; rfl)) ?_
                  with_reducible refine (twin_Mul.calls a2 a4 t387 t388 _ A116.out).mono ?_
                  rintro e w132 ⟨rfl, hb⟩
                  refine ⟨_, rfl, ?_⟩
                  have n0_ := Aside0.mk (bB3 BK367.out hb)
                  have n1_ := Aside0.mk (bB3 BK368.out hb)
                  have n2_ := Aside0.mk (bB3 BK373.out hb)
                  have n3_ := Aside0.mk (bB3 BK377.out hb)
                  have n4_ := Aside0.mk (bB3 BK381.out hb)
                  have n5_ := Aside0.mk (bB3 BK384.out hb)
                  have n6_ := Aside0.mk (bB3 BK392.out hb)
                  have n7_ := Aside0.mk (bS3 HB.out hb)
                  clear BK367
                  clear BK368
                  clear BK373
                  clear BK377
                  clear BK381
                  clear BK384
                  clear BK392
                  clear HB
                  have BK367 := n0_
                  have BK368 := n1_
                  have BK373 := n2_
                  have BK377 := n3_
                  have BK381 := n4_
                  have BK384 := n5_
                  have BK392 := n6_
                  have HB := n7_
                  clear n0_ n1_ n2_ n3_ n4_ n5_ n6_ n7_
                  (try clear hb)
                  (try clear hb2)
                  (try clear hk)
                  (try clear hi)
                  refine hK.out _ _ ⟨(blk_cell BK384.out 0).trans rfl, (blk_cell BK384.out 1).trans rfl⟩ (fun hHeld => ?_)
                  clear hK K
                  refine norm_ (a' := ?_) ?_ ?_
                  rotate_left
                  · show Act.put _ (some 79) _ = _
                    simp only [Act.put, List.setIfInBounds_toArray, List.set_cons_zero, List.set_cons_succ, i64_w, i32_w]
                    rfl
                  refine one_ (i := 4) (N := some 80) #[true, true, true, true, true, false, false, false, true, false, false] rfl rfl (one_of HT_.out (by kernel_rfl)) (by decide) (fun K hK => ?_)
                  refine goes_ Try.func35 (by kernel_rfl) rfl #[.agg #[.int .u64 t382, .int .u64 t383], .agg #[.int .u64 t387, .int .u64 t388]] (by rfl) rfl rfl (by (try simp only [List.map_toArray, List.map_cons, List.map_nil]); first | done | rfl | (simp only [List.length_drop, List.length_take]; rfl)) ?_
                  with_reducible refine (twin_Add.calls t382 t383 t387 t388 t389 t390 true _ A117.out).mono ?_
                  rintro e w133 ⟨rfl, hb⟩
                  refine ⟨_, rfl, ?_⟩
                  have n0_ := Aside0.mk (bB3 BK367.out hb)
                  have n1_ := Aside0.mk (bB3 BK368.out hb)
                  have n2_ := Aside0.mk (bB3 BK373.out hb)
                  have n3_ := Aside0.mk (bB3 BK377.out hb)
                  have n4_ := Aside0.mk (bB3 BK381.out hb)
                  have n5_ := Aside0.mk (bB3 BK384.out hb)
                  have n6_ := Aside0.mk (bB3 BK392.out hb)
                  have n7_ := Aside0.mk (bS3 HB.out hb)
                  clear BK367
                  clear BK368
                  clear BK373
                  clear BK377
                  clear BK381
                  clear BK384
                  clear BK392
                  clear HB
                  have BK367 := n0_
                  have BK368 := n1_
                  have BK373 := n2_
                  have BK377 := n3_
                  have BK381 := n4_
                  have BK384 := n5_
                  have BK392 := n6_
                  have HB := n7_
                  clear n0_ n1_ n2_ n3_ n4_ n5_ n6_ n7_
                  (try clear hb)
                  (try clear hb2)
                  (try clear hk)
                  (try clear hi)
                  refine hK.out _ _ ⟨(blk_cell BK384.out 0).trans rfl, (blk_cell BK384.out 1).trans rfl⟩ (fun hHeld => ?_)
                  clear hK K
                  refine norm_ (a' := ?_) ?_ ?_
                  rotate_left
                  · show Act.put _ (some 80) _ = _
                    simp only [Act.put, List.setIfInBounds_toArray, List.set_cons_zero, List.set_cons_succ, i64_w, i32_w]
                    rfl
                  refine pure_ (i := 5) (N := some 75) (v := ?_) (a' := ?_) #[true, true, true, true, true, true, false, false, true, false, false] rfl rfl (any_of HT_.out (by kernel_rfl)) (fun _ _ _ h => h) (Or.inl ⟨by rfl, ?_⟩) ?_ ?_
                  rotate_left
                  · intro w'
                    go_simp
                    with_reducible rfl
                  rotate_left
                  · simp only [Act.put, List.setIfInBounds_toArray, List.set_cons_zero, List.set_cons_succ, i64_w, i32_w]
                    rfl
                  refine pure_ (i := 6) (N := some 81) (v := ?_) (a' := ?_) #[true, true, true, true, true, true, true, false, true, false, false] rfl rfl (any_of HT_.out (by kernel_rfl)) (fun _ _ _ h => h) (Or.inl ⟨by rfl, ?_⟩) ?_ ?_
                  rotate_left
                  · intro w'
                    go_simp
                    with_reducible rfl
                  rotate_left
                  · simp only [Act.put, List.setIfInBounds_toArray, List.set_cons_zero, List.set_cons_succ, i64_w, i32_w]
                    rfl
                  refine pure_ (i := 7) (N := some 82) (v := ?_) (a' := ?_) #[true, true, true, true, true, true, true, true, true, false, false] rfl rfl (any_of HT_.out (by kernel_rfl)) (fun _ _ _ h => h) (Or.inl ⟨by rfl, ?_⟩) ?_ ?_
                  rotate_left
                  · intro w'
                    go_simp
                    with_reducible rfl
                  rotate_left
                  · simp only [Act.put, List.setIfInBounds_toArray, List.set_cons_zero, List.set_cons_succ, i64_w, i32_w]
                    rfl
                  exact norm_ (by simp only [putAll, Act.put, List.setIfInBounds_toArray, List.set_cons_zero, List.set_cons_succ]) (hCont (gb392) _ ⟨hHeld, (by (with_reducible repeat (first | refine bN ?_ _ | refine bD ?_ | refine bA ?_ _)); exact BK367.out), (by (with_reducible repeat (first | refine bN ?_ _ | refine bD ?_ | refine bA ?_ _)); exact BK368.out), (by (with_reducible repeat (first | refine bN ?_ _ | refine bD ?_ | refine bA ?_ _)); exact BK373.out), (by (with_reducible repeat (first | refine bN ?_ _ | refine bD ?_ | refine bA ?_ _)); exact BK377.out), (by (with_reducible repeat (first | refine bN ?_ _ | refine bD ?_ | refine bA ?_ _)); exact BK381.out), (by (with_reducible repeat (first | refine bN ?_ _ | refine bD ?_ | refine bA ?_ _)); exact BK384.out), (by (with_reducible repeat (first | refine bN ?_ _ | refine bD ?_ | refine bA ?_ _)); exact BK392.out), GW392.out, GE392.out, NB367_392.out, NB392_367.out, NB368_392.out, NB392_368.out, NB373_392.out, NB392_373.out, NB377_392.out, NB392_377.out, NB381_392.out, NB392_381.out, NB384_392.out, NB392_384.out, (by repeat (first | (with_reducible first | exact HB.out | apply pA | apply pN | apply p1 | refine pS ?_ GE367.out | refine pS ?_ GE368.out | refine pS ?_ GE373.out | refine pS ?_ GE377.out | refine pS ?_ GE381.out | refine pS ?_ GE384.out | refine pS ?_ GE392.out) | exact HB.out))⟩)
              rintro gb392 w134 ⟨hS_, h0_, h1_, h2_, h3_, h4_, h5_, h6_, h7_, h8_, h9_, h10_, h11_, h12_, h13_, h14_, h15_, h16_, h17_, h18_, h19_, h20_, h21_⟩
              have n0_ : Aside0 (w134.heap[gb367]? = some (.cells #[.int .u64 a0_0, .int .u64 a0_1] 25 (0, 0))) := ⟨h0_⟩
              have n1_ : Aside0 (w134.heap[gb368]? = some (.cells #[.int .u64 a1_0, .int .u64 a1_1] 25 (0, 0))) := ⟨h1_⟩
              have n2_ : Aside0 (w134.heap[gb373]? = some (.cells #[.int .u64 t370, .int .u64 t371] 25 (0, 0))) := ⟨h2_⟩
              have n3_ : Aside0 (w134.heap[gb377]? = some (.cells #[.int .u64 t374, .int .u64 t375] 25 (0, 0))) := ⟨h3_⟩
              have n4_ : Aside0 (w134.heap[gb381]? = some (.cells #[.int .u64 t378, .int .u64 t379] 25 (0, 0))) := ⟨h4_⟩
              have n5_ : Aside0 (w134.heap[gb384]? = some (.cells #[.int .u64 t382, .int .u64 t383] 25 (0, 0))) := ⟨h5_⟩
              have n6_ : Aside0 (w134.heap[gb392]? = some (.cells #[.int .u64 0, .int .u64 0] 25 (0, 0))) := ⟨h6_⟩
              have n7_ : Aside0 (w.heap.size ≤ gb392) := ⟨h7_⟩
              have n8_ : Aside0 (w.heap.size ≤ gb392) := ⟨h8_⟩
              have n9_ : Aside0 (gb367 ≠ gb392) := ⟨h9_⟩
              have n10_ : Aside0 (gb392 ≠ gb367) := ⟨h10_⟩
              have n11_ : Aside0 (gb368 ≠ gb392) := ⟨h11_⟩
              have n12_ : Aside0 (gb392 ≠ gb368) := ⟨h12_⟩
              have n13_ : Aside0 (gb373 ≠ gb392) := ⟨h13_⟩
              have n14_ : Aside0 (gb392 ≠ gb373) := ⟨h14_⟩
              have n15_ : Aside0 (gb377 ≠ gb392) := ⟨h15_⟩
              have n16_ : Aside0 (gb392 ≠ gb377) := ⟨h16_⟩
              have n17_ : Aside0 (gb381 ≠ gb392) := ⟨h17_⟩
              have n18_ : Aside0 (gb392 ≠ gb381) := ⟨h18_⟩
              have n19_ : Aside0 (gb384 ≠ gb392) := ⟨h19_⟩
              have n20_ : Aside0 (gb392 ≠ gb384) := ⟨h20_⟩
              have n21_ : Aside0 (Below w.heap.size w w134) := ⟨h21_⟩
              clear BK367
              clear BK368
              clear BK373
              clear BK377
              clear BK381
              clear BK384
              clear HB
              clear h0_ h1_ h2_ h3_ h4_ h5_ h6_ h7_ h8_ h9_ h10_ h11_ h12_ h13_ h14_ h15_ h16_ h17_ h18_ h19_ h20_ h21_
              have BK367 := n0_
              have BK368 := n1_
              have BK373 := n2_
              have BK377 := n3_
              have BK381 := n4_
              have BK384 := n5_
              have BK392 := n6_
              have GW392 := n7_
              have GE392 := n8_
              have NB367_392 := n9_
              have NB392_367 := n10_
              have NB368_392 := n11_
              have NB392_368 := n12_
              have NB373_392 := n13_
              have NB392_373 := n14_
              have NB377_392 := n15_
              have NB392_377 := n16_
              have NB381_392 := n17_
              have NB392_381 := n18_
              have NB384_392 := n19_
              have NB392_384 := n20_
              have HB := n21_
              clear n0_ n1_ n2_ n3_ n4_ n5_ n6_ n7_ n8_ n9_ n10_ n11_ n12_ n13_ n14_ n15_ n16_ n17_ n18_ n19_ n20_ n21_
              have hHeld : w134.cell? ⟨gb384, 0, none⟩ = some (.int .u64 t382) ∧ w134.cell? ⟨gb384, 1, none⟩ = some (.int .u64 t383) := hS_
              refine norm_ (a' := ?_) ?_ ?_
              rotate_left
              · simp only [putAll, Act.put, List.setIfInBounds_toArray, List.set_cons_zero, List.set_cons_succ]
                rfl
              refine one_ (i := 9) (N := none) #[true, true, true, true, true, true, true, true, true, true, false] rfl rfl (one_of HT_.out (by kernel_rfl)) (by decide) (fun K hK => ?_)
              have hs135 : w134.cell? ⟨gb392, 0, none⟩ = some (.int .u64 0) := (blk_cell BK392.out 0).trans rfl
              have hfs135 := blk_frozen BK392.out 0
              have hns135_0 := NB367_392.out
              have hns135_1 := NB368_392.out
              have hns135_2 := NB373_392.out
              have hns135_3 := NB377_392.out
              have hns135_4 := NB381_392.out
              have hns135_5 := NB384_392.out
              have hms135_0 := NB392_367.out
              have hms135_1 := NB392_368.out
              have hms135_2 := NB392_373.out
              have hms135_3 := NB392_377.out
              have hms135_4 := NB392_381.out
              have hms135_5 := NB392_384.out
              have hs136 : w134.cell? ⟨gb392, 1, none⟩ = some (.int .u64 0) := (blk_cell BK392.out 1).trans rfl
              have hfs136 := blk_frozen BK392.out 1
              have hns136_0 := NB367_392.out
              have hns136_1 := NB368_392.out
              have hns136_2 := NB373_392.out
              have hns136_3 := NB377_392.out
              have hns136_4 := NB381_392.out
              have hns136_5 := NB384_392.out
              have hms136_0 := NB392_367.out
              have hms136_1 := NB392_368.out
              have hms136_2 := NB392_373.out
              have hms136_3 := NB392_377.out
              have hms136_4 := NB392_381.out
              have hms136_5 := NB392_384.out
              refine skip_ (w1 := ?_) (by rfl) rfl ?_ ?_
              rotate_left
              · go_simp
                rfl
              refine hK.out _ _ ⟨((cell_far (p := ⟨gb392, _, none⟩) NB384_392.out _).trans (((cell_far (p := ⟨gb392, _, none⟩) NB384_392.out _).trans (hHeld.1)))), ((cell_far (p := ⟨gb392, _, none⟩) NB384_392.out _).trans (((cell_far (p := ⟨gb392, _, none⟩) NB384_392.out _).trans (hHeld.2))))⟩ (fun hHeld => ?_)
              clear hK K
              refine pure_ (i := 10) (N := some 20) (v := ?_) (a' := ?_) #[true, true, true, true, true, true, true, true, true, true, true] rfl rfl (any_of HT_.out (by kernel_rfl)) (fun _ _ _ h => h) (Or.inl ⟨by rfl, ?_⟩) ?_ ?_
              rotate_left
              · intro w'
                go_simp
                with_reducible rfl
              rotate_left
              · simp only [Act.put, List.setIfInBounds_toArray, List.set_cons_zero, List.set_cons_succ, i64_w, i32_w]
                rfl
              refine done_ (done_of HT_.out (by kernel_rfl)) ?_
              try go_wp2
              have n0_ : Aside0 (((w134.setCell ⟨gb392, 0, none⟩ (.int .u64 t389)).setCell ⟨gb392, 1, none⟩ (.int .u64 t390)).heap[gb367]? = some (.cells #[.int .u64 a0_0, .int .u64 a0_1] 25 (0, 0))) := ⟨by (with_reducible repeat (first | refine bN ?_ _ | refine bD ?_ | refine bA ?_ _)); refine blk_far ?_ NB367_392.out _; (with_reducible repeat (first | refine bN ?_ _ | refine bD ?_ | refine bA ?_ _)); refine blk_far ?_ NB367_392.out _; (with_reducible repeat (first | refine bN ?_ _ | refine bD ?_ | refine bA ?_ _)); exact BK367.out⟩
              have n1_ : Aside0 (((w134.setCell ⟨gb392, 0, none⟩ (.int .u64 t389)).setCell ⟨gb392, 1, none⟩ (.int .u64 t390)).heap[gb368]? = some (.cells #[.int .u64 a1_0, .int .u64 a1_1] 25 (0, 0))) := ⟨by (with_reducible repeat (first | refine bN ?_ _ | refine bD ?_ | refine bA ?_ _)); refine blk_far ?_ NB368_392.out _; (with_reducible repeat (first | refine bN ?_ _ | refine bD ?_ | refine bA ?_ _)); refine blk_far ?_ NB368_392.out _; (with_reducible repeat (first | refine bN ?_ _ | refine bD ?_ | refine bA ?_ _)); exact BK368.out⟩
              have n2_ : Aside0 (((w134.setCell ⟨gb392, 0, none⟩ (.int .u64 t389)).setCell ⟨gb392, 1, none⟩ (.int .u64 t390)).heap[gb373]? = some (.cells #[.int .u64 t370, .int .u64 t371] 25 (0, 0))) := ⟨by (with_reducible repeat (first | refine bN ?_ _ | refine bD ?_ | refine bA ?_ _)); refine blk_far ?_ NB373_392.out _; (with_reducible repeat (first | refine bN ?_ _ | refine bD ?_ | refine bA ?_ _)); refine blk_far ?_ NB373_392.out _; (with_reducible repeat (first | refine bN ?_ _ | refine bD ?_ | refine bA ?_ _)); exact BK373.out⟩
              have n3_ : Aside0 (((w134.setCell ⟨gb392, 0, none⟩ (.int .u64 t389)).setCell ⟨gb392, 1, none⟩ (.int .u64 t390)).heap[gb377]? = some (.cells #[.int .u64 t374, .int .u64 t375] 25 (0, 0))) := ⟨by (with_reducible repeat (first | refine bN ?_ _ | refine bD ?_ | refine bA ?_ _)); refine blk_far ?_ NB377_392.out _; (with_reducible repeat (first | refine bN ?_ _ | refine bD ?_ | refine bA ?_ _)); refine blk_far ?_ NB377_392.out _; (with_reducible repeat (first | refine bN ?_ _ | refine bD ?_ | refine bA ?_ _)); exact BK377.out⟩
              have n4_ : Aside0 (((w134.setCell ⟨gb392, 0, none⟩ (.int .u64 t389)).setCell ⟨gb392, 1, none⟩ (.int .u64 t390)).heap[gb381]? = some (.cells #[.int .u64 t378, .int .u64 t379] 25 (0, 0))) := ⟨by (with_reducible repeat (first | refine bN ?_ _ | refine bD ?_ | refine bA ?_ _)); refine blk_far ?_ NB381_392.out _; (with_reducible repeat (first | refine bN ?_ _ | refine bD ?_ | refine bA ?_ _)); refine blk_far ?_ NB381_392.out _; (with_reducible repeat (first | refine bN ?_ _ | refine bD ?_ | refine bA ?_ _)); exact BK381.out⟩
              have n5_ : Aside0 (((w134.setCell ⟨gb392, 0, none⟩ (.int .u64 t389)).setCell ⟨gb392, 1, none⟩ (.int .u64 t390)).heap[gb384]? = some (.cells #[.int .u64 t382, .int .u64 t383] 25 (0, 0))) := ⟨by (with_reducible repeat (first | refine bN ?_ _ | refine bD ?_ | refine bA ?_ _)); refine blk_far ?_ NB384_392.out _; (with_reducible repeat (first | refine bN ?_ _ | refine bD ?_ | refine bA ?_ _)); refine blk_far ?_ NB384_392.out _; (with_reducible repeat (first | refine bN ?_ _ | refine bD ?_ | refine bA ?_ _)); exact BK384.out⟩
              have n6_ : Aside0 (((w134.setCell ⟨gb392, 0, none⟩ (.int .u64 t389)).setCell ⟨gb392, 1, none⟩ (.int .u64 t390)).heap[gb392]? = some (.cells #[.int .u64 t389, .int .u64 t390] 25 (0, 0))) := ⟨by (with_reducible repeat (first | refine bN ?_ _ | refine bD ?_ | refine bA ?_ _)); refine blk_put (cs := #[.int .u64 t389, .int .u64 0]) ?_ 1 _ rfl; (with_reducible repeat (first | refine bN ?_ _ | refine bD ?_ | refine bA ?_ _)); refine blk_put (cs := #[.int .u64 0, .int .u64 0]) ?_ 0 _ rfl; (with_reducible repeat (first | refine bN ?_ _ | refine bD ?_ | refine bA ?_ _)); exact BK392.out⟩
              have n7_ : Aside0 (Below w.heap.size w ((w134.setCell ⟨gb392, 0, none⟩ (.int .u64 t389)).setCell ⟨gb392, 1, none⟩ (.int .u64 t390))) := ⟨by repeat (first | (with_reducible first | exact HB.out | apply pA | apply pN | apply p1 | refine pS ?_ GE367.out | refine pS ?_ GE368.out | refine pS ?_ GE373.out | refine pS ?_ GE377.out | refine pS ?_ GE381.out | refine pS ?_ GE384.out | refine pS ?_ GE392.out) | exact HB.out)⟩
              (try clear BK367)
              (try clear BK368)
              (try clear BK373)
              (try clear BK377)
              (try clear BK381)
              (try clear BK384)
              (try clear BK392)
              (try clear HB)
              generalize ((w134.setCell ⟨gb392, 0, none⟩ (.int .u64 t389)).setCell ⟨gb392, 1, none⟩ (.int .u64 t390)) = w137 at n0_ n1_ n2_ n3_ n4_ n5_ n6_ n7_ ⊢
              have BK367 := n0_
              have BK368 := n1_
              have BK373 := n2_
              have BK377 := n3_
              have BK381 := n4_
              have BK384 := n5_
              have BK392 := n6_
              have HB := n7_
              clear n0_ n1_ n2_ n3_ n4_ n5_ n6_ n7_
              have n0_ := Aside0.mk (bD BK367.out)
              have n1_ := Aside0.mk (bD BK368.out)
              have n2_ := Aside0.mk (bD BK373.out)
              have n3_ := Aside0.mk (bD BK377.out)
              have n4_ := Aside0.mk (bD BK381.out)
              have n5_ := Aside0.mk (bD BK384.out)
              have n6_ := Aside0.mk (bD BK392.out)
              have n7_ := Aside0.mk (p1 HB.out)
              clear BK367
              clear BK368
              clear BK373
              clear BK377
              clear BK381
              clear BK384
              clear BK392
              clear HB
              have BK367 := n0_
              have BK368 := n1_
              have BK373 := n2_
              have BK377 := n3_
              have BK381 := n4_
              have BK384 := n5_
              have BK392 := n6_
              have HB := n7_
              clear n0_ n1_ n2_ n3_ n4_ n5_ n6_ n7_
              refine start_ (n := 12) (S := fun w' => True) (ds := []) #[false, false, false, false, false, false, false, false, false, false, false, false] (by kernel_rfl) rfl rfl trivial (fun hHeld => ?_); refine with_tabW vernierlaw02_TwinRing.tab13 vernierlaw02_TwinRing.bits13 (fun HT_ HW_ => ?_)
              generalize w137.drew = w138 at BK367 BK368 BK373 BK377 BK381 BK384 BK392 HB hHeld ⊢
              refine pure_ (i := 0) (N := some 83) (v := ?_) (a' := ?_) #[true, false, false, false, false, false, false, false, false, false, false, false] rfl rfl (any_of HT_.out (by kernel_rfl)) (fun _ _ _ h => h) (Or.inl ⟨by rfl, ?_⟩) ?_ ?_
              rotate_left
              · intro w'
                go_simp
                with_reducible rfl
              rotate_left
              · simp only [Act.put, List.setIfInBounds_toArray, List.set_cons_zero, List.set_cons_succ, i64_w, i32_w]
                rfl
              refine pure_ (i := 1) (N := some 84) (v := ?_) (a' := ?_) #[true, true, false, false, false, false, false, false, false, false, false, false] rfl rfl (any_of HT_.out (by kernel_rfl)) (fun _ _ _ h => h) (Or.inl ⟨by rfl, ?_⟩) ?_ ?_
              rotate_left
              · intro w'
                go_simp
                with_reducible rfl
              rotate_left
              · simp only [Act.put, List.setIfInBounds_toArray, List.set_cons_zero, List.set_cons_succ, i64_w, i32_w]
                rfl
              refine pure_ (i := 2) (N := some 85) (v := ?_) (a' := ?_) #[true, true, true, false, false, false, false, false, false, false, false, false] rfl rfl (any_of HT_.out (by kernel_rfl)) (fun _ _ _ h => h) (Or.inl ⟨by rfl, ?_⟩) ?_ ?_
              rotate_left
              · intro w'
                go_simp
                with_reducible rfl
              rotate_left
              · simp only [Act.put, List.setIfInBounds_toArray, List.set_cons_zero, List.set_cons_succ, i64_w, i32_w]
                rfl
              refine pure_ (i := 3) (N := some 86) (v := undef) (a' := ?_) #[true, true, true, true, false, false, false, false, false, false, false, false] rfl rfl (any_of HT_.out (by kernel_rfl)) (fun _ _ _ h => h) (Or.inr ⟨by rfl, rfl⟩) ?_ ?_
              rotate_left
              · simp only [Act.put, List.setIfInBounds_toArray, List.set_cons_zero, List.set_cons_succ, i64_w, i32_w]
                rfl
              refine pure_ (i := 4) (N := some 87) (v := undef) (a' := ?_) #[true, true, true, true, true, false, false, false, false, false, false, false] rfl rfl (any_of HT_.out (by kernel_rfl)) (fun _ _ _ h => h) (Or.inr ⟨by rfl, rfl⟩) ?_ ?_
              rotate_left
              · simp only [Act.put, List.setIfInBounds_toArray, List.set_cons_zero, List.set_cons_succ, i64_w, i32_w]
                rfl
              refine pure_ (i := 5) (N := some 88) (v := undef) (a' := ?_) #[true, true, true, true, true, true, false, false, false, false, false, false] rfl rfl (any_of HT_.out (by kernel_rfl)) (fun _ _ _ h => h) (Or.inr ⟨by rfl, rfl⟩) ?_ ?_
              rotate_left
              · simp only [Act.put, List.setIfInBounds_toArray, List.set_cons_zero, List.set_cons_succ, i64_w, i32_w]
                rfl
              refine pure_ (i := 6) (N := some 89) (v := undef) (a' := ?_) #[true, true, true, true, true, true, true, false, false, false, false, false] rfl rfl (any_of HT_.out (by kernel_rfl)) (fun _ _ _ h => h) (Or.inr ⟨by rfl, rfl⟩) ?_ ?_
              rotate_left
              · simp only [Act.put, List.setIfInBounds_toArray, List.set_cons_zero, List.set_cons_succ, i64_w, i32_w]
                rfl
              refine pure_ (i := 7) (N := some 90) (v := undef) (a' := ?_) #[true, true, true, true, true, true, true, true, false, false, false, false] rfl rfl (any_of HT_.out (by kernel_rfl)) (fun _ _ _ h => h) (Or.inr ⟨by rfl, rfl⟩) ?_ ?_
              rotate_left
              · simp only [Act.put, List.setIfInBounds_toArray, List.set_cons_zero, List.set_cons_succ, i64_w, i32_w]
                rfl
              refine pure_ (i := 8) (N := some 91) (v := undef) (a' := ?_) #[true, true, true, true, true, true, true, true, true, false, false, false] rfl rfl (any_of HT_.out (by kernel_rfl)) (fun _ _ _ h => h) (Or.inr ⟨by rfl, rfl⟩) ?_ ?_
              rotate_left
              · simp only [Act.put, List.setIfInBounds_toArray, List.set_cons_zero, List.set_cons_succ, i64_w, i32_w]
                rfl
              refine pure_ (i := 9) (N := some 92) (v := undef) (a' := ?_) #[true, true, true, true, true, true, true, true, true, true, false, false] rfl rfl (any_of HT_.out (by kernel_rfl)) (fun _ _ _ h => h) (Or.inr ⟨by rfl, rfl⟩) ?_ ?_
              rotate_left
              · simp only [Act.put, List.setIfInBounds_toArray, List.set_cons_zero, List.set_cons_succ, i64_w, i32_w]
                rfl
              refine pure_ (i := 10) (N := some 93) (v := ?_) (a' := ?_) #[true, true, true, true, true, true, true, true, true, true, true, false] rfl rfl (any_of HT_.out (by kernel_rfl)) (fun _ _ _ h => h) (Or.inl ⟨by rfl, ?_⟩) ?_ ?_
              rotate_left
              · intro w'
                go_simp
                with_reducible rfl
              rotate_left
              · simp only [Act.put, List.setIfInBounds_toArray, List.set_cons_zero, List.set_cons_succ, i64_w, i32_w]
                rfl
              refine pure_ (i := 11) (N := some 10) (v := ?_) (a' := ?_) #[true, true, true, true, true, true, true, true, true, true, true, true] rfl rfl (any_of HT_.out (by kernel_rfl)) (fun _ _ _ h => h) (Or.inl ⟨by rfl, ?_⟩) ?_ ?_
              rotate_left
              · intro w'
                go_simp
                with_reducible rfl
              rotate_left
              · simp only [Act.put, List.setIfInBounds_toArray, List.set_cons_zero, List.set_cons_succ, i64_w, i32_w]
                rfl
              refine done_ (done_of HT_.out (by kernel_rfl)) ?_
              try go_wp2
              go_ret
              exact ⟨by first | rfl | (simp [errW_none, errW_some] <;> rfl) | (simp [*, errW_none, errW_some] <;> rfl), by repeat (first | (with_reducible first | exact HB.out | apply pA | apply pN | apply p1 | refine pS ?_ GE367.out | refine pS ?_ GE368.out | refine pS ?_ GE373.out | refine pS ?_ GE377.out | refine pS ?_ GE381.out | refine pS ?_ GE384.out | refine pS ?_ GE392.out) | exact HB.out)⟩
            · replace c118 := Bool.eq_false_iff.mpr c118
              subst c118
              have H1 : ((twin_Mul.f a2 (IntKind.u64.wrap (a3 + a4))).bind fun bt393 => (some (t389 == bt393.1 && (t390 == bt393.2)))) = some r := by rw [if_neg (show ¬ (false = true) by decide)] at H; exact H
              clear H
              have H := H1
              clear H1
              replace H := Option.bind_eq_some_iff.mp H
              obtain ⟨⟨t393, t394⟩, A1390, H⟩ := H
              replace H : (some (t389 == t393 && (t390 == t394))) = some r := H
              have A139 := Aside0.mk A1390
              clear A1390
              obtain rfl := Option.some.inj H
              try go_wp2_with (first | ((with_reducible refine gC (f := 23) rfl ?_); refine goesY_ (some 64) Try.func23 #[.int .u64 a2, .int .u64 a3] ?_; (with_reducible refine (twin_Mul.calls a2 a3 t382 t383 _ A90.out).mono ?_); rintro e w140 ⟨rfl, hb⟩; refine ⟨_, rfl, ?_⟩; have n0_ := Aside0.mk (bB3 BK367.out hb); have n1_ := Aside0.mk (bB3 BK368.out hb); have n2_ := Aside0.mk (bB3 BK373.out hb); have n3_ := Aside0.mk (bB3 BK377.out hb); have n4_ := Aside0.mk (bB3 BK381.out hb); have n5_ := Aside0.mk (bS3 HB.out hb); clear BK367; clear BK368; clear BK373; clear BK377; clear BK381; clear HB; have BK367 := n0_; have BK368 := n1_; have BK373 := n2_; have BK377 := n3_; have BK381 := n4_; have HB := n5_; clear n0_ n1_ n2_ n3_ n4_ n5_; (try clear hb); (try clear hb2); (try clear hk); (try clear hi)) | ((with_reducible refine gD (N := 18) rfl ?_); refine bE3 18 #[.int .u64 0, .int .u64 0] 25 ?hr ?_; (case hr => first | (go_simp; done) | (go_simp; rfl)); intro gb384 hg w141 hbox hb; have n0_ := Aside0.mk (bB3 BK367.out hb); have n1_ := Aside0.mk (bB3 BK368.out hb); have n2_ := Aside0.mk (bB3 BK373.out hb); have n3_ := Aside0.mk (bB3 BK377.out hb); have n4_ := Aside0.mk (bB3 BK381.out hb); have n5_ := Aside0.mk (bS3 HB.out hb); have n6_ := Aside0.mk (hbox); have n7_ := Aside0.mk ((bZ3 hg HB.out)); have n8_ := Aside0.mk ((bZ3 hg HB.out)); have n9_ := Aside0.mk ((bL3 hg BK367.out)); have n10_ := Aside0.mk ((bG3 hg BK367.out)); have n11_ := Aside0.mk ((bL3 hg BK368.out)); have n12_ := Aside0.mk ((bG3 hg BK368.out)); have n13_ := Aside0.mk ((bL3 hg BK373.out)); have n14_ := Aside0.mk ((bG3 hg BK373.out)); have n15_ := Aside0.mk ((bL3 hg BK377.out)); have n16_ := Aside0.mk ((bG3 hg BK377.out)); have n17_ := Aside0.mk ((bL3 hg BK381.out)); have n18_ := Aside0.mk ((bG3 hg BK381.out)); clear BK367; clear BK368; clear BK373; clear BK377; clear BK381; clear HB; have BK367 := n0_; have BK368 := n1_; have BK373 := n2_; have BK377 := n3_; have BK381 := n4_; have HB := n5_; have BK384 := n6_; have GW384 := n7_; have GE384 := n8_; have NB367_384 := n9_; have NB384_367 := n10_; have NB368_384 := n11_; have NB384_368 := n12_; have NB373_384 := n13_; have NB384_373 := n14_; have NB377_384 := n15_; have NB384_377 := n16_; have NB381_384 := n17_; have NB384_381 := n18_; clear n0_ n1_ n2_ n3_ n4_ n5_ n6_ n7_ n8_ n9_ n10_ n11_ n12_ n13_ n14_ n15_ n16_ n17_ n18_; clear hb hbox hg; have hnb142 := NB384_367.out; have hnc142 := NB367_384.out; have hnb143 := NB384_368.out; have hnc143 := NB368_384.out; have hnb144 := NB384_373.out; have hnc144 := NB373_384.out; have hnb145 := NB384_377.out; have hnc145 := NB377_384.out; have hnb146 := NB384_381.out; have hnc146 := NB381_384.out; have hcz147_0 : w141.cell? ⟨gb384, 0, none⟩ = some (.int .u64 0) := (blk_cell BK384.out 0).trans rfl; have hcz147_1 : w141.cell? ⟨gb384, 1, none⟩ = some (.int .u64 0) := (blk_cell BK384.out 1).trans rfl; have hfz147_0 := blk_frozen BK384.out 0; have hfz147_1 := blk_frozen BK384.out 1))
              have n0_ : Aside0 (((w141.setCell ⟨gb384, 0, none⟩ (.int .u64 t382)).setCell ⟨gb384, 1, none⟩ (.int .u64 t383)).heap[gb367]? = some (.cells #[.int .u64 a0_0, .int .u64 a0_1] 25 (0, 0))) := ⟨by (with_reducible repeat (first | refine bN ?_ _ | refine bD ?_ | refine bA ?_ _)); refine blk_far ?_ NB367_384.out _; (with_reducible repeat (first | refine bN ?_ _ | refine bD ?_ | refine bA ?_ _)); refine blk_far ?_ NB367_384.out _; (with_reducible repeat (first | refine bN ?_ _ | refine bD ?_ | refine bA ?_ _)); exact BK367.out⟩
              have n1_ : Aside0 (((w141.setCell ⟨gb384, 0, none⟩ (.int .u64 t382)).setCell ⟨gb384, 1, none⟩ (.int .u64 t383)).heap[gb368]? = some (.cells #[.int .u64 a1_0, .int .u64 a1_1] 25 (0, 0))) := ⟨by (with_reducible repeat (first | refine bN ?_ _ | refine bD ?_ | refine bA ?_ _)); refine blk_far ?_ NB368_384.out _; (with_reducible repeat (first | refine bN ?_ _ | refine bD ?_ | refine bA ?_ _)); refine blk_far ?_ NB368_384.out _; (with_reducible repeat (first | refine bN ?_ _ | refine bD ?_ | refine bA ?_ _)); exact BK368.out⟩
              have n2_ : Aside0 (((w141.setCell ⟨gb384, 0, none⟩ (.int .u64 t382)).setCell ⟨gb384, 1, none⟩ (.int .u64 t383)).heap[gb373]? = some (.cells #[.int .u64 t370, .int .u64 t371] 25 (0, 0))) := ⟨by (with_reducible repeat (first | refine bN ?_ _ | refine bD ?_ | refine bA ?_ _)); refine blk_far ?_ NB373_384.out _; (with_reducible repeat (first | refine bN ?_ _ | refine bD ?_ | refine bA ?_ _)); refine blk_far ?_ NB373_384.out _; (with_reducible repeat (first | refine bN ?_ _ | refine bD ?_ | refine bA ?_ _)); exact BK373.out⟩
              have n3_ : Aside0 (((w141.setCell ⟨gb384, 0, none⟩ (.int .u64 t382)).setCell ⟨gb384, 1, none⟩ (.int .u64 t383)).heap[gb377]? = some (.cells #[.int .u64 t374, .int .u64 t375] 25 (0, 0))) := ⟨by (with_reducible repeat (first | refine bN ?_ _ | refine bD ?_ | refine bA ?_ _)); refine blk_far ?_ NB377_384.out _; (with_reducible repeat (first | refine bN ?_ _ | refine bD ?_ | refine bA ?_ _)); refine blk_far ?_ NB377_384.out _; (with_reducible repeat (first | refine bN ?_ _ | refine bD ?_ | refine bA ?_ _)); exact BK377.out⟩
              have n4_ : Aside0 (((w141.setCell ⟨gb384, 0, none⟩ (.int .u64 t382)).setCell ⟨gb384, 1, none⟩ (.int .u64 t383)).heap[gb381]? = some (.cells #[.int .u64 t378, .int .u64 t379] 25 (0, 0))) := ⟨by (with_reducible repeat (first | refine bN ?_ _ | refine bD ?_ | refine bA ?_ _)); refine blk_far ?_ NB381_384.out _; (with_reducible repeat (first | refine bN ?_ _ | refine bD ?_ | refine bA ?_ _)); refine blk_far ?_ NB381_384.out _; (with_reducible repeat (first | refine bN ?_ _ | refine bD ?_ | refine bA ?_ _)); exact BK381.out⟩
              have n5_ : Aside0 (((w141.setCell ⟨gb384, 0, none⟩ (.int .u64 t382)).setCell ⟨gb384, 1, none⟩ (.int .u64 t383)).heap[gb384]? = some (.cells #[.int .u64 t382, .int .u64 t383] 25 (0, 0))) := ⟨by (with_reducible repeat (first | refine bN ?_ _ | refine bD ?_ | refine bA ?_ _)); refine blk_put (cs := #[.int .u64 t382, .int .u64 0]) ?_ 1 _ rfl; (with_reducible repeat (first | refine bN ?_ _ | refine bD ?_ | refine bA ?_ _)); refine blk_put (cs := #[.int .u64 0, .int .u64 0]) ?_ 0 _ rfl; (with_reducible repeat (first | refine bN ?_ _ | refine bD ?_ | refine bA ?_ _)); exact BK384.out⟩
              have n6_ : Aside0 (Below w.heap.size w ((w141.setCell ⟨gb384, 0, none⟩ (.int .u64 t382)).setCell ⟨gb384, 1, none⟩ (.int .u64 t383))) := ⟨by repeat (first | (with_reducible first | exact HB.out | apply pA | apply pN | apply p1 | refine pS ?_ GE367.out | refine pS ?_ GE368.out | refine pS ?_ GE373.out | refine pS ?_ GE377.out | refine pS ?_ GE381.out | refine pS ?_ GE384.out) | exact HB.out)⟩
              (try clear BK367)
              (try clear BK368)
              (try clear BK373)
              (try clear BK377)
              (try clear BK381)
              (try clear BK384)
              (try clear HB)
              generalize ((w141.setCell ⟨gb384, 0, none⟩ (.int .u64 t382)).setCell ⟨gb384, 1, none⟩ (.int .u64 t383)) = w148 at n0_ n1_ n2_ n3_ n4_ n5_ n6_ ⊢
              have BK367 := n0_
              have BK368 := n1_
              have BK373 := n2_
              have BK377 := n3_
              have BK381 := n4_
              have BK384 := n5_
              have HB := n6_
              clear n0_ n1_ n2_ n3_ n4_ n5_ n6_
              have n0_ := Aside0.mk (bD BK367.out)
              have n1_ := Aside0.mk (bD BK368.out)
              have n2_ := Aside0.mk (bD BK373.out)
              have n3_ := Aside0.mk (bD BK377.out)
              have n4_ := Aside0.mk (bD BK381.out)
              have n5_ := Aside0.mk (bD BK384.out)
              have n6_ := Aside0.mk (p1 HB.out)
              clear BK367
              clear BK368
              clear BK373
              clear BK377
              clear BK381
              clear BK384
              clear HB
              have BK367 := n0_
              have BK368 := n1_
              have BK373 := n2_
              have BK377 := n3_
              have BK381 := n4_
              have BK384 := n5_
              have HB := n6_
              clear n0_ n1_ n2_ n3_ n4_ n5_ n6_
              refine start_ (n := 5) (S := fun w' => w'.cell? ⟨gb384, 0, none⟩ = some (.int .u64 t382) ∧ w'.cell? ⟨gb384, 1, none⟩ = some (.int .u64 t383)) (ds := []) #[false, false, false, false, false] (by kernel_rfl) rfl rfl ⟨(blk_cell BK384.out 0).trans rfl, (blk_cell BK384.out 1).trans rfl⟩ (fun hHeld => ?_)
              generalize w148.drew = w149 at BK367 BK368 BK373 BK377 BK381 BK384 HB hHeld ⊢
              refine pure_ (i := 1) (N := some 66) (v := ?_) (a' := ?_) #[false, true, false, false, false] rfl rfl (by kernel_rfl) (fun _ _ _ h => h) (Or.inl ⟨by rfl, ?_⟩) ?_ ?_
              rotate_left
              · intro w'
                go_simp
                with_reducible rfl
              rotate_left
              · simp only [Act.put, List.setIfInBounds_toArray, List.set_cons_zero, List.set_cons_succ, i64_w, i32_w]
                rfl
              refine pure_ (i := 2) (N := some 67) (v := ?_) (a' := ?_) #[false, true, true, false, false] rfl rfl (by kernel_rfl) (fun _ _ _ h => h) (Or.inl ⟨by rfl, ?_⟩) ?_ ?_
              rotate_left
              · intro w'
                go_simp
                with_reducible rfl
              rotate_left
              · simp only [Act.put, List.setIfInBounds_toArray, List.set_cons_zero, List.set_cons_succ, i64_w, i32_w]
                rfl
              refine take_ (i := 0) (N := some 65) (v := ?_) (a' := ?_) #[true, true, true, false, false] rfl rfl (by kernel_rfl) (fun _ _ _ h => h) (Or.inl ⟨by rfl, ?_⟩) hHeld ?_ ?_
              rotate_left
              · rintro w' ⟨s0, s1⟩
                go_simp
                with_reducible rfl
              rotate_left
              · simp only [Act.put, List.setIfInBounds_toArray, List.set_cons_zero, List.set_cons_succ, i64_w, i32_w]
                rfl
              refine one_ (i := 3) (N := some 68) #[true, true, true, true, false] rfl rfl (by kernel_rfl) (by decide) (fun K hK => ?_)
              refine goes_ Try.func23 (by kernel_rfl) rfl #[.int .u64 a3, .int .u64 a2] (by rfl) rfl rfl (by (try simp only [List.map_toArray, List.map_cons, List.map_nil]); first | done | rfl | (simp only [List.length_drop, List.length_take]; rfl)) ?_
              with_reducible refine (twin_Mul.calls a3 a2 t385 t386 _ A91.out).mono ?_
              rintro e w150 ⟨rfl, hb⟩
              refine ⟨_, rfl, ?_⟩
              have n0_ := Aside0.mk (bB3 BK367.out hb)
              have n1_ := Aside0.mk (bB3 BK368.out hb)
              have n2_ := Aside0.mk (bB3 BK373.out hb)
              have n3_ := Aside0.mk (bB3 BK377.out hb)
              have n4_ := Aside0.mk (bB3 BK381.out hb)
              have n5_ := Aside0.mk (bB3 BK384.out hb)
              have n6_ := Aside0.mk (bS3 HB.out hb)
              clear BK367
              clear BK368
              clear BK373
              clear BK377
              clear BK381
              clear BK384
              clear HB
              have BK367 := n0_
              have BK368 := n1_
              have BK373 := n2_
              have BK377 := n3_
              have BK381 := n4_
              have BK384 := n5_
              have HB := n6_
              clear n0_ n1_ n2_ n3_ n4_ n5_ n6_
              (try clear hb)
              (try clear hb2)
              (try clear hk)
              (try clear hi)
              refine hK.out _ _ ⟨(blk_cell BK384.out 0).trans rfl, (blk_cell BK384.out 1).trans rfl⟩ (fun hHeld => ?_)
              clear hK K
              refine norm_ (a' := ?_) ?_ ?_
              rotate_left
              · show Act.put _ (some 68) _ = _
                simp only [Act.put, List.setIfInBounds_toArray, List.set_cons_zero, List.set_cons_succ, i64_w, i32_w]
                rfl
              refine pure_ (i := 4) (N := some 69) (v := ?_) (a' := ?_) #[true, true, true, true, true] rfl rfl (by kernel_rfl) (fun _ _ _ h => h) (Or.inl ⟨by rfl, ?_⟩) ?_ ?_
              rotate_left
              · intro w'
                go_simp
                with_reducible rfl
              rotate_left
              · simp only [Act.put, List.setIfInBounds_toArray, List.set_cons_zero, List.set_cons_succ, i64_w, i32_w]
                rfl
              refine done_ (by kernel_rfl) ?_
              try go_wp2
              have n0_ := Aside0.mk (bD BK367.out)
              have n1_ := Aside0.mk (bD BK368.out)
              have n2_ := Aside0.mk (bD BK373.out)
              have n3_ := Aside0.mk (bD BK377.out)
              have n4_ := Aside0.mk (bD BK381.out)
              have n5_ := Aside0.mk (bD BK384.out)
              have n6_ := Aside0.mk (p1 HB.out)
              clear BK367
              clear BK368
              clear BK373
              clear BK377
              clear BK381
              clear BK384
              clear HB
              have BK367 := n0_
              have BK368 := n1_
              have BK373 := n2_
              have BK377 := n3_
              have BK381 := n4_
              have BK384 := n5_
              have HB := n6_
              clear n0_ n1_ n2_ n3_ n4_ n5_ n6_
              refine start_ (n := 11) (S := fun w' => w'.cell? ⟨gb384, 0, none⟩ = some (.int .u64 t382) ∧ w'.cell? ⟨gb384, 1, none⟩ = some (.int .u64 t383)) (ds := []) #[false, false, false, false, false, false, false, false, false, false, false] (by kernel_rfl) rfl rfl ⟨(blk_cell BK384.out 0).trans rfl, (blk_cell BK384.out 1).trans rfl⟩ (fun hHeld => ?_); refine with_tabW vernierlaw02_TwinRing.tab12 vernierlaw02_TwinRing.bits12 (fun HT_ HW_ => ?_)
              generalize w150.drew = w151 at BK367 BK368 BK373 BK377 BK381 BK384 HB hHeld ⊢
              refine pure_ (i := 1) (N := some 77) (v := ?_) (a' := ?_) #[false, true, false, false, false, false, false, false, false, false, false] rfl rfl (any_of HT_.out (by kernel_rfl)) (fun _ _ _ h => h) (Or.inl ⟨by rfl, ?_⟩) ?_ ?_
              rotate_left
              · intro w'
                go_simp
                with_reducible rfl
              rotate_left
              · simp only [Act.put, List.setIfInBounds_toArray, List.set_cons_zero, List.set_cons_succ, i64_w, i32_w]
                rfl
              refine pure_ (i := 2) (N := some 78) (v := ?_) (a' := ?_) #[false, true, true, false, false, false, false, false, false, false, false] rfl rfl (any_of HT_.out (by kernel_rfl)) (fun _ _ _ h => h) (Or.inl ⟨by rfl, ?_⟩) ?_ ?_
              rotate_left
              · intro w'
                go_simp
                with_reducible rfl
              rotate_left
              · simp only [Act.put, List.setIfInBounds_toArray, List.set_cons_zero, List.set_cons_succ, i64_w, i32_w]
                rfl
              refine take_ (i := 0) (N := some 76) (v := ?_) (a' := ?_) #[true, true, true, false, false, false, false, false, false, false, false] rfl rfl (take_ofW HT_.out HW_.out (by kernel_rfl)) (fun _ _ _ h => h) (Or.inl ⟨by rfl, ?_⟩) hHeld ?_ ?_
              rotate_left
              · rintro w' ⟨s0, s1⟩
                go_simp
                with_reducible rfl
              rotate_left
              · simp only [Act.put, List.setIfInBounds_toArray, List.set_cons_zero, List.set_cons_succ, i64_w, i32_w]
                rfl
              refine join_ (σ := Nat) 2 #[true, true, true, true, true, true, true, true, true, false, false] (fun s_ => [(79, .agg #[.int .u64 t387, .int .u64 t388]), (80, .tuple #[.agg #[.int .u64 t389, .int .u64 t390], .bool false]), (19, .pointer (some ⟨s_, 0, none⟩)), (75, .tuple #[.agg #[.int .u64 t389, .int .u64 t390], .bool false]), (81, .agg #[.int .u64 t389, .int .u64 t390]), (82, .bool false)]) (fun s_ w' => (w'.cell? ⟨gb384, 0, none⟩ = some (.int .u64 t382) ∧ w'.cell? ⟨gb384, 1, none⟩ = some (.int .u64 t383)) ∧ (w'.heap[gb367]? = some (.cells #[.int .u64 a0_0, .int .u64 a0_1] 25 (0, 0))) ∧ (w'.heap[gb368]? = some (.cells #[.int .u64 a1_0, .int .u64 a1_1] 25 (0, 0))) ∧ (w'.heap[gb373]? = some (.cells #[.int .u64 t370, .int .u64 t371] 25 (0, 0))) ∧ (w'.heap[gb377]? = some (.cells #[.int .u64 t374, .int .u64 t375] 25 (0, 0))) ∧ (w'.heap[gb381]? = some (.cells #[.int .u64 t378, .int .u64 t379] 25 (0, 0))) ∧ (w'.heap[gb384]? = some (.cells #[.int .u64 t382, .int .u64 t383] 25 (0, 0))) ∧ (w'.heap[s_]? = some (.cells #[.int .u64 0, .int .u64 0] 25 (0, 0))) ∧ (w.heap.size ≤ s_) ∧ (w.heap.size ≤ s_) ∧ (gb367 ≠ s_) ∧ (s_ ≠ gb367) ∧ (gb368 ≠ s_) ∧ (s_ ≠ gb368) ∧ (gb373 ≠ s_) ∧ (s_ ≠ gb373) ∧ (gb377 ≠ s_) ∧ (s_ ≠ gb377) ∧ (gb381 ≠ s_) ∧ (s_ ≠ gb381) ∧ (gb384 ≠ s_) ∧ (s_ ≠ gb384) ∧ (Below w.heap.size w w')) ?_ ?_
              rotate_left
              · intro hCont
                refine two_ (i := 3) (j := 8) (Ni := some 79) (Nj := some 19) #[true, true, true, true, false, false, false, false, false, false, false] #[true, true, true, false, false, false, false, false, true, false, false] rfl rfl rfl rfl (two_of HT_.out (by kernel_rfl)) (by decide) (by decide) (fun K hK => ?_) (fun K hK => ?_)
                · skip
                  refine goes_ Try.func23 (by kernel_rfl) rfl #[.int .u64 a2, .int .u64 a4] (by rfl) rfl rfl (by (try simp only [List.map_toArray, List.map_cons, List.map_nil]); first | done | rfl | (simp only [List.length_drop, List.length_take]; rfl)) ?_
                  with_reducible refine (twin_Mul.calls a2 a4 t387 t388 _ A116.out).mono ?_
                  rintro e w152 ⟨rfl, hb⟩
                  refine ⟨_, rfl, ?_⟩
                  have n0_ := Aside0.mk (bB3 BK367.out hb)
                  have n1_ := Aside0.mk (bB3 BK368.out hb)
                  have n2_ := Aside0.mk (bB3 BK373.out hb)
                  have n3_ := Aside0.mk (bB3 BK377.out hb)
                  have n4_ := Aside0.mk (bB3 BK381.out hb)
                  have n5_ := Aside0.mk (bB3 BK384.out hb)
                  have n6_ := Aside0.mk (bS3 HB.out hb)
                  clear BK367
                  clear BK368
                  clear BK373
                  clear BK377
                  clear BK381
                  clear BK384
                  clear HB
                  have BK367 := n0_
                  have BK368 := n1_
                  have BK373 := n2_
                  have BK377 := n3_
                  have BK381 := n4_
                  have BK384 := n5_
                  have HB := n6_
                  clear n0_ n1_ n2_ n3_ n4_ n5_ n6_
                  (try clear hb)
                  (try clear hb2)
                  (try clear hk)
                  (try clear hi)
                  refine hK.out _ _ ⟨(blk_cell BK384.out 0).trans rfl, (blk_cell BK384.out 1).trans rfl⟩ (fun hHeld => ?_)
                  clear hK K
                  refine norm_ (a' := ?_) ?_ ?_
                  rotate_left
                  · show Act.put _ (some 79) _ = _
                    simp only [Act.put, List.setIfInBounds_toArray, List.set_cons_zero, List.set_cons_succ, i64_w, i32_w]
                    rfl
                  refine two_ (i := 4) (j := 8) (Ni := some 80) (Nj := some 19) #[true, true, true, true, true, false, false, false, false, false, false] #[true, true, true, true, false, false, false, false, true, false, false] rfl rfl rfl rfl (two_of HT_.out (by kernel_rfl)) (by decide) (by decide) (fun K hK => ?_) (fun K hK => ?_)
                  · skip
                    refine goes_ Try.func35 (by kernel_rfl) rfl #[.agg #[.int .u64 t382, .int .u64 t383], .agg #[.int .u64 t387, .int .u64 t388]] (by rfl) rfl rfl (by (try simp only [List.map_toArray, List.map_cons, List.map_nil]); first | done | rfl | (simp only [List.length_drop, List.length_take]; rfl)) ?_
                    with_reducible refine (twin_Add.calls t382 t383 t387 t388 t389 t390 false _ A117.out).mono ?_
                    rintro e w153 ⟨rfl, hb⟩
                    refine ⟨_, rfl, ?_⟩
                    have n0_ := Aside0.mk (bB3 BK367.out hb)
                    have n1_ := Aside0.mk (bB3 BK368.out hb)
                    have n2_ := Aside0.mk (bB3 BK373.out hb)
                    have n3_ := Aside0.mk (bB3 BK377.out hb)
                    have n4_ := Aside0.mk (bB3 BK381.out hb)
                    have n5_ := Aside0.mk (bB3 BK384.out hb)
                    have n6_ := Aside0.mk (bS3 HB.out hb)
                    clear BK367
                    clear BK368
                    clear BK373
                    clear BK377
                    clear BK381
                    clear BK384
                    clear HB
                    have BK367 := n0_
                    have BK368 := n1_
                    have BK373 := n2_
                    have BK377 := n3_
                    have BK381 := n4_
                    have BK384 := n5_
                    have HB := n6_
                    clear n0_ n1_ n2_ n3_ n4_ n5_ n6_
                    (try clear hb)
                    (try clear hb2)
                    (try clear hk)
                    (try clear hi)
                    refine hK.out _ _ ⟨(blk_cell BK384.out 0).trans rfl, (blk_cell BK384.out 1).trans rfl⟩ (fun hHeld => ?_)
                    clear hK K
                    refine norm_ (a' := ?_) ?_ ?_
                    rotate_left
                    · show Act.put _ (some 80) _ = _
                      simp only [Act.put, List.setIfInBounds_toArray, List.set_cons_zero, List.set_cons_succ, i64_w, i32_w]
                      rfl
                    refine pure_ (i := 5) (N := some 75) (v := ?_) (a' := ?_) #[true, true, true, true, true, true, false, false, false, false, false] rfl rfl (any_of HT_.out (by kernel_rfl)) (fun _ _ _ h => h) (Or.inl ⟨by rfl, ?_⟩) ?_ ?_
                    rotate_left
                    · intro w'
                      go_simp
                      with_reducible rfl
                    rotate_left
                    · simp only [Act.put, List.setIfInBounds_toArray, List.set_cons_zero, List.set_cons_succ, i64_w, i32_w]
                      rfl
                    refine pure_ (i := 6) (N := some 81) (v := ?_) (a' := ?_) #[true, true, true, true, true, true, true, false, false, false, false] rfl rfl (any_of HT_.out (by kernel_rfl)) (fun _ _ _ h => h) (Or.inl ⟨by rfl, ?_⟩) ?_ ?_
                    rotate_left
                    · intro w'
                      go_simp
                      with_reducible rfl
                    rotate_left
                    · simp only [Act.put, List.setIfInBounds_toArray, List.set_cons_zero, List.set_cons_succ, i64_w, i32_w]
                      rfl
                    refine pure_ (i := 7) (N := some 82) (v := ?_) (a' := ?_) #[true, true, true, true, true, true, true, true, false, false, false] rfl rfl (any_of HT_.out (by kernel_rfl)) (fun _ _ _ h => h) (Or.inl ⟨by rfl, ?_⟩) ?_ ?_
                    rotate_left
                    · intro w'
                      go_simp
                      with_reducible rfl
                    rotate_left
                    · simp only [Act.put, List.setIfInBounds_toArray, List.set_cons_zero, List.set_cons_succ, i64_w, i32_w]
                      rfl
                    refine one_ (i := 8) (N := some 19) #[true, true, true, true, true, true, true, true, true, false, false] rfl rfl (one_of HT_.out (by kernel_rfl)) (by decide) (fun K hK => ?_)
                    refine box_step ?hg (N := 19) ?hd (cs := #[.int .u64 0, .int .u64 0]) (t := 25) ?hr ?_; (case hd => rfl); (case hg => rfl); (case hr => first | (go_simp; done) | (go_simp; rfl))
                    intro gb392 hg w154 hbox hb
                    have n0_ := Aside0.mk (bB3 BK367.out hb)
                    have n1_ := Aside0.mk (bB3 BK368.out hb)
                    have n2_ := Aside0.mk (bB3 BK373.out hb)
                    have n3_ := Aside0.mk (bB3 BK377.out hb)
                    have n4_ := Aside0.mk (bB3 BK381.out hb)
                    have n5_ := Aside0.mk (bB3 BK384.out hb)
                    have n6_ := Aside0.mk (bS3 HB.out hb)
                    have n7_ := Aside0.mk (hbox)
                    have n8_ := Aside0.mk ((bZ3 hg HB.out))
                    have n9_ := Aside0.mk ((bZ3 hg HB.out))
                    have n10_ := Aside0.mk ((bL3 hg BK367.out))
                    have n11_ := Aside0.mk ((bG3 hg BK367.out))
                    have n12_ := Aside0.mk ((bL3 hg BK368.out))
                    have n13_ := Aside0.mk ((bG3 hg BK368.out))
                    have n14_ := Aside0.mk ((bL3 hg BK373.out))
                    have n15_ := Aside0.mk ((bG3 hg BK373.out))
                    have n16_ := Aside0.mk ((bL3 hg BK377.out))
                    have n17_ := Aside0.mk ((bG3 hg BK377.out))
                    have n18_ := Aside0.mk ((bL3 hg BK381.out))
                    have n19_ := Aside0.mk ((bG3 hg BK381.out))
                    have n20_ := Aside0.mk ((bL3 hg BK384.out))
                    have n21_ := Aside0.mk ((bG3 hg BK384.out))
                    clear BK367
                    clear BK368
                    clear BK373
                    clear BK377
                    clear BK381
                    clear BK384
                    clear HB
                    have BK367 := n0_
                    have BK368 := n1_
                    have BK373 := n2_
                    have BK377 := n3_
                    have BK381 := n4_
                    have BK384 := n5_
                    have HB := n6_
                    have BK392 := n7_
                    have GW392 := n8_
                    have GE392 := n9_
                    have NB367_392 := n10_
                    have NB392_367 := n11_
                    have NB368_392 := n12_
                    have NB392_368 := n13_
                    have NB373_392 := n14_
                    have NB392_373 := n15_
                    have NB377_392 := n16_
                    have NB392_377 := n17_
                    have NB381_392 := n18_
                    have NB392_381 := n19_
                    have NB384_392 := n20_
                    have NB392_384 := n21_
                    clear n0_ n1_ n2_ n3_ n4_ n5_ n6_ n7_ n8_ n9_ n10_ n11_ n12_ n13_ n14_ n15_ n16_ n17_ n18_ n19_ n20_ n21_
                    clear hb hbox hg
                    refine hK.out _ _ ⟨(blk_cell BK384.out 0).trans rfl, (blk_cell BK384.out 1).trans rfl⟩ (fun hHeld => ?_)
                    clear hK K
                    refine norm_ (a' := ?_) ?_ ?_
                    rotate_left
                    · show Act.put _ (some 19) _ = _
                      simp only [Act.put, List.setIfInBounds_toArray, List.set_cons_zero, List.set_cons_succ, i64_w, i32_w]
                      rfl
                    exact norm_ (by simp only [putAll, Act.put, List.setIfInBounds_toArray, List.set_cons_zero, List.set_cons_succ]) (hCont (gb392) _ ⟨hHeld, (by (with_reducible repeat (first | refine bN ?_ _ | refine bD ?_ | refine bA ?_ _)); exact BK367.out), (by (with_reducible repeat (first | refine bN ?_ _ | refine bD ?_ | refine bA ?_ _)); exact BK368.out), (by (with_reducible repeat (first | refine bN ?_ _ | refine bD ?_ | refine bA ?_ _)); exact BK373.out), (by (with_reducible repeat (first | refine bN ?_ _ | refine bD ?_ | refine bA ?_ _)); exact BK377.out), (by (with_reducible repeat (first | refine bN ?_ _ | refine bD ?_ | refine bA ?_ _)); exact BK381.out), (by (with_reducible repeat (first | refine bN ?_ _ | refine bD ?_ | refine bA ?_ _)); exact BK384.out), (by (with_reducible repeat (first | refine bN ?_ _ | refine bD ?_ | refine bA ?_ _)); exact BK392.out), GW392.out, GE392.out, NB367_392.out, NB392_367.out, NB368_392.out, NB392_368.out, NB373_392.out, NB392_373.out, NB377_392.out, NB392_377.out, NB381_392.out, NB392_381.out, NB384_392.out, NB392_384.out, (by repeat (first | (with_reducible first | exact HB.out | apply pA | apply pN | apply p1 | refine pS ?_ GE367.out | refine pS ?_ GE368.out | refine pS ?_ GE373.out | refine pS ?_ GE377.out | refine pS ?_ GE381.out | refine pS ?_ GE384.out | refine pS ?_ GE392.out) | exact HB.out))⟩)
                  · skip
                    refine box_step ?hg (N := 19) ?hd (cs := #[.int .u64 0, .int .u64 0]) (t := 25) ?hr ?_; (case hd => rfl); (case hg => rfl); (case hr => first | (go_simp; done) | (go_simp; rfl))
                    intro gb392 hg w153 hbox hb
                    have n0_ := Aside0.mk (bB3 BK367.out hb)
                    have n1_ := Aside0.mk (bB3 BK368.out hb)
                    have n2_ := Aside0.mk (bB3 BK373.out hb)
                    have n3_ := Aside0.mk (bB3 BK377.out hb)
                    have n4_ := Aside0.mk (bB3 BK381.out hb)
                    have n5_ := Aside0.mk (bB3 BK384.out hb)
                    have n6_ := Aside0.mk (bS3 HB.out hb)
                    have n7_ := Aside0.mk (hbox)
                    have n8_ := Aside0.mk ((bZ3 hg HB.out))
                    have n9_ := Aside0.mk ((bZ3 hg HB.out))
                    have n10_ := Aside0.mk ((bL3 hg BK367.out))
                    have n11_ := Aside0.mk ((bG3 hg BK367.out))
                    have n12_ := Aside0.mk ((bL3 hg BK368.out))
                    have n13_ := Aside0.mk ((bG3 hg BK368.out))
                    have n14_ := Aside0.mk ((bL3 hg BK373.out))
                    have n15_ := Aside0.mk ((bG3 hg BK373.out))
                    have n16_ := Aside0.mk ((bL3 hg BK377.out))
                    have n17_ := Aside0.mk ((bG3 hg BK377.out))
                    have n18_ := Aside0.mk ((bL3 hg BK381.out))
                    have n19_ := Aside0.mk ((bG3 hg BK381.out))
                    have n20_ := Aside0.mk ((bL3 hg BK384.out))
                    have n21_ := Aside0.mk ((bG3 hg BK384.out))
                    clear BK367
                    clear BK368
                    clear BK373
                    clear BK377
                    clear BK381
                    clear BK384
                    clear HB
                    have BK367 := n0_
                    have BK368 := n1_
                    have BK373 := n2_
                    have BK377 := n3_
                    have BK381 := n4_
                    have BK384 := n5_
                    have HB := n6_
                    have BK392 := n7_
                    have GW392 := n8_
                    have GE392 := n9_
                    have NB367_392 := n10_
                    have NB392_367 := n11_
                    have NB368_392 := n12_
                    have NB392_368 := n13_
                    have NB373_392 := n14_
                    have NB392_373 := n15_
                    have NB377_392 := n16_
                    have NB392_377 := n17_
                    have NB381_392 := n18_
                    have NB392_381 := n19_
                    have NB384_392 := n20_
                    have NB392_384 := n21_
                    clear n0_ n1_ n2_ n3_ n4_ n5_ n6_ n7_ n8_ n9_ n10_ n11_ n12_ n13_ n14_ n15_ n16_ n17_ n18_ n19_ n20_ n21_
                    clear hb hbox hg
                    refine hK.out _ _ ⟨(blk_cell BK384.out 0).trans rfl, (blk_cell BK384.out 1).trans rfl⟩ (fun hHeld => ?_)
                    clear hK K
                    refine norm_ (a' := ?_) ?_ ?_
                    rotate_left
                    · show Act.put _ (some 19) _ = _
                      simp only [Act.put, List.setIfInBounds_toArray, List.set_cons_zero, List.set_cons_succ, i64_w, i32_w]
                      rfl
                    refine one_ (i := 4) (N := some 80) #[true, true, true, true, true, false, false, false, true, false, false] rfl rfl (one_of HT_.out (by kernel_rfl)) (by decide) (fun K hK => ?_)
                    refine goes_ Try.func35 (by kernel_rfl) rfl #[.agg #[.int .u64 t382, .int .u64 t383], .agg #[.int .u64 t387, .int .u64 t388]] (by rfl) rfl rfl (by (try simp only [List.map_toArray, List.map_cons, List.map_nil]); first | done | rfl | (simp only [List.length_drop, List.length_take]; rfl)) ?_
                    with_reducible refine (twin_Add.calls t382 t383 t387 t388 t389 t390 false _ A117.out).mono ?_
                    rintro e w154 ⟨rfl, hb⟩
                    refine ⟨_, rfl, ?_⟩
                    have n0_ := Aside0.mk (bB3 BK367.out hb)
                    have n1_ := Aside0.mk (bB3 BK368.out hb)
                    have n2_ := Aside0.mk (bB3 BK373.out hb)
                    have n3_ := Aside0.mk (bB3 BK377.out hb)
                    have n4_ := Aside0.mk (bB3 BK381.out hb)
                    have n5_ := Aside0.mk (bB3 BK384.out hb)
                    have n6_ := Aside0.mk (bB3 BK392.out hb)
                    have n7_ := Aside0.mk (bS3 HB.out hb)
                    clear BK367
                    clear BK368
                    clear BK373
                    clear BK377
                    clear BK381
                    clear BK384
                    clear BK392
                    clear HB
                    have BK367 := n0_
                    have BK368 := n1_
                    have BK373 := n2_
                    have BK377 := n3_
                    have BK381 := n4_
                    have BK384 := n5_
                    have BK392 := n6_
                    have HB := n7_
                    clear n0_ n1_ n2_ n3_ n4_ n5_ n6_ n7_
                    (try clear hb)
                    (try clear hb2)
                    (try clear hk)
                    (try clear hi)
                    refine hK.out _ _ ⟨(blk_cell BK384.out 0).trans rfl, (blk_cell BK384.out 1).trans rfl⟩ (fun hHeld => ?_)
                    clear hK K
                    refine norm_ (a' := ?_) ?_ ?_
                    rotate_left
                    · show Act.put _ (some 80) _ = _
                      simp only [Act.put, List.setIfInBounds_toArray, List.set_cons_zero, List.set_cons_succ, i64_w, i32_w]
                      rfl
                    refine pure_ (i := 5) (N := some 75) (v := ?_) (a' := ?_) #[true, true, true, true, true, true, false, false, true, false, false] rfl rfl (any_of HT_.out (by kernel_rfl)) (fun _ _ _ h => h) (Or.inl ⟨by rfl, ?_⟩) ?_ ?_
                    rotate_left
                    · intro w'
                      go_simp
                      with_reducible rfl
                    rotate_left
                    · simp only [Act.put, List.setIfInBounds_toArray, List.set_cons_zero, List.set_cons_succ, i64_w, i32_w]
                      rfl
                    refine pure_ (i := 6) (N := some 81) (v := ?_) (a' := ?_) #[true, true, true, true, true, true, true, false, true, false, false] rfl rfl (any_of HT_.out (by kernel_rfl)) (fun _ _ _ h => h) (Or.inl ⟨by rfl, ?_⟩) ?_ ?_
                    rotate_left
                    · intro w'
                      go_simp
                      with_reducible rfl
                    rotate_left
                    · simp only [Act.put, List.setIfInBounds_toArray, List.set_cons_zero, List.set_cons_succ, i64_w, i32_w]
                      rfl
                    refine pure_ (i := 7) (N := some 82) (v := ?_) (a' := ?_) #[true, true, true, true, true, true, true, true, true, false, false] rfl rfl (any_of HT_.out (by kernel_rfl)) (fun _ _ _ h => h) (Or.inl ⟨by rfl, ?_⟩) ?_ ?_
                    rotate_left
                    · intro w'
                      go_simp
                      with_reducible rfl
                    rotate_left
                    · simp only [Act.put, List.setIfInBounds_toArray, List.set_cons_zero, List.set_cons_succ, i64_w, i32_w]
                      rfl
                    exact norm_ (by simp only [putAll, Act.put, List.setIfInBounds_toArray, List.set_cons_zero, List.set_cons_succ]) (hCont (gb392) _ ⟨hHeld, (by (with_reducible repeat (first | refine bN ?_ _ | refine bD ?_ | refine bA ?_ _)); exact BK367.out), (by (with_reducible repeat (first | refine bN ?_ _ | refine bD ?_ | refine bA ?_ _)); exact BK368.out), (by (with_reducible repeat (first | refine bN ?_ _ | refine bD ?_ | refine bA ?_ _)); exact BK373.out), (by (with_reducible repeat (first | refine bN ?_ _ | refine bD ?_ | refine bA ?_ _)); exact BK377.out), (by (with_reducible repeat (first | refine bN ?_ _ | refine bD ?_ | refine bA ?_ _)); exact BK381.out), (by (with_reducible repeat (first | refine bN ?_ _ | refine bD ?_ | refine bA ?_ _)); exact BK384.out), (by (with_reducible repeat (first | refine bN ?_ _ | refine bD ?_ | refine bA ?_ _)); exact BK392.out), GW392.out, GE392.out, NB367_392.out, NB392_367.out, NB368_392.out, NB392_368.out, NB373_392.out, NB392_373.out, NB377_392.out, NB392_377.out, NB381_392.out, NB392_381.out, NB384_392.out, NB392_384.out, (by repeat (first | (with_reducible first | exact HB.out | apply pA | apply pN | apply p1 | refine pS ?_ GE367.out | refine pS ?_ GE368.out | refine pS ?_ GE373.out | refine pS ?_ GE377.out | refine pS ?_ GE381.out | refine pS ?_ GE384.out | refine pS ?_ GE392.out) | exact HB.out))⟩)
                · skip
                  refine box_step ?hg (N := 19) ?hd (cs := #[.int .u64 0, .int .u64 0]) (t := 25) ?hr ?_; (case hd => rfl); (case hg => rfl); (case hr => first | (go_simp; done) | (go_simp; rfl))
                  intro gb392 hg w152 hbox hb
                  have n0_ := Aside0.mk (bB3 BK367.out hb)
                  have n1_ := Aside0.mk (bB3 BK368.out hb)
                  have n2_ := Aside0.mk (bB3 BK373.out hb)
                  have n3_ := Aside0.mk (bB3 BK377.out hb)
                  have n4_ := Aside0.mk (bB3 BK381.out hb)
                  have n5_ := Aside0.mk (bB3 BK384.out hb)
                  have n6_ := Aside0.mk (bS3 HB.out hb)
                  have n7_ := Aside0.mk (hbox)
                  have n8_ := Aside0.mk ((bZ3 hg HB.out))
                  have n9_ := Aside0.mk ((bZ3 hg HB.out))
                  have n10_ := Aside0.mk ((bL3 hg BK367.out))
                  have n11_ := Aside0.mk ((bG3 hg BK367.out))
                  have n12_ := Aside0.mk ((bL3 hg BK368.out))
                  have n13_ := Aside0.mk ((bG3 hg BK368.out))
                  have n14_ := Aside0.mk ((bL3 hg BK373.out))
                  have n15_ := Aside0.mk ((bG3 hg BK373.out))
                  have n16_ := Aside0.mk ((bL3 hg BK377.out))
                  have n17_ := Aside0.mk ((bG3 hg BK377.out))
                  have n18_ := Aside0.mk ((bL3 hg BK381.out))
                  have n19_ := Aside0.mk ((bG3 hg BK381.out))
                  have n20_ := Aside0.mk ((bL3 hg BK384.out))
                  have n21_ := Aside0.mk ((bG3 hg BK384.out))
                  clear BK367
                  clear BK368
                  clear BK373
                  clear BK377
                  clear BK381
                  clear BK384
                  clear HB
                  have BK367 := n0_
                  have BK368 := n1_
                  have BK373 := n2_
                  have BK377 := n3_
                  have BK381 := n4_
                  have BK384 := n5_
                  have HB := n6_
                  have BK392 := n7_
                  have GW392 := n8_
                  have GE392 := n9_
                  have NB367_392 := n10_
                  have NB392_367 := n11_
                  have NB368_392 := n12_
                  have NB392_368 := n13_
                  have NB373_392 := n14_
                  have NB392_373 := n15_
                  have NB377_392 := n16_
                  have NB392_377 := n17_
                  have NB381_392 := n18_
                  have NB392_381 := n19_
                  have NB384_392 := n20_
                  have NB392_384 := n21_
                  clear n0_ n1_ n2_ n3_ n4_ n5_ n6_ n7_ n8_ n9_ n10_ n11_ n12_ n13_ n14_ n15_ n16_ n17_ n18_ n19_ n20_ n21_
                  clear hb hbox hg
                  refine hK.out _ _ ⟨(blk_cell BK384.out 0).trans rfl, (blk_cell BK384.out 1).trans rfl⟩ (fun hHeld => ?_)
                  clear hK K
                  refine norm_ (a' := ?_) ?_ ?_
                  rotate_left
                  · show Act.put _ (some 19) _ = _
                    simp only [Act.put, List.setIfInBounds_toArray, List.set_cons_zero, List.set_cons_succ, i64_w, i32_w]
                    rfl
                  refine one_ (i := 3) (N := some 79) #[true, true, true, true, false, false, false, false, true, false, false] rfl rfl (one_of HT_.out (by kernel_rfl)) (by decide) (fun K hK => ?_)
                  refine goes_ Try.func23 (by kernel_rfl) rfl #[.int .u64 a2, .int .u64 a4] (by rfl) rfl rfl (by (try simp only [List.map_toArray, List.map_cons, List.map_nil]); first | done | rfl | (simp only [List.length_drop, List.length_take]; rfl)) ?_
                  with_reducible refine (twin_Mul.calls a2 a4 t387 t388 _ A116.out).mono ?_
                  rintro e w153 ⟨rfl, hb⟩
                  refine ⟨_, rfl, ?_⟩
                  have n0_ := Aside0.mk (bB3 BK367.out hb)
                  have n1_ := Aside0.mk (bB3 BK368.out hb)
                  have n2_ := Aside0.mk (bB3 BK373.out hb)
                  have n3_ := Aside0.mk (bB3 BK377.out hb)
                  have n4_ := Aside0.mk (bB3 BK381.out hb)
                  have n5_ := Aside0.mk (bB3 BK384.out hb)
                  have n6_ := Aside0.mk (bB3 BK392.out hb)
                  have n7_ := Aside0.mk (bS3 HB.out hb)
                  clear BK367
                  clear BK368
                  clear BK373
                  clear BK377
                  clear BK381
                  clear BK384
                  clear BK392
                  clear HB
                  have BK367 := n0_
                  have BK368 := n1_
                  have BK373 := n2_
                  have BK377 := n3_
                  have BK381 := n4_
                  have BK384 := n5_
                  have BK392 := n6_
                  have HB := n7_
                  clear n0_ n1_ n2_ n3_ n4_ n5_ n6_ n7_
                  (try clear hb)
                  (try clear hb2)
                  (try clear hk)
                  (try clear hi)
                  refine hK.out _ _ ⟨(blk_cell BK384.out 0).trans rfl, (blk_cell BK384.out 1).trans rfl⟩ (fun hHeld => ?_)
                  clear hK K
                  refine norm_ (a' := ?_) ?_ ?_
                  rotate_left
                  · show Act.put _ (some 79) _ = _
                    simp only [Act.put, List.setIfInBounds_toArray, List.set_cons_zero, List.set_cons_succ, i64_w, i32_w]
                    rfl
                  refine one_ (i := 4) (N := some 80) #[true, true, true, true, true, false, false, false, true, false, false] rfl rfl (one_of HT_.out (by kernel_rfl)) (by decide) (fun K hK => ?_)
                  refine goes_ Try.func35 (by kernel_rfl) rfl #[.agg #[.int .u64 t382, .int .u64 t383], .agg #[.int .u64 t387, .int .u64 t388]] (by rfl) rfl rfl (by (try simp only [List.map_toArray, List.map_cons, List.map_nil]); first | done | rfl | (simp only [List.length_drop, List.length_take]; rfl)) ?_
                  with_reducible refine (twin_Add.calls t382 t383 t387 t388 t389 t390 false _ A117.out).mono ?_
                  rintro e w154 ⟨rfl, hb⟩
                  refine ⟨_, rfl, ?_⟩
                  have n0_ := Aside0.mk (bB3 BK367.out hb)
                  have n1_ := Aside0.mk (bB3 BK368.out hb)
                  have n2_ := Aside0.mk (bB3 BK373.out hb)
                  have n3_ := Aside0.mk (bB3 BK377.out hb)
                  have n4_ := Aside0.mk (bB3 BK381.out hb)
                  have n5_ := Aside0.mk (bB3 BK384.out hb)
                  have n6_ := Aside0.mk (bB3 BK392.out hb)
                  have n7_ := Aside0.mk (bS3 HB.out hb)
                  clear BK367
                  clear BK368
                  clear BK373
                  clear BK377
                  clear BK381
                  clear BK384
                  clear BK392
                  clear HB
                  have BK367 := n0_
                  have BK368 := n1_
                  have BK373 := n2_
                  have BK377 := n3_
                  have BK381 := n4_
                  have BK384 := n5_
                  have BK392 := n6_
                  have HB := n7_
                  clear n0_ n1_ n2_ n3_ n4_ n5_ n6_ n7_
                  (try clear hb)
                  (try clear hb2)
                  (try clear hk)
                  (try clear hi)
                  refine hK.out _ _ ⟨(blk_cell BK384.out 0).trans rfl, (blk_cell BK384.out 1).trans rfl⟩ (fun hHeld => ?_)
                  clear hK K
                  refine norm_ (a' := ?_) ?_ ?_
                  rotate_left
                  · show Act.put _ (some 80) _ = _
                    simp only [Act.put, List.setIfInBounds_toArray, List.set_cons_zero, List.set_cons_succ, i64_w, i32_w]
                    rfl
                  refine pure_ (i := 5) (N := some 75) (v := ?_) (a' := ?_) #[true, true, true, true, true, true, false, false, true, false, false] rfl rfl (any_of HT_.out (by kernel_rfl)) (fun _ _ _ h => h) (Or.inl ⟨by rfl, ?_⟩) ?_ ?_
                  rotate_left
                  · intro w'
                    go_simp
                    with_reducible rfl
                  rotate_left
                  · simp only [Act.put, List.setIfInBounds_toArray, List.set_cons_zero, List.set_cons_succ, i64_w, i32_w]
                    rfl
                  refine pure_ (i := 6) (N := some 81) (v := ?_) (a' := ?_) #[true, true, true, true, true, true, true, false, true, false, false] rfl rfl (any_of HT_.out (by kernel_rfl)) (fun _ _ _ h => h) (Or.inl ⟨by rfl, ?_⟩) ?_ ?_
                  rotate_left
                  · intro w'
                    go_simp
                    with_reducible rfl
                  rotate_left
                  · simp only [Act.put, List.setIfInBounds_toArray, List.set_cons_zero, List.set_cons_succ, i64_w, i32_w]
                    rfl
                  refine pure_ (i := 7) (N := some 82) (v := ?_) (a' := ?_) #[true, true, true, true, true, true, true, true, true, false, false] rfl rfl (any_of HT_.out (by kernel_rfl)) (fun _ _ _ h => h) (Or.inl ⟨by rfl, ?_⟩) ?_ ?_
                  rotate_left
                  · intro w'
                    go_simp
                    with_reducible rfl
                  rotate_left
                  · simp only [Act.put, List.setIfInBounds_toArray, List.set_cons_zero, List.set_cons_succ, i64_w, i32_w]
                    rfl
                  exact norm_ (by simp only [putAll, Act.put, List.setIfInBounds_toArray, List.set_cons_zero, List.set_cons_succ]) (hCont (gb392) _ ⟨hHeld, (by (with_reducible repeat (first | refine bN ?_ _ | refine bD ?_ | refine bA ?_ _)); exact BK367.out), (by (with_reducible repeat (first | refine bN ?_ _ | refine bD ?_ | refine bA ?_ _)); exact BK368.out), (by (with_reducible repeat (first | refine bN ?_ _ | refine bD ?_ | refine bA ?_ _)); exact BK373.out), (by (with_reducible repeat (first | refine bN ?_ _ | refine bD ?_ | refine bA ?_ _)); exact BK377.out), (by (with_reducible repeat (first | refine bN ?_ _ | refine bD ?_ | refine bA ?_ _)); exact BK381.out), (by (with_reducible repeat (first | refine bN ?_ _ | refine bD ?_ | refine bA ?_ _)); exact BK384.out), (by (with_reducible repeat (first | refine bN ?_ _ | refine bD ?_ | refine bA ?_ _)); exact BK392.out), GW392.out, GE392.out, NB367_392.out, NB392_367.out, NB368_392.out, NB392_368.out, NB373_392.out, NB392_373.out, NB377_392.out, NB392_377.out, NB381_392.out, NB392_381.out, NB384_392.out, NB392_384.out, (by repeat (first | (with_reducible first | exact HB.out | apply pA | apply pN | apply p1 | refine pS ?_ GE367.out | refine pS ?_ GE368.out | refine pS ?_ GE373.out | refine pS ?_ GE377.out | refine pS ?_ GE381.out | refine pS ?_ GE384.out | refine pS ?_ GE392.out) | exact HB.out))⟩)
              rintro gb392 w155 ⟨hS_, h0_, h1_, h2_, h3_, h4_, h5_, h6_, h7_, h8_, h9_, h10_, h11_, h12_, h13_, h14_, h15_, h16_, h17_, h18_, h19_, h20_, h21_⟩
              have n0_ : Aside0 (w155.heap[gb367]? = some (.cells #[.int .u64 a0_0, .int .u64 a0_1] 25 (0, 0))) := ⟨h0_⟩
              have n1_ : Aside0 (w155.heap[gb368]? = some (.cells #[.int .u64 a1_0, .int .u64 a1_1] 25 (0, 0))) := ⟨h1_⟩
              have n2_ : Aside0 (w155.heap[gb373]? = some (.cells #[.int .u64 t370, .int .u64 t371] 25 (0, 0))) := ⟨h2_⟩
              have n3_ : Aside0 (w155.heap[gb377]? = some (.cells #[.int .u64 t374, .int .u64 t375] 25 (0, 0))) := ⟨h3_⟩
              have n4_ : Aside0 (w155.heap[gb381]? = some (.cells #[.int .u64 t378, .int .u64 t379] 25 (0, 0))) := ⟨h4_⟩
              have n5_ : Aside0 (w155.heap[gb384]? = some (.cells #[.int .u64 t382, .int .u64 t383] 25 (0, 0))) := ⟨h5_⟩
              have n6_ : Aside0 (w155.heap[gb392]? = some (.cells #[.int .u64 0, .int .u64 0] 25 (0, 0))) := ⟨h6_⟩
              have n7_ : Aside0 (w.heap.size ≤ gb392) := ⟨h7_⟩
              have n8_ : Aside0 (w.heap.size ≤ gb392) := ⟨h8_⟩
              have n9_ : Aside0 (gb367 ≠ gb392) := ⟨h9_⟩
              have n10_ : Aside0 (gb392 ≠ gb367) := ⟨h10_⟩
              have n11_ : Aside0 (gb368 ≠ gb392) := ⟨h11_⟩
              have n12_ : Aside0 (gb392 ≠ gb368) := ⟨h12_⟩
              have n13_ : Aside0 (gb373 ≠ gb392) := ⟨h13_⟩
              have n14_ : Aside0 (gb392 ≠ gb373) := ⟨h14_⟩
              have n15_ : Aside0 (gb377 ≠ gb392) := ⟨h15_⟩
              have n16_ : Aside0 (gb392 ≠ gb377) := ⟨h16_⟩
              have n17_ : Aside0 (gb381 ≠ gb392) := ⟨h17_⟩
              have n18_ : Aside0 (gb392 ≠ gb381) := ⟨h18_⟩
              have n19_ : Aside0 (gb384 ≠ gb392) := ⟨h19_⟩
              have n20_ : Aside0 (gb392 ≠ gb384) := ⟨h20_⟩
              have n21_ : Aside0 (Below w.heap.size w w155) := ⟨h21_⟩
              clear BK367
              clear BK368
              clear BK373
              clear BK377
              clear BK381
              clear BK384
              clear HB
              clear h0_ h1_ h2_ h3_ h4_ h5_ h6_ h7_ h8_ h9_ h10_ h11_ h12_ h13_ h14_ h15_ h16_ h17_ h18_ h19_ h20_ h21_
              have BK367 := n0_
              have BK368 := n1_
              have BK373 := n2_
              have BK377 := n3_
              have BK381 := n4_
              have BK384 := n5_
              have BK392 := n6_
              have GW392 := n7_
              have GE392 := n8_
              have NB367_392 := n9_
              have NB392_367 := n10_
              have NB368_392 := n11_
              have NB392_368 := n12_
              have NB373_392 := n13_
              have NB392_373 := n14_
              have NB377_392 := n15_
              have NB392_377 := n16_
              have NB381_392 := n17_
              have NB392_381 := n18_
              have NB384_392 := n19_
              have NB392_384 := n20_
              have HB := n21_
              clear n0_ n1_ n2_ n3_ n4_ n5_ n6_ n7_ n8_ n9_ n10_ n11_ n12_ n13_ n14_ n15_ n16_ n17_ n18_ n19_ n20_ n21_
              have hHeld : w155.cell? ⟨gb384, 0, none⟩ = some (.int .u64 t382) ∧ w155.cell? ⟨gb384, 1, none⟩ = some (.int .u64 t383) := hS_
              refine norm_ (a' := ?_) ?_ ?_
              rotate_left
              · simp only [putAll, Act.put, List.setIfInBounds_toArray, List.set_cons_zero, List.set_cons_succ]
                rfl
              refine one_ (i := 9) (N := none) #[true, true, true, true, true, true, true, true, true, true, false] rfl rfl (one_of HT_.out (by kernel_rfl)) (by decide) (fun K hK => ?_)
              have hs156 : w155.cell? ⟨gb392, 0, none⟩ = some (.int .u64 0) := (blk_cell BK392.out 0).trans rfl
              have hfs156 := blk_frozen BK392.out 0
              have hns156_0 := NB367_392.out
              have hns156_1 := NB368_392.out
              have hns156_2 := NB373_392.out
              have hns156_3 := NB377_392.out
              have hns156_4 := NB381_392.out
              have hns156_5 := NB384_392.out
              have hms156_0 := NB392_367.out
              have hms156_1 := NB392_368.out
              have hms156_2 := NB392_373.out
              have hms156_3 := NB392_377.out
              have hms156_4 := NB392_381.out
              have hms156_5 := NB392_384.out
              have hs157 : w155.cell? ⟨gb392, 1, none⟩ = some (.int .u64 0) := (blk_cell BK392.out 1).trans rfl
              have hfs157 := blk_frozen BK392.out 1
              have hns157_0 := NB367_392.out
              have hns157_1 := NB368_392.out
              have hns157_2 := NB373_392.out
              have hns157_3 := NB377_392.out
              have hns157_4 := NB381_392.out
              have hns157_5 := NB384_392.out
              have hms157_0 := NB392_367.out
              have hms157_1 := NB392_368.out
              have hms157_2 := NB392_373.out
              have hms157_3 := NB392_377.out
              have hms157_4 := NB392_381.out
              have hms157_5 := NB392_384.out
              refine skip_ (w1 := ?_) (by rfl) rfl ?_ ?_
              rotate_left
              · go_simp
                rfl
              refine hK.out _ _ ⟨((cell_far (p := ⟨gb392, _, none⟩) NB384_392.out _).trans (((cell_far (p := ⟨gb392, _, none⟩) NB384_392.out _).trans (hHeld.1)))), ((cell_far (p := ⟨gb392, _, none⟩) NB384_392.out _).trans (((cell_far (p := ⟨gb392, _, none⟩) NB384_392.out _).trans (hHeld.2))))⟩ (fun hHeld => ?_)
              clear hK K
              refine pure_ (i := 10) (N := some 20) (v := ?_) (a' := ?_) #[true, true, true, true, true, true, true, true, true, true, true] rfl rfl (any_of HT_.out (by kernel_rfl)) (fun _ _ _ h => h) (Or.inl ⟨by rfl, ?_⟩) ?_ ?_
              rotate_left
              · intro w'
                go_simp
                with_reducible rfl
              rotate_left
              · simp only [Act.put, List.setIfInBounds_toArray, List.set_cons_zero, List.set_cons_succ, i64_w, i32_w]
                rfl
              refine done_ (done_of HT_.out (by kernel_rfl)) ?_
              try go_wp2
              have n0_ : Aside0 (((w155.setCell ⟨gb392, 0, none⟩ (.int .u64 t389)).setCell ⟨gb392, 1, none⟩ (.int .u64 t390)).heap[gb367]? = some (.cells #[.int .u64 a0_0, .int .u64 a0_1] 25 (0, 0))) := ⟨by (with_reducible repeat (first | refine bN ?_ _ | refine bD ?_ | refine bA ?_ _)); refine blk_far ?_ NB367_392.out _; (with_reducible repeat (first | refine bN ?_ _ | refine bD ?_ | refine bA ?_ _)); refine blk_far ?_ NB367_392.out _; (with_reducible repeat (first | refine bN ?_ _ | refine bD ?_ | refine bA ?_ _)); exact BK367.out⟩
              have n1_ : Aside0 (((w155.setCell ⟨gb392, 0, none⟩ (.int .u64 t389)).setCell ⟨gb392, 1, none⟩ (.int .u64 t390)).heap[gb368]? = some (.cells #[.int .u64 a1_0, .int .u64 a1_1] 25 (0, 0))) := ⟨by (with_reducible repeat (first | refine bN ?_ _ | refine bD ?_ | refine bA ?_ _)); refine blk_far ?_ NB368_392.out _; (with_reducible repeat (first | refine bN ?_ _ | refine bD ?_ | refine bA ?_ _)); refine blk_far ?_ NB368_392.out _; (with_reducible repeat (first | refine bN ?_ _ | refine bD ?_ | refine bA ?_ _)); exact BK368.out⟩
              have n2_ : Aside0 (((w155.setCell ⟨gb392, 0, none⟩ (.int .u64 t389)).setCell ⟨gb392, 1, none⟩ (.int .u64 t390)).heap[gb373]? = some (.cells #[.int .u64 t370, .int .u64 t371] 25 (0, 0))) := ⟨by (with_reducible repeat (first | refine bN ?_ _ | refine bD ?_ | refine bA ?_ _)); refine blk_far ?_ NB373_392.out _; (with_reducible repeat (first | refine bN ?_ _ | refine bD ?_ | refine bA ?_ _)); refine blk_far ?_ NB373_392.out _; (with_reducible repeat (first | refine bN ?_ _ | refine bD ?_ | refine bA ?_ _)); exact BK373.out⟩
              have n3_ : Aside0 (((w155.setCell ⟨gb392, 0, none⟩ (.int .u64 t389)).setCell ⟨gb392, 1, none⟩ (.int .u64 t390)).heap[gb377]? = some (.cells #[.int .u64 t374, .int .u64 t375] 25 (0, 0))) := ⟨by (with_reducible repeat (first | refine bN ?_ _ | refine bD ?_ | refine bA ?_ _)); refine blk_far ?_ NB377_392.out _; (with_reducible repeat (first | refine bN ?_ _ | refine bD ?_ | refine bA ?_ _)); refine blk_far ?_ NB377_392.out _; (with_reducible repeat (first | refine bN ?_ _ | refine bD ?_ | refine bA ?_ _)); exact BK377.out⟩
              have n4_ : Aside0 (((w155.setCell ⟨gb392, 0, none⟩ (.int .u64 t389)).setCell ⟨gb392, 1, none⟩ (.int .u64 t390)).heap[gb381]? = some (.cells #[.int .u64 t378, .int .u64 t379] 25 (0, 0))) := ⟨by (with_reducible repeat (first | refine bN ?_ _ | refine bD ?_ | refine bA ?_ _)); refine blk_far ?_ NB381_392.out _; (with_reducible repeat (first | refine bN ?_ _ | refine bD ?_ | refine bA ?_ _)); refine blk_far ?_ NB381_392.out _; (with_reducible repeat (first | refine bN ?_ _ | refine bD ?_ | refine bA ?_ _)); exact BK381.out⟩
              have n5_ : Aside0 (((w155.setCell ⟨gb392, 0, none⟩ (.int .u64 t389)).setCell ⟨gb392, 1, none⟩ (.int .u64 t390)).heap[gb384]? = some (.cells #[.int .u64 t382, .int .u64 t383] 25 (0, 0))) := ⟨by (with_reducible repeat (first | refine bN ?_ _ | refine bD ?_ | refine bA ?_ _)); refine blk_far ?_ NB384_392.out _; (with_reducible repeat (first | refine bN ?_ _ | refine bD ?_ | refine bA ?_ _)); refine blk_far ?_ NB384_392.out _; (with_reducible repeat (first | refine bN ?_ _ | refine bD ?_ | refine bA ?_ _)); exact BK384.out⟩
              have n6_ : Aside0 (((w155.setCell ⟨gb392, 0, none⟩ (.int .u64 t389)).setCell ⟨gb392, 1, none⟩ (.int .u64 t390)).heap[gb392]? = some (.cells #[.int .u64 t389, .int .u64 t390] 25 (0, 0))) := ⟨by (with_reducible repeat (first | refine bN ?_ _ | refine bD ?_ | refine bA ?_ _)); refine blk_put (cs := #[.int .u64 t389, .int .u64 0]) ?_ 1 _ rfl; (with_reducible repeat (first | refine bN ?_ _ | refine bD ?_ | refine bA ?_ _)); refine blk_put (cs := #[.int .u64 0, .int .u64 0]) ?_ 0 _ rfl; (with_reducible repeat (first | refine bN ?_ _ | refine bD ?_ | refine bA ?_ _)); exact BK392.out⟩
              have n7_ : Aside0 (Below w.heap.size w ((w155.setCell ⟨gb392, 0, none⟩ (.int .u64 t389)).setCell ⟨gb392, 1, none⟩ (.int .u64 t390))) := ⟨by repeat (first | (with_reducible first | exact HB.out | apply pA | apply pN | apply p1 | refine pS ?_ GE367.out | refine pS ?_ GE368.out | refine pS ?_ GE373.out | refine pS ?_ GE377.out | refine pS ?_ GE381.out | refine pS ?_ GE384.out | refine pS ?_ GE392.out) | exact HB.out)⟩
              (try clear BK367)
              (try clear BK368)
              (try clear BK373)
              (try clear BK377)
              (try clear BK381)
              (try clear BK384)
              (try clear BK392)
              (try clear HB)
              generalize ((w155.setCell ⟨gb392, 0, none⟩ (.int .u64 t389)).setCell ⟨gb392, 1, none⟩ (.int .u64 t390)) = w158 at n0_ n1_ n2_ n3_ n4_ n5_ n6_ n7_ ⊢
              have BK367 := n0_
              have BK368 := n1_
              have BK373 := n2_
              have BK377 := n3_
              have BK381 := n4_
              have BK384 := n5_
              have BK392 := n6_
              have HB := n7_
              clear n0_ n1_ n2_ n3_ n4_ n5_ n6_ n7_
              have n0_ := Aside0.mk (bD BK367.out)
              have n1_ := Aside0.mk (bD BK368.out)
              have n2_ := Aside0.mk (bD BK373.out)
              have n3_ := Aside0.mk (bD BK377.out)
              have n4_ := Aside0.mk (bD BK381.out)
              have n5_ := Aside0.mk (bD BK384.out)
              have n6_ := Aside0.mk (bD BK392.out)
              have n7_ := Aside0.mk (p1 HB.out)
              clear BK367
              clear BK368
              clear BK373
              clear BK377
              clear BK381
              clear BK384
              clear BK392
              clear HB
              have BK367 := n0_
              have BK368 := n1_
              have BK373 := n2_
              have BK377 := n3_
              have BK381 := n4_
              have BK384 := n5_
              have BK392 := n6_
              have HB := n7_
              clear n0_ n1_ n2_ n3_ n4_ n5_ n6_ n7_
              refine start_ (n := 12) (S := fun w' => w'.cell? ⟨gb392, 0, none⟩ = some (.int .u64 t389) ∧ w'.cell? ⟨gb392, 1, none⟩ = some (.int .u64 t390)) (ds := []) #[false, false, false, false, false, false, false, false, false, false, false, false] (by kernel_rfl) rfl rfl ⟨(blk_cell BK392.out 0).trans rfl, (blk_cell BK392.out 1).trans rfl⟩ (fun hHeld => ?_); refine with_tabW vernierlaw02_TwinRing.tab13 vernierlaw02_TwinRing.bits13 (fun HT_ HW_ => ?_)
              generalize w158.drew = w159 at BK367 BK368 BK373 BK377 BK381 BK384 BK392 HB hHeld ⊢
              refine pure_ (i := 0) (N := some 83) (v := ?_) (a' := ?_) #[true, false, false, false, false, false, false, false, false, false, false, false] rfl rfl (any_of HT_.out (by kernel_rfl)) (fun _ _ _ h => h) (Or.inl ⟨by rfl, ?_⟩) ?_ ?_
              rotate_left
              · intro w'
                go_simp
                with_reducible rfl
              rotate_left
              · simp only [Act.put, List.setIfInBounds_toArray, List.set_cons_zero, List.set_cons_succ, i64_w, i32_w]
                rfl
              refine pure_ (i := 1) (N := some 84) (v := ?_) (a' := ?_) #[true, true, false, false, false, false, false, false, false, false, false, false] rfl rfl (any_of HT_.out (by kernel_rfl)) (fun _ _ _ h => h) (Or.inl ⟨by rfl, ?_⟩) ?_ ?_
              rotate_left
              · intro w'
                go_simp
                with_reducible rfl
              rotate_left
              · simp only [Act.put, List.setIfInBounds_toArray, List.set_cons_zero, List.set_cons_succ, i64_w, i32_w]
                rfl
              refine pure_ (i := 2) (N := some 85) (v := ?_) (a' := ?_) #[true, true, true, false, false, false, false, false, false, false, false, false] rfl rfl (any_of HT_.out (by kernel_rfl)) (fun _ _ _ h => h) (Or.inl ⟨by rfl, ?_⟩) ?_ ?_
              rotate_left
              · intro w'
                go_simp
                with_reducible rfl
              rotate_left
              · simp only [Act.put, List.setIfInBounds_toArray, List.set_cons_zero, List.set_cons_succ, i64_w, i32_w]
                rfl
              refine pure_ (i := 4) (N := some 87) (v := ?_) (a' := ?_) #[true, true, true, false, true, false, false, false, false, false, false, false] rfl rfl (any_of HT_.out (by kernel_rfl)) (fun _ _ _ h => h) (Or.inl ⟨by rfl, ?_⟩) ?_ ?_
              rotate_left
              · intro w'
                go_simp
                with_reducible rfl
              rotate_left
              · simp only [Act.put, List.setIfInBounds_toArray, List.set_cons_zero, List.set_cons_succ, i64_w, i32_w]
                rfl
              refine pure_ (i := 5) (N := some 88) (v := ?_) (a' := ?_) #[true, true, true, false, true, true, false, false, false, false, false, false] rfl rfl (any_of HT_.out (by kernel_rfl)) (fun _ _ _ h => h) (Or.inl ⟨by rfl, ?_⟩) ?_ ?_
              rotate_left
              · intro w'
                go_simp
                with_reducible rfl
              rotate_left
              · simp only [Act.put, List.setIfInBounds_toArray, List.set_cons_zero, List.set_cons_succ, i64_w, i32_w]
                rfl
              refine pure_ (i := 6) (N := some 89) (v := ?_) (a' := ?_) #[true, true, true, false, true, true, true, false, false, false, false, false] rfl rfl (any_of HT_.out (by kernel_rfl)) (fun _ _ _ h => h) (Or.inl ⟨by rfl, ?_⟩) ?_ ?_
              rotate_left
              · intro w'
                go_simp
                with_reducible rfl
              rotate_left
              · simp only [Act.put, List.setIfInBounds_toArray, List.set_cons_zero, List.set_cons_succ, i64_w, i32_w]
                rfl
              refine pure_ (i := 7) (N := some 90) (v := ?_) (a' := ?_) #[true, true, true, false, true, true, true, true, false, false, false, false] rfl rfl (any_of HT_.out (by kernel_rfl)) (fun _ _ _ h => h) (Or.inl ⟨by rfl, ?_⟩) ?_ ?_
              rotate_left
              · intro w'
                go_simp
                with_reducible rfl
              rotate_left
              · simp only [Act.put, List.setIfInBounds_toArray, List.set_cons_zero, List.set_cons_succ, i64_w, i32_w]
                rfl
              refine take_ (i := 3) (N := some 86) (v := ?_) (a' := ?_) #[true, true, true, true, true, true, true, true, false, false, false, false] rfl rfl (take_ofW HT_.out HW_.out (by kernel_rfl)) (fun _ _ _ h => h) (Or.inl ⟨by rfl, ?_⟩) hHeld ?_ ?_
              rotate_left
              · rintro w' ⟨s0, s1⟩
                go_simp
                with_reducible rfl
              rotate_left
              · simp only [Act.put, List.setIfInBounds_toArray, List.set_cons_zero, List.set_cons_succ, i64_w, i32_w]
                rfl
              refine one_ (i := 8) (N := some 91) #[true, true, true, true, true, true, true, true, true, false, false, false] rfl rfl (one_of HT_.out (by kernel_rfl)) (by decide) (fun K hK => ?_)
              refine goes_ Try.func23 (by kernel_rfl) rfl #[.int .u64 a2, .int .u64 (IntKind.u64.wrap (a3 + a4))] (by rfl) rfl rfl (by (try simp only [List.map_toArray, List.map_cons, List.map_nil]); first | done | rfl | (simp only [List.length_drop, List.length_take]; rfl)) ?_
              with_reducible refine (twin_Mul.calls a2 (IntKind.u64.wrap (a3 + a4)) t393 t394 _ A139.out).mono ?_
              rintro e w160 ⟨rfl, hb⟩
              refine ⟨_, rfl, ?_⟩
              have n0_ := Aside0.mk (bB3 BK367.out hb)
              have n1_ := Aside0.mk (bB3 BK368.out hb)
              have n2_ := Aside0.mk (bB3 BK373.out hb)
              have n3_ := Aside0.mk (bB3 BK377.out hb)
              have n4_ := Aside0.mk (bB3 BK381.out hb)
              have n5_ := Aside0.mk (bB3 BK384.out hb)
              have n6_ := Aside0.mk (bB3 BK392.out hb)
              have n7_ := Aside0.mk (bS3 HB.out hb)
              clear BK367
              clear BK368
              clear BK373
              clear BK377
              clear BK381
              clear BK384
              clear BK392
              clear HB
              have BK367 := n0_
              have BK368 := n1_
              have BK373 := n2_
              have BK377 := n3_
              have BK381 := n4_
              have BK384 := n5_
              have BK392 := n6_
              have HB := n7_
              clear n0_ n1_ n2_ n3_ n4_ n5_ n6_ n7_
              (try clear hb)
              (try clear hb2)
              (try clear hk)
              (try clear hi)
              refine hK.out _ _ ⟨(blk_cell BK392.out 0).trans rfl, (blk_cell BK392.out 1).trans rfl⟩ (fun hHeld => ?_)
              clear hK K
              refine norm_ (a' := ?_) ?_ ?_
              rotate_left
              · show Act.put _ (some 91) _ = _
                simp only [Act.put, List.setIfInBounds_toArray, List.set_cons_zero, List.set_cons_succ, i64_w, i32_w]
                rfl
              refine pure_ (i := 9) (N := some 92) (v := ?_) (a' := ?_) #[true, true, true, true, true, true, true, true, true, true, false, false] rfl rfl (any_of HT_.out (by kernel_rfl)) (fun _ _ _ h => h) (Or.inl ⟨by rfl, ?_⟩) ?_ ?_
              rotate_left
              · intro w'
                go_simp
                with_reducible rfl
              rotate_left
              · simp only [Act.put, List.setIfInBounds_toArray, List.set_cons_zero, List.set_cons_succ, i64_w, i32_w]
                rfl
              refine pure_ (i := 10) (N := some 93) (v := ?_) (a' := ?_) #[true, true, true, true, true, true, true, true, true, true, true, false] rfl rfl (any_of HT_.out (by kernel_rfl)) (fun _ _ _ h => h) (Or.inl ⟨by rfl, ?_⟩) ?_ ?_
              rotate_left
              · intro w'
                go_simp
                with_reducible rfl
              rotate_left
              · simp only [Act.put, List.setIfInBounds_toArray, List.set_cons_zero, List.set_cons_succ, i64_w, i32_w]
                rfl
              refine pure_ (i := 11) (N := some 10) (v := ?_) (a' := ?_) #[true, true, true, true, true, true, true, true, true, true, true, true] rfl rfl (any_of HT_.out (by kernel_rfl)) (fun _ _ _ h => h) (Or.inl ⟨by rfl, ?_⟩) ?_ ?_
              rotate_left
              · intro w'
                go_simp
                with_reducible rfl
              rotate_left
              · simp only [Act.put, List.setIfInBounds_toArray, List.set_cons_zero, List.set_cons_succ, i64_w, i32_w]
                rfl
              refine done_ (done_of HT_.out (by kernel_rfl)) ?_
              try go_wp2
              go_ret
              exact ⟨by first | rfl | (simp [errW_none, errW_some] <;> rfl) | (simp [*, errW_none, errW_some] <;> rfl), by repeat (first | (with_reducible first | exact HB.out | apply pA | apply pN | apply p1 | refine pS ?_ GE367.out | refine pS ?_ GE368.out | refine pS ?_ GE373.out | refine pS ?_ GE377.out | refine pS ?_ GE381.out | refine pS ?_ GE384.out | refine pS ?_ GE392.out) | exact HB.out)⟩

/-- THE ONE PURE STATEMENT of vernierlaw02_TwinRing: yours. -/
def vernierlaw02_TwinRing.Pure : Prop := ∀ (a0_0 : Int) (a0_1 : Int) (a1_0 : Int) (a1_1 : Int) (a2 : Int) (a3 : Int) (a4 : Int), (Lit.int .u64 a0_0).wf = true → (Lit.int .u64 a0_1).wf = true → (Lit.int .u64 a1_0).wf = true → (Lit.int .u64 a1_1).wf = true → (Lit.int .u64 a2).wf = true → (Lit.int .u64 a3).wf = true → (Lit.int .u64 a4).wf = true → ∃ k, vernierlaw02_TwinRing.f k a0_0 a0_1 a1_0 a1_1 a2 a3 a4 = some true
theorem vernierlaw02_TwinRing.walk (P : vernierlaw02_TwinRing.Pure) (a0_0 : Int) (a0_1 : Int) (a1_0 : Int) (a1_1 : Int) (a2 : Int) (a3 : Int) (a4 : Int) (w : World) (w0_0 : (Lit.int .u64 a0_0).wf = true) (w0_1 : (Lit.int .u64 a0_1).wf = true) (w1_0 : (Lit.int .u64 a1_0).wf = true) (w1_1 : (Lit.int .u64 a1_1).wf = true) (w2 : (Lit.int .u64 a2).wf = true) (w3 : (Lit.int .u64 a3).wf = true) (w4 : (Lit.int .u64 a4).wf = true) :
    Calls Try.prog 9 #[.agg #[.int .u64 a0_0, .int .u64 a0_1], .agg #[.int .u64 a1_0, .int .u64 a1_1], .int .u64 a2, .int .u64 a3, .int .u64 a4] w fun e w' => e = .returned (.bool true) ∧ Below w.heap.size w w' := by
  obtain ⟨k, h⟩ := P a0_0 a0_1 a1_0 a1_1 a2 a3 a4 w0_0 w0_1 w1_0 w1_1 w2 w3 w4
  refine (vernierlaw02_TwinRing.calls k a0_0 a0_1 a1_0 a1_1 a2 a3 a4 true w h).mono ?_
  rintro e w' ⟨rfl, hd⟩
  exact ⟨rfl, hd⟩

end Go.Proofs.Ytjbcfiigafbobaa.F
