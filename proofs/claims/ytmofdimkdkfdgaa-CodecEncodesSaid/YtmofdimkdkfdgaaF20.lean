/- Functions of the given program as plain Lean functions, and for each a proof that the program's call comes to just these answers; no further conditions. (Written by a program of this repo out of the translation.) -/
import Derived.Test.YtmofdimkdkfdgaaF0
import Derived.Test.YtmofdimkdkfdgaaF2
import Derived.Test.YtmofdimkdkfdgaaF10
import Derived.Test.YtmofdimkdkfdgaaF11
import Derived.Test.YtmofdimkdkfdgaaF12
import Derived.Test.YtmofdimkdkfdgaaF19
namespace Go.Proofs.Ytmofdimkdkfdgaa.F
open Go.RowKit Go.Proofs.YtmofdimkdkfdgaaW.PrintWords Go.Proofs.YtmofdimkdkfdgaaW.PrintLast Go.Proofs.YtmofdimkdkfdgaaW.PrintMore
attribute [local go_sem high] xor_u64 xor_u32 eqErr27 neErr27 eqErrL27 neErrL27
attribute [local go_sem] max2_int min2_int max_two min_two max_three min_three max_four min_four   -- for this text's walks alone
set_option linter.unusedVariables false
set_option linter.unusedSimpArgs false

attribute [local go_sem high] eqA40
/-! ### vernierref06_Encode: function 19 -/
def vernierref06_Encode.j0 : Nat → Int → Bool → Int → Bool → Int → Int → Option (Int × Int)
  | 0, _, _, _, _, _, _ => none
  | k + 1, x0, x41, x362000, x362001, x362002, x362003 => if x41 = true then (some (0, 8)) else ((vernierref06_Head.f k x362002).bind fun t365 => ((vernierref01_Text.f k x362003 64).bind fun t366 => (if 1 ≤ (t366.size : Int) then (if t365.size + (t366.extract 1 t366.size).size ≤ 9223372036854775807 then (if 0 ≤ (wrap64 (x0 - 1)) then (if (wrap64 (x0 - 1)) ≤ ((t365 ++ (t366.extract 1 t366.size)).size : Int) then ((vernierref01_Number.f k ((t365 ++ (t366.extract 1 t366.size)).extract 0 ((wrap64 (x0 - 1)) : Int).toNat)).bind fun t367 => (if x362001 = true then ((vernierref06_Neg.f k x0 t367).bind fun t368 => ((vernierref06_Decode.f k x0 t368).bind fun bt369 => (if (!(bt369.1 == x362000) || (!(bt369.2.1 == x362001) || (!(bt369.2.2.1 == x362002) || (!(bt369.2.2.2 == x362003))))) = true then (some (0, 8)) else (some (t368, 0))))) else ((vernierref06_Decode.f k x0 t367).bind fun bt374 => (if (!(bt374.1 == x362000) || (!(bt374.2.1 == x362001) || (!(bt374.2.2.1 == x362002) || (!(bt374.2.2.2 == x362003))))) = true then (some (0, 8)) else (some (t367, 0)))))) else (none)) else (none)) else (none)) else (none))))
def vernierref06_Encode.f (k : Nat) (a0 : Int) (a1_0 : Int) (a1_1 : Bool) (a1_2 : Int) (a1_3 : Int) : Option (Int × Int) := (vernierref05_Is.f a0).bind fun t362 => ((vernierref06_Sound.f a1_0 a1_1 a1_2 a1_3).bind fun t363 => (if t362 = true then (if t363 = true then (if a1_0 = 0 then (some (0, 0)) else (if a1_0 = 2 then ((vernierref05_Power.f k (wrap64 (a0 - 1))).bind fun t364 => (some (t364, 0))) else (if a1_2 < (wrap64 (8 - (wrap64 (4 * a0)))) then (vernierref06_Encode.j0 k a0 true a1_0 a1_1 a1_2 a1_3) else (vernierref06_Encode.j0 k a0 (decide (a1_2 > (wrap64 ((wrap64 (4 * a0)) - 8)))) a1_0 a1_1 a1_2 a1_3)))) else (some (0, 1))) else (some (0, 2))))
theorem vernierref06_Encode.mono_l : ∀ k, (∀ y0 y1 y2 y3 y4 y5, LeO (vernierref06_Encode.j0 k y0 y1 y2 y3 y4 y5) (vernierref06_Encode.j0 (k + 1) y0 y1 y2 y3 y4 y5))
  | 0 => fun _ _ _ _ _ _ r h => by simp [vernierref06_Encode.j0] at h
  | k + 1 => by
    have ih0 := vernierref06_Encode.mono_l k
    · intro y0 y1 y2 y3 y4 y5
      unfold vernierref06_Encode.j0
      repeat' first
      | (with_reducible exact ih0 _ _ _ _ _ _)
      | (with_reducible exact vernierref01_Number.mono _ _)
      | (with_reducible exact vernierref01_Text.mono _ _ _)
      | (with_reducible exact vernierref05_Power.mono _ _)
      | (with_reducible exact vernierref06_Decode.mono _ _ _)
      | (with_reducible exact vernierref06_Head.mono _ _)
      | (with_reducible exact vernierref06_Neg.mono _ _ _)
      | (with_reducible exact LeO.refl _)
      | (with_reducible exact LeO.none _)
      | (with_reducible refine LeO.ite ?_ ?_)
      | (with_reducible refine LeO.bind ?_ (fun _ => ?_))
      | exact ih0 _ _ _ _ _ _
      | exact vernierref01_Number.mono _ _
      | exact vernierref01_Text.mono _ _ _
      | exact vernierref05_Power.mono _ _
      | exact vernierref06_Decode.mono _ _ _
      | exact vernierref06_Head.mono _ _
      | exact vernierref06_Neg.mono _ _ _
      | exact LeO.none _
      | refine LeO.ite ?_ ?_
      | refine LeO.bind ?_ (fun _ => ?_)
theorem vernierref06_Encode.mono : ∀ a0 a1 a2 a3 a4 k, LeO (vernierref06_Encode.f k a0 a1 a2 a3 a4) (vernierref06_Encode.f (k + 1) a0 a1 a2 a3 a4) := by
  intro a0 a1 a2 a3 a4 k
  have ih0 := vernierref06_Encode.mono_l k
  unfold vernierref06_Encode.f
  repeat' first
      | (with_reducible exact ih0 _ _ _ _ _ _)
      | (with_reducible exact vernierref01_Number.mono _ _)
      | (with_reducible exact vernierref01_Text.mono _ _ _)
      | (with_reducible exact vernierref05_Power.mono _ _)
      | (with_reducible exact vernierref06_Decode.mono _ _ _)
      | (with_reducible exact vernierref06_Head.mono _ _)
      | (with_reducible exact vernierref06_Neg.mono _ _ _)
      | (with_reducible exact LeO.refl _)
      | (with_reducible exact LeO.none _)
      | (with_reducible refine LeO.ite ?_ ?_)
      | (with_reducible refine LeO.bind ?_ (fun _ => ?_))
      | exact ih0 _ _ _ _ _ _
      | exact vernierref01_Number.mono _ _
      | exact vernierref01_Text.mono _ _ _
      | exact vernierref05_Power.mono _ _
      | exact vernierref06_Decode.mono _ _ _
      | exact vernierref06_Head.mono _ _
      | exact vernierref06_Neg.mono _ _ _
      | exact LeO.none _
      | refine LeO.ite ?_ ?_
      | refine LeO.bind ?_ (fun _ => ?_)
def vernierref06_Encode.T14 : Bool × List (List Nat × List Nat) := (true, [([], []), ([0], [0]), ([1], [1]), ([], []), ([3], [3]), ([4, 2], [4]), ([5], [5]), ([2, 6], [2, 6]), ([7, 5, 0, 1, 2, 3, 4, 5, 6, 7], [7])])
def vernierref06_Encode.B14 : List Nat := [0, 1, 3, 0, 8, 31, 63, 127, 255]
theorem vernierref06_Encode.tab14 : rtab .any (opsOf Try.f19 14) = vernierref06_Encode.T14 := by kernel_rfl
theorem vernierref06_Encode.bits14 : waitsOk vernierref06_Encode.T14.2 vernierref06_Encode.B14 = true := by kernel_rfl
set_option maxHeartbeats 8000000 in
set_option maxRecDepth 100000 in
theorem vernierref06_Encode.calls (k : Nat) (a0 : Int) (a1_0 : Int) (a1_1 : Bool) (a1_2 : Int) (a1_3 : Int) (r1 : Int) (r2 : Int) (w : World) (h : vernierref06_Encode.f k a0 a1_0 a1_1 a1_2 a1_3 = some (r1, r2)) :
    Calls Try.prog 19 #[.int .i64 a0, .agg #[.int .i64 a1_0, .bool a1_1, .int .i64 a1_2, .int .u64 a1_3]] w fun e w' => e = .returned (.tuple #[.int .u64 r1, .int .i64 r2]) ∧ Below w.heap.size w w' := by
  have hu40 := Try.underlying40
  have HB := Aside0.mk (Below.refl w.heap.size w)
  have H : ((vernierref05_Is.f a0).bind fun t362 => ((vernierref06_Sound.f a1_0 a1_1 a1_2 a1_3).bind fun t363 => (if t362 = true then (if t363 = true then (if a1_0 = 0 then (some (0, 0)) else (if a1_0 = 2 then ((vernierref05_Power.f k (wrap64 (a0 - 1))).bind fun t364 => (some (t364, 0))) else (if a1_2 < (wrap64 (8 - (wrap64 (4 * a0)))) then (vernierref06_Encode.j0 k a0 true a1_0 a1_1 a1_2 a1_3) else (vernierref06_Encode.j0 k a0 (decide (a1_2 > (wrap64 ((wrap64 (4 * a0)) - 8)))) a1_0 a1_1 a1_2 a1_3)))) else (some (0, 1))) else (some (0, 2))))) = some (r1, r2) := h
  clear h
  replace H := Option.bind_eq_some_iff.mp H
  obtain ⟨t362, A30, H⟩ := H
  replace H : ((vernierref06_Sound.f a1_0 a1_1 a1_2 a1_3).bind fun t363 => (if t362 = true then (if t363 = true then (if a1_0 = 0 then (some (0, 0)) else (if a1_0 = 2 then ((vernierref05_Power.f k (wrap64 (a0 - 1))).bind fun t364 => (some (t364, 0))) else (if a1_2 < (wrap64 (8 - (wrap64 (4 * a0)))) then (vernierref06_Encode.j0 k a0 true a1_0 a1_1 a1_2 a1_3) else (vernierref06_Encode.j0 k a0 (decide (a1_2 > (wrap64 ((wrap64 (4 * a0)) - 8)))) a1_0 a1_1 a1_2 a1_3)))) else (some (0, 1))) else (some (0, 2)))) = some (r1, r2) := H
  have A3 := Aside0.mk A30
  clear A30
  replace H := Option.bind_eq_some_iff.mp H
  obtain ⟨t363, A40, H⟩ := H
  replace H : (if t362 = true then (if t363 = true then (if a1_0 = 0 then (some (0, 0)) else (if a1_0 = 2 then ((vernierref05_Power.f k (wrap64 (a0 - 1))).bind fun t364 => (some (t364, 0))) else (if a1_2 < (wrap64 (8 - (wrap64 (4 * a0)))) then (vernierref06_Encode.j0 k a0 true a1_0 a1_1 a1_2 a1_3) else (vernierref06_Encode.j0 k a0 (decide (a1_2 > (wrap64 ((wrap64 (4 * a0)) - 8)))) a1_0 a1_1 a1_2 a1_3)))) else (some (0, 1))) else (some (0, 2))) = some (r1, r2) := H
  have A4 := Aside0.mk A40
  clear A40
  by_cases c5 : t362 = true
  · subst c5
    have H1 : (if t363 = true then (if a1_0 = 0 then (some (0, 0)) else (if a1_0 = 2 then ((vernierref05_Power.f k (wrap64 (a0 - 1))).bind fun t364 => (some (t364, 0))) else (if a1_2 < (wrap64 (8 - (wrap64 (4 * a0)))) then (vernierref06_Encode.j0 k a0 true a1_0 a1_1 a1_2 a1_3) else (vernierref06_Encode.j0 k a0 (decide (a1_2 > (wrap64 ((wrap64 (4 * a0)) - 8)))) a1_0 a1_1 a1_2 a1_3)))) else (some (0, 1))) = some (r1, r2) := by rw [if_pos rfl] at H; exact H
    clear H
    have H := H1
    clear H1
    by_cases c6 : t363 = true
    · subst c6
      have H1 : (if a1_0 = 0 then (some (0, 0)) else (if a1_0 = 2 then ((vernierref05_Power.f k (wrap64 (a0 - 1))).bind fun t364 => (some (t364, 0))) else (if a1_2 < (wrap64 (8 - (wrap64 (4 * a0)))) then (vernierref06_Encode.j0 k a0 true a1_0 a1_1 a1_2 a1_3) else (vernierref06_Encode.j0 k a0 (decide (a1_2 > (wrap64 ((wrap64 (4 * a0)) - 8)))) a1_0 a1_1 a1_2 a1_3)))) = some (r1, r2) := by rw [if_pos rfl] at H; exact H
      clear H
      have H := H1
      clear H1
      by_cases c7 : a1_0 = 0
      · rw [if_pos c7] at H
        have c7b0 : (a1_0 == 0) = true := beq_iff_eq.mpr c7
        have c7b1 : (a1_0 != 0) = false := bne_eq_false_iff_eq.mpr c7
        clear c7
        simp only [Option.some.injEq, Prod.mk.injEq] at H
        obtain ⟨rfl, rfl⟩ := H
        go_enter Try.func19, Try.ntmps19
        go_wp2_with (first | ((with_reducible refine gD (N := 3) rfl ?_); refine bE3 3 #[.int .i64 a1_0, .bool a1_1, .int .i64 a1_2, .int .u64 a1_3] 40 ?hr ?_; (case hr => first | (go_simp; done) | (go_simp; rfl)); intro gb361 hg w8 hbox hb; have n0_ := Aside0.mk (bS3 HB.out hb); have n1_ := Aside0.mk (hbox); have n2_ := Aside0.mk ((bZ3 hg HB.out)); have n3_ := Aside0.mk ((bZ3 hg HB.out)); clear HB; have HB := n0_; have BK361 := n1_; have GW361 := n2_; have GE361 := n3_; clear n0_ n1_ n2_ n3_; clear hb hbox hg) | ((with_reducible refine gC (f := 20) rfl ?_); (with_reducible refine gD (N := 12) rfl ?_); refine goesY_ (some 12) Try.func20 #[.int .i64 a0] ?_; (with_reducible refine (vernierref05_Is.calls a0 true _ A3.out).mono ?_); rintro e w' ⟨rfl, ⟨nd, rfl⟩⟩; refine ⟨_, rfl, ?_⟩; have hcz9_0 : w8.cell? ⟨gb361, 0, none⟩ = some (.int .i64 a1_0) := (blk_cell BK361.out 0).trans rfl; have hcz9_1 : w8.cell? ⟨gb361, 1, none⟩ = some (.bool a1_1) := (blk_cell BK361.out 1).trans rfl; have hcz9_2 : w8.cell? ⟨gb361, 2, none⟩ = some (.int .i64 a1_2) := (blk_cell BK361.out 2).trans rfl; have hcz9_3 : w8.cell? ⟨gb361, 3, none⟩ = some (.int .u64 a1_3) := (blk_cell BK361.out 3).trans rfl; have hfz9_0 := blk_frozen BK361.out 0; have hfz9_1 := blk_frozen BK361.out 1; have hfz9_2 := blk_frozen BK361.out 2; have hfz9_3 := blk_frozen BK361.out 3) | ((with_reducible refine gC (f := 38) rfl ?_); (with_reducible refine gD (N := 14) rfl ?_); refine goesY_ (some 14) Try.func38 #[.agg #[.int .i64 a1_0, .bool a1_1, .int .i64 a1_2, .int .u64 a1_3]] ?_; (with_reducible refine (vernierref06_Sound.calls a1_0 a1_1 a1_2 a1_3 true _ A4.out).mono ?_); rintro e w10 ⟨rfl, hb⟩; refine ⟨_, rfl, ?_⟩; have n0_ := Aside0.mk (bB3 BK361.out hb); have n1_ := Aside0.mk (bS3 HB.out hb); clear BK361; clear HB; have BK361 := n0_; have HB := n1_; clear n0_ n1_; (try clear hb); (try clear hb2); (try clear hk); (try clear hi); have hcz11_0 : w10.cell? ⟨gb361, 0, none⟩ = some (.int .i64 a1_0) := (blk_cell BK361.out 0).trans rfl; have hcz11_1 : w10.cell? ⟨gb361, 1, none⟩ = some (.bool a1_1) := (blk_cell BK361.out 1).trans rfl; have hcz11_2 : w10.cell? ⟨gb361, 2, none⟩ = some (.int .i64 a1_2) := (blk_cell BK361.out 2).trans rfl; have hcz11_3 : w10.cell? ⟨gb361, 3, none⟩ = some (.int .u64 a1_3) := (blk_cell BK361.out 3).trans rfl; have hfz11_0 := blk_frozen BK361.out 0; have hfz11_1 := blk_frozen BK361.out 1; have hfz11_2 := blk_frozen BK361.out 2; have hfz11_3 := blk_frozen BK361.out 3))
        go_ret2
        exact ⟨by first | rfl | (simp [errW_none, errW_some] <;> rfl) | (simp [*, errW_none, errW_some] <;> rfl), by repeat (first | (with_reducible first | exact HB.out | apply pA | apply pN | apply p1 | refine pS ?_ GE361.out) | exact HB.out)⟩
        all_goals (exfalso; have h_ := of_decide_eq_true c33b5; omega)
      · rw [if_neg c7] at H
        have c7b0 : (a1_0 == 0) = false := beq_eq_false_iff_ne.mpr c7
        have c7b1 : (a1_0 != 0) = true := bne_iff_ne.mpr c7
        by_cases c12 : a1_0 = 2
        · rw [if_pos c12] at H
          have c12b0 : (a1_0 == 2) = true := beq_iff_eq.mpr c12
          have c12b1 : (a1_0 != 2) = false := bne_eq_false_iff_eq.mpr c12
          clear c12
          replace H := Option.bind_eq_some_iff.mp H
          obtain ⟨t364, A130, H⟩ := H
          replace H : (some (t364, 0)) = some (r1, r2) := H
          have A13 := Aside0.mk A130
          clear A130
          simp only [Option.some.injEq, Prod.mk.injEq] at H
          obtain ⟨rfl, rfl⟩ := H
          go_enter Try.func19, Try.ntmps19
          go_wp2_with (first | ((with_reducible refine gD (N := 3) rfl ?_); refine bE3 3 #[.int .i64 a1_0, .bool a1_1, .int .i64 a1_2, .int .u64 a1_3] 40 ?hr ?_; (case hr => first | (go_simp; done) | (go_simp; rfl)); intro gb361 hg w14 hbox hb; have n0_ := Aside0.mk (bS3 HB.out hb); have n1_ := Aside0.mk (hbox); have n2_ := Aside0.mk ((bZ3 hg HB.out)); have n3_ := Aside0.mk ((bZ3 hg HB.out)); clear HB; have HB := n0_; have BK361 := n1_; have GW361 := n2_; have GE361 := n3_; clear n0_ n1_ n2_ n3_; clear hb hbox hg) | ((with_reducible refine gC (f := 20) rfl ?_); (with_reducible refine gD (N := 12) rfl ?_); refine goesY_ (some 12) Try.func20 #[.int .i64 a0] ?_; (with_reducible refine (vernierref05_Is.calls a0 true _ A3.out).mono ?_); rintro e w' ⟨rfl, ⟨nd, rfl⟩⟩; refine ⟨_, rfl, ?_⟩; have hcz15_0 : w14.cell? ⟨gb361, 0, none⟩ = some (.int .i64 a1_0) := (blk_cell BK361.out 0).trans rfl; have hcz15_1 : w14.cell? ⟨gb361, 1, none⟩ = some (.bool a1_1) := (blk_cell BK361.out 1).trans rfl; have hcz15_2 : w14.cell? ⟨gb361, 2, none⟩ = some (.int .i64 a1_2) := (blk_cell BK361.out 2).trans rfl; have hcz15_3 : w14.cell? ⟨gb361, 3, none⟩ = some (.int .u64 a1_3) := (blk_cell BK361.out 3).trans rfl; have hfz15_0 := blk_frozen BK361.out 0; have hfz15_1 := blk_frozen BK361.out 1; have hfz15_2 := blk_frozen BK361.out 2; have hfz15_3 := blk_frozen BK361.out 3) | ((with_reducible refine gC (f := 38) rfl ?_); (with_reducible refine gD (N := 14) rfl ?_); refine goesY_ (some 14) Try.func38 #[.agg #[.int .i64 a1_0, .bool a1_1, .int .i64 a1_2, .int .u64 a1_3]] ?_; (with_reducible refine (vernierref06_Sound.calls a1_0 a1_1 a1_2 a1_3 true _ A4.out).mono ?_); rintro e w16 ⟨rfl, hb⟩; refine ⟨_, rfl, ?_⟩; have n0_ := Aside0.mk (bB3 BK361.out hb); have n1_ := Aside0.mk (bS3 HB.out hb); clear BK361; clear HB; have BK361 := n0_; have HB := n1_; clear n0_ n1_; (try clear hb); (try clear hb2); (try clear hk); (try clear hi); have hcz17_0 : w16.cell? ⟨gb361, 0, none⟩ = some (.int .i64 a1_0) := (blk_cell BK361.out 0).trans rfl; have hcz17_1 : w16.cell? ⟨gb361, 1, none⟩ = some (.bool a1_1) := (blk_cell BK361.out 1).trans rfl; have hcz17_2 : w16.cell? ⟨gb361, 2, none⟩ = some (.int .i64 a1_2) := (blk_cell BK361.out 2).trans rfl; have hcz17_3 : w16.cell? ⟨gb361, 3, none⟩ = some (.int .u64 a1_3) := (blk_cell BK361.out 3).trans rfl; have hfz17_0 := blk_frozen BK361.out 0; have hfz17_1 := blk_frozen BK361.out 1; have hfz17_2 := blk_frozen BK361.out 2; have hfz17_3 := blk_frozen BK361.out 3) | ((with_reducible refine gC (f := 39) rfl ?_); (with_reducible refine gD (N := 27) rfl ?_); refine goesY_ (some 27) Try.func39 #[.int .i64 (wrap64 (a0 - 1))] ?_; (with_reducible refine (vernierref05_Power.calls k (wrap64 (a0 - 1)) t364 _ A13.out).mono ?_); rintro e w' ⟨rfl, ⟨nd, rfl⟩⟩; refine ⟨_, rfl, ?_⟩))
          go_ret2
          exact ⟨by first | rfl | (simp [errW_none, errW_some] <;> rfl) | (simp [*, errW_none, errW_some] <;> rfl), by repeat (first | (with_reducible first | exact HB.out | apply pA | apply pN | apply p1 | refine pS ?_ GE361.out) | exact HB.out)⟩
          all_goals (exfalso; have h_ := of_decide_eq_true c33b5; omega)
        · rw [if_neg c12] at H
          have c12b0 : (a1_0 == 2) = false := beq_eq_false_iff_ne.mpr c12
          have c12b1 : (a1_0 != 2) = true := bne_iff_ne.mpr c12
          have HC18 := Aside0.mk H
          clear H
          go_enter Try.func19, Try.ntmps19
          go_upto_region 12 with (first | ((with_reducible refine gD (N := 3) rfl ?_); refine bE3 3 #[.int .i64 a1_0, .bool a1_1, .int .i64 a1_2, .int .u64 a1_3] 40 ?hr ?_; (case hr => first | (go_simp; done) | (go_simp; rfl)); intro gb361 hg w19 hbox hb; have n0_ := Aside0.mk (bS3 HB.out hb); have n1_ := Aside0.mk (hbox); have n2_ := Aside0.mk ((bZ3 hg HB.out)); have n3_ := Aside0.mk ((bZ3 hg HB.out)); clear HB; have HB := n0_; have BK361 := n1_; have GW361 := n2_; have GE361 := n3_; clear n0_ n1_ n2_ n3_; clear hb hbox hg) | ((with_reducible refine gC (f := 20) rfl ?_); (with_reducible refine gD (N := 12) rfl ?_); refine goesY_ (some 12) Try.func20 #[.int .i64 a0] ?_; (with_reducible refine (vernierref05_Is.calls a0 true _ A3.out).mono ?_); rintro e w' ⟨rfl, ⟨nd, rfl⟩⟩; refine ⟨_, rfl, ?_⟩; have hcz20_0 : w19.cell? ⟨gb361, 0, none⟩ = some (.int .i64 a1_0) := (blk_cell BK361.out 0).trans rfl; have hcz20_1 : w19.cell? ⟨gb361, 1, none⟩ = some (.bool a1_1) := (blk_cell BK361.out 1).trans rfl; have hcz20_2 : w19.cell? ⟨gb361, 2, none⟩ = some (.int .i64 a1_2) := (blk_cell BK361.out 2).trans rfl; have hcz20_3 : w19.cell? ⟨gb361, 3, none⟩ = some (.int .u64 a1_3) := (blk_cell BK361.out 3).trans rfl; have hfz20_0 := blk_frozen BK361.out 0; have hfz20_1 := blk_frozen BK361.out 1; have hfz20_2 := blk_frozen BK361.out 2; have hfz20_3 := blk_frozen BK361.out 3) | ((with_reducible refine gC (f := 38) rfl ?_); (with_reducible refine gD (N := 14) rfl ?_); refine goesY_ (some 14) Try.func38 #[.agg #[.int .i64 a1_0, .bool a1_1, .int .i64 a1_2, .int .u64 a1_3]] ?_; (with_reducible refine (vernierref06_Sound.calls a1_0 a1_1 a1_2 a1_3 true _ A4.out).mono ?_); rintro e w21 ⟨rfl, hb⟩; refine ⟨_, rfl, ?_⟩; have n0_ := Aside0.mk (bB3 BK361.out hb); have n1_ := Aside0.mk (bS3 HB.out hb); clear BK361; clear HB; have BK361 := n0_; have HB := n1_; clear n0_ n1_; (try clear hb); (try clear hb2); (try clear hk); (try clear hi); have hcz22_0 : w21.cell? ⟨gb361, 0, none⟩ = some (.int .i64 a1_0) := (blk_cell BK361.out 0).trans rfl; have hcz22_1 : w21.cell? ⟨gb361, 1, none⟩ = some (.bool a1_1) := (blk_cell BK361.out 1).trans rfl; have hcz22_2 : w21.cell? ⟨gb361, 2, none⟩ = some (.int .i64 a1_2) := (blk_cell BK361.out 2).trans rfl; have hcz22_3 : w21.cell? ⟨gb361, 3, none⟩ = some (.int .u64 a1_3) := (blk_cell BK361.out 3).trans rfl; have hfz22_0 := blk_frozen BK361.out 0; have hfz22_1 := blk_frozen BK361.out 1; have hfz22_2 := blk_frozen BK361.out 2; have hfz22_3 := blk_frozen BK361.out 3))
          (try simp only [Act.put, List.setIfInBounds_toArray, List.set_cons_zero, List.set_cons_succ])
          go_cut [41] (fun v41 wc => ∃ (kq : Nat) (x41_17 : Bool), v41 = .bool x41_17 ∧ Aside0 (vernierref06_Encode.j0 kq a0 x41_17 a1_0 a1_1 a1_2 a1_3 = some (r1, r2)) ∧ Aside0 (kq ≤ k) ∧ Aside0 (wc.heap[gb361]? = some (.cells #[.int .i64 a1_0, .bool a1_1, .int .i64 a1_2, .int .u64 a1_3] 40 (0, 0))) ∧ Aside0 (Below w.heap.size w wc))
          case first =>
            have H := HC18.out
            clear HC18
            by_cases c23 : a1_2 < (wrap64 (8 - (wrap64 (4 * a0))))
            · rw [if_pos c23] at H
              have c23b0 : decide (a1_2 < (wrap64 (8 - (wrap64 (4 * a0))))) = true := decide_eq_true c23
              clear c23
              (first | rw [c23b0] | (simp only [i64_w, i32_w]; rw [c23b0]) | skip)
              have H' := Aside0.mk H
              clear H
              have hcz24_0 : w21.cell? ⟨gb361, 0, none⟩ = some (.int .i64 a1_0) := (blk_cell BK361.out 0).trans rfl
              have hcz24_1 : w21.cell? ⟨gb361, 1, none⟩ = some (.bool a1_1) := (blk_cell BK361.out 1).trans rfl
              have hcz24_2 : w21.cell? ⟨gb361, 2, none⟩ = some (.int .i64 a1_2) := (blk_cell BK361.out 2).trans rfl
              have hcz24_3 : w21.cell? ⟨gb361, 3, none⟩ = some (.int .u64 a1_3) := (blk_cell BK361.out 3).trans rfl
              have hfz24_0 := blk_frozen BK361.out 0
              have hfz24_1 := blk_frozen BK361.out 1
              have hfz24_2 := blk_frozen BK361.out 2
              have hfz24_3 := blk_frozen BK361.out 3
              go_wp2
              go_meet
              case rel => exact ⟨_, (true), (by first | rfl | (simp; done) | (simp [*]; done)), H', ⟨by first | omega | exact Nat.le_refl _⟩, ⟨by (with_reducible repeat (first | refine bN ?_ _ | refine bD ?_ | refine bA ?_ _)); exact BK361.out⟩, ⟨by repeat (first | (with_reducible first | exact HB.out | apply pA | apply pN | apply p1 | refine pS ?_ GE361.out) | exact HB.out)⟩⟩
            · rw [if_neg c23] at H
              have c23b0 : decide (a1_2 < (wrap64 (8 - (wrap64 (4 * a0))))) = false := decide_eq_false c23
              clear c23
              (first | rw [c23b0] | (simp only [i64_w, i32_w]; rw [c23b0]) | skip)
              have H' := Aside0.mk H
              clear H
              have hcz25_0 : w21.cell? ⟨gb361, 0, none⟩ = some (.int .i64 a1_0) := (blk_cell BK361.out 0).trans rfl
              have hcz25_1 : w21.cell? ⟨gb361, 1, none⟩ = some (.bool a1_1) := (blk_cell BK361.out 1).trans rfl
              have hcz25_2 : w21.cell? ⟨gb361, 2, none⟩ = some (.int .i64 a1_2) := (blk_cell BK361.out 2).trans rfl
              have hcz25_3 : w21.cell? ⟨gb361, 3, none⟩ = some (.int .u64 a1_3) := (blk_cell BK361.out 3).trans rfl
              have hfz25_0 := blk_frozen BK361.out 0
              have hfz25_1 := blk_frozen BK361.out 1
              have hfz25_2 := blk_frozen BK361.out 2
              have hfz25_3 := blk_frozen BK361.out 3
              go_wp2
              go_meet
              case rel => exact ⟨_, (decide (a1_2 > (wrap64 ((wrap64 (4 * a0)) - 8)))), (by first | rfl | (simp; done) | (simp [*]; done)), H', ⟨by first | omega | exact Nat.le_refl _⟩, ⟨by (with_reducible repeat (first | refine bN ?_ _ | refine bD ?_ | refine bA ?_ _)); exact BK361.out⟩, ⟨by repeat (first | (with_reducible first | exact HB.out | apply pA | apply pN | apply p1 | refine pS ?_ GE361.out) | exact HB.out)⟩⟩
          case rest =>
            clear HC18
            try clear c1
            try clear c2
            try clear p2
            try clear c3
            try clear c5
            try clear c6
            try clear p6
            try clear c7
            try clear c7b0
            try clear c7b1
            try clear c12
            try clear c12b0
            try clear c12b1
            try clear c19
            try clear c20
            try clear c23
            try clear c23b0
            try clear hcz11_0
            try clear hcz11_1
            try clear hcz11_2
            try clear hcz11_3
            try clear hcz15_0
            try clear hcz15_1
            try clear hcz15_2
            try clear hcz15_3
            try clear hcz17_0
            try clear hcz17_1
            try clear hcz17_2
            try clear hcz17_3
            try clear hcz20_0
            try clear hcz20_1
            try clear hcz20_2
            try clear hcz20_3
            try clear hcz22_0
            try clear hcz22_1
            try clear hcz22_2
            try clear hcz22_3
            try clear hcz24_0
            try clear hcz24_1
            try clear hcz24_2
            try clear hcz24_3
            try clear hcz25_0
            try clear hcz25_1
            try clear hcz25_2
            try clear hcz25_3
            try clear hcz9_0
            try clear hcz9_1
            try clear hcz9_2
            try clear hcz9_3
            try clear hfz11_0
            try clear hfz11_1
            try clear hfz11_2
            try clear hfz11_3
            try clear hfz15_0
            try clear hfz15_1
            try clear hfz15_2
            try clear hfz15_3
            try clear hfz17_0
            try clear hfz17_1
            try clear hfz17_2
            try clear hfz17_3
            try clear hfz20_0
            try clear hfz20_1
            try clear hfz20_2
            try clear hfz20_3
            try clear hfz22_0
            try clear hfz22_1
            try clear hfz22_2
            try clear hfz22_3
            try clear hfz24_0
            try clear hfz24_1
            try clear hfz24_2
            try clear hfz24_3
            try clear hfz25_0
            try clear hfz25_1
            try clear hfz25_2
            try clear hfz25_3
            try clear hfz9_0
            try clear hfz9_1
            try clear hfz9_2
            try clear hfz9_3
            obtain ⟨kq, x41_17, rfl, HA, HJ17, BK361, HB⟩ := hcut
            cases kq with
            | zero => exact absurd HA.out (by simp [vernierref06_Encode.j0])
            | succ kj17 =>
              have H := HA.out
              clear HA
              simp only [vernierref06_Encode.j0] at H
              by_cases c26 : x41_17 = true
              · subst c26
                have H1 : (some (0, 8)) = some (r1, r2) := by rw [if_pos rfl] at H; exact H
                clear H
                have H := H1
                clear H1
                simp only [Option.some.injEq, Prod.mk.injEq] at H
                obtain ⟨rfl, rfl⟩ := H
                go_wp2
                go_ret2
                exact ⟨by first | rfl | (simp [errW_none, errW_some] <;> rfl) | (simp [*, errW_none, errW_some] <;> rfl), by repeat (first | (with_reducible first | exact HB.out | apply pA | apply pN | apply p1 | refine pS ?_ GE361.out) | exact HB.out)⟩
                all_goals (exfalso; have h_ := of_decide_eq_true c33b5; omega)
              · replace c26 := Bool.eq_false_iff.mpr c26
                subst c26
                have H1 : ((vernierref06_Head.f kj17 a1_2).bind fun t365 => ((vernierref01_Text.f kj17 a1_3 64).bind fun t366 => (if 1 ≤ (t366.size : Int) then (if t365.size + (t366.extract 1 t366.size).size ≤ 9223372036854775807 then (if 0 ≤ (wrap64 (a0 - 1)) then (if (wrap64 (a0 - 1)) ≤ ((t365 ++ (t366.extract 1 t366.size)).size : Int) then ((vernierref01_Number.f kj17 ((t365 ++ (t366.extract 1 t366.size)).extract 0 ((wrap64 (a0 - 1)) : Int).toNat)).bind fun t367 => (if a1_1 = true then ((vernierref06_Neg.f kj17 a0 t367).bind fun t368 => ((vernierref06_Decode.f kj17 a0 t368).bind fun bt369 => (if (!(bt369.1 == a1_0) || (!(bt369.2.1 == a1_1) || (!(bt369.2.2.1 == a1_2) || (!(bt369.2.2.2 == a1_3))))) = true then (some (0, 8)) else (some (t368, 0))))) else ((vernierref06_Decode.f kj17 a0 t367).bind fun bt374 => (if (!(bt374.1 == a1_0) || (!(bt374.2.1 == a1_1) || (!(bt374.2.2.1 == a1_2) || (!(bt374.2.2.2 == a1_3))))) = true then (some (0, 8)) else (some (t367, 0)))))) else (none)) else (none)) else (none)) else (none)))) = some (r1, r2) := by rw [if_neg (show ¬ (false = true) by decide)] at H; exact H
                clear H
                have H := H1
                clear H1
                replace H := Option.bind_eq_some_iff.mp H
                obtain ⟨t365, A270, H⟩ := H
                replace H : ((vernierref01_Text.f kj17 a1_3 64).bind fun t366 => (if 1 ≤ (t366.size : Int) then (if t365.size + (t366.extract 1 t366.size).size ≤ 9223372036854775807 then (if 0 ≤ (wrap64 (a0 - 1)) then (if (wrap64 (a0 - 1)) ≤ ((t365 ++ (t366.extract 1 t366.size)).size : Int) then ((vernierref01_Number.f kj17 ((t365 ++ (t366.extract 1 t366.size)).extract 0 ((wrap64 (a0 - 1)) : Int).toNat)).bind fun t367 => (if a1_1 = true then ((vernierref06_Neg.f kj17 a0 t367).bind fun t368 => ((vernierref06_Decode.f kj17 a0 t368).bind fun bt369 => (if (!(bt369.1 == a1_0) || (!(bt369.2.1 == a1_1) || (!(bt369.2.2.1 == a1_2) || (!(bt369.2.2.2 == a1_3))))) = true then (some (0, 8)) else (some (t368, 0))))) else ((vernierref06_Decode.f kj17 a0 t367).bind fun bt374 => (if (!(bt374.1 == a1_0) || (!(bt374.2.1 == a1_1) || (!(bt374.2.2.1 == a1_2) || (!(bt374.2.2.2 == a1_3))))) = true then (some (0, 8)) else (some (t367, 0)))))) else (none)) else (none)) else (none)) else (none))) = some (r1, r2) := H
                have A27 := Aside0.mk A270
                clear A270
                replace H := Option.bind_eq_some_iff.mp H
                obtain ⟨t366, A280, H⟩ := H
                replace H : (if 1 ≤ (t366.size : Int) then (if t365.size + (t366.extract 1 t366.size).size ≤ 9223372036854775807 then (if 0 ≤ (wrap64 (a0 - 1)) then (if (wrap64 (a0 - 1)) ≤ ((t365 ++ (t366.extract 1 t366.size)).size : Int) then ((vernierref01_Number.f kj17 ((t365 ++ (t366.extract 1 t366.size)).extract 0 ((wrap64 (a0 - 1)) : Int).toNat)).bind fun t367 => (if a1_1 = true then ((vernierref06_Neg.f kj17 a0 t367).bind fun t368 => ((vernierref06_Decode.f kj17 a0 t368).bind fun bt369 => (if (!(bt369.1 == a1_0) || (!(bt369.2.1 == a1_1) || (!(bt369.2.2.1 == a1_2) || (!(bt369.2.2.2 == a1_3))))) = true then (some (0, 8)) else (some (t368, 0))))) else ((vernierref06_Decode.f kj17 a0 t367).bind fun bt374 => (if (!(bt374.1 == a1_0) || (!(bt374.2.1 == a1_1) || (!(bt374.2.2.1 == a1_2) || (!(bt374.2.2.2 == a1_3))))) = true then (some (0, 8)) else (some (t367, 0)))))) else (none)) else (none)) else (none)) else (none)) = some (r1, r2) := H
                have A28 := Aside0.mk A280
                clear A280
                by_cases c29 : 1 ≤ (t366.size : Int)
                · rw [if_pos c29] at H
                  have c29b0 := eq_true c29
                  have c29b1 : decide (1 ≤ (t366.size : Int)) = true := decide_eq_true c29
                  clear c29
                  by_cases c30 : t365.size + (t366.extract 1 t366.size).size ≤ 9223372036854775807
                  · rw [if_pos c30] at H
                    have c30b0 := eq_true c30
                    have c30b1 : decide (t365.size + (t366.extract 1 t366.size).size ≤ 9223372036854775807) = true := decide_eq_true c30
                    try have c30b2 : (9223372036854775807 < t365.size + (t366.extract 1 t366.size).size) = False := eq_false (Nat.not_lt.2 c30)
                    try have c30b3 : (9223372036854775807 < t365.size + (t366.size - 1)) = False := eq_false (by have h_ := c30; simp only [ByteArray.size_append, ByteArray.size_extract] at h_; omega)
                    obtain ⟨ji31, hji31⟩ : ∃ j_ : Int, (wrap64 (a0 - 1)) = j_ := ⟨_, rfl⟩
                    replace H : (if 0 ≤ (ji31) then (if (ji31) ≤ ((t365 ++ (t366.extract 1 t366.size)).size : Int) then ((vernierref01_Number.f kj17 ((t365 ++ (t366.extract 1 t366.size)).extract 0 ((ji31) : Int).toNat)).bind fun t367 => (if a1_1 = true then ((vernierref06_Neg.f kj17 a0 t367).bind fun t368 => ((vernierref06_Decode.f kj17 a0 t368).bind fun bt369 => (if (!(bt369.1 == a1_0) || (!(bt369.2.1 == a1_1) || (!(bt369.2.2.1 == a1_2) || (!(bt369.2.2.2 == a1_3))))) = true then (some (0, 8)) else (some (t368, 0))))) else ((vernierref06_Decode.f kj17 a0 t367).bind fun bt374 => (if (!(bt374.1 == a1_0) || (!(bt374.2.1 == a1_1) || (!(bt374.2.2.1 == a1_2) || (!(bt374.2.2.2 == a1_3))))) = true then (some (0, 8)) else (some (t367, 0)))))) else (none)) else (none)) = some (r1, r2) := by first | (rw [hji31] at H; exact H) | (simp only [hji31] at H ⊢; exact H)
                    (try rw [hji31] at A27)
                    (try rw [hji31] at A28)
                    have hji31w : (IntKind.i64.wrap (a0 - 1)) = ji31 := (i64_w _).trans hji31
                    by_cases c32 : 0 ≤ (ji31)
                    · rw [if_pos c32] at H
                      have c32b0 := eq_true c32
                      have c32b1 : decide (0 ≤ (ji31)) = true := decide_eq_true c32
                      clear c32
                      by_cases c33 : (ji31) ≤ ((t365 ++ (t366.extract 1 t366.size)).size : Int)
                      · rw [if_pos c33] at H
                        have c33b0 := eq_true c33
                        have c33b1 : decide ((ji31) ≤ ((t365 ++ (t366.extract 1 t366.size)).size : Int)) = true := decide_eq_true c33
                        try have c33b4 : decide ((ji31) ≤ ((t365.size + (t366.size - 1) : Nat) : Int)) = true := decide_eq_true (by have h_ := c33; simp only [ByteArray.size_append, ByteArray.size_extract] at h_; omega)
                        try have c33b6 : (((t365.size + (t366.size - 1) : Nat) : Int) < (ji31)) = False := eq_false (by have h_ := of_decide_eq_true c33b4; omega)
                        try have c33b5 : decide ((ji31) ≤ (t365.size : Int) + ((t366.size - 1 : Nat) : Int)) = true := decide_eq_true (by have h_ := c33; simp only [ByteArray.size_append, ByteArray.size_extract] at h_; omega)
                        try have c33b7 : ((t365.size : Int) + ((t366.size - 1 : Nat) : Int) < (ji31)) = False := eq_false (by have h_ := of_decide_eq_true c33b5; omega)
                        replace H := Option.bind_eq_some_iff.mp H
                        obtain ⟨t367, A340, H⟩ := H
                        replace H : (if a1_1 = true then ((vernierref06_Neg.f kj17 a0 t367).bind fun t368 => ((vernierref06_Decode.f kj17 a0 t368).bind fun bt369 => (if (!(bt369.1 == a1_0) || (!(bt369.2.1 == a1_1) || (!(bt369.2.2.1 == a1_2) || (!(bt369.2.2.2 == a1_3))))) = true then (some (0, 8)) else (some (t368, 0))))) else ((vernierref06_Decode.f kj17 a0 t367).bind fun bt374 => (if (!(bt374.1 == a1_0) || (!(bt374.2.1 == a1_1) || (!(bt374.2.2.1 == a1_2) || (!(bt374.2.2.2 == a1_3))))) = true then (some (0, 8)) else (some (t367, 0))))) = some (r1, r2) := H
                        have A34 := Aside0.mk A340
                        clear A340
                        by_cases c35 : a1_1 = true
                        · subst c35
                          have H1 : ((vernierref06_Neg.f kj17 a0 t367).bind fun t368 => ((vernierref06_Decode.f kj17 a0 t368).bind fun bt369 => (if (!(bt369.1 == a1_0) || (!(bt369.2.1 == true) || (!(bt369.2.2.1 == a1_2) || (!(bt369.2.2.2 == a1_3))))) = true then (some (0, 8)) else (some (t368, 0))))) = some (r1, r2) := by rw [if_pos rfl] at H; exact H
                          clear H
                          have H := H1
                          clear H1
                          replace H := Option.bind_eq_some_iff.mp H
                          obtain ⟨t368, A360, H⟩ := H
                          replace H : ((vernierref06_Decode.f kj17 a0 t368).bind fun bt369 => (if (!(bt369.1 == a1_0) || (!(bt369.2.1 == true) || (!(bt369.2.2.1 == a1_2) || (!(bt369.2.2.2 == a1_3))))) = true then (some (0, 8)) else (some (t368, 0)))) = some (r1, r2) := H
                          have A36 := Aside0.mk A360
                          clear A360
                          replace H := Option.bind_eq_some_iff.mp H
                          obtain ⟨⟨t369, t370, t371, t372⟩, A370, H⟩ := H
                          replace H : (if (!(t369 == a1_0) || (!(t370 == true) || (!(t371 == a1_2) || (!(t372 == a1_3))))) = true then (some (0, 8)) else (some (t368, 0))) = some (r1, r2) := H
                          have A37 := Aside0.mk A370
                          clear A370
                          by_cases c38 : (!(t369 == a1_0) || (!(t370 == true) || (!(t371 == a1_2) || (!(t372 == a1_3))))) = true
                          · rw [if_pos c38] at H
                            have c38b0 : (!(t369 == a1_0) || (!(t370 == true) || (!(t371 == a1_2) || (!(t372 == a1_3))))) = true := c38
                            (try (have c38b9 := c38b0; simp only [beq_true, beq_false, Bool.not_not] at c38b9))
                            clear c38
                            simp only [Option.some.injEq, Prod.mk.injEq] at H
                            obtain ⟨rfl, rfl⟩ := H
                            try go_wp2
                            have n0_ := Aside0.mk (bD BK361.out)
                            have n1_ := Aside0.mk (p1 HB.out)
                            clear BK361
                            clear HB
                            have BK361 := n0_
                            have HB := n1_
                            clear n0_ n1_
                            refine start_ (n := 9) (S := fun w' => w'.cell? ⟨gb361, 0, none⟩ = some (.int .i64 a1_0) ∧ w'.cell? ⟨gb361, 1, none⟩ = some (.bool true) ∧ w'.cell? ⟨gb361, 2, none⟩ = some (.int .i64 a1_2) ∧ w'.cell? ⟨gb361, 3, none⟩ = some (.int .u64 a1_3)) (ds := []) #[false, false, false, false, false, false, false, false, false] (by kernel_rfl) rfl rfl ⟨(blk_cell BK361.out 0).trans rfl, (blk_cell BK361.out 1).trans rfl, (blk_cell BK361.out 2).trans rfl, (blk_cell BK361.out 3).trans rfl⟩ (fun hHeld => ?_); refine with_tabW vernierref06_Encode.tab14 vernierref06_Encode.bits14 (fun HT_ HW_ => ?_)
                            generalize wc.drew = w39 at BK361 HB hHeld ⊢
                            refine pure_ (i := 0) (N := some 42) (v := ?_) (a' := ?_) #[true, false, false, false, false, false, false, false, false] rfl rfl (any_of HT_.out (by kernel_rfl)) (fun _ _ _ h => h) (Or.inl ⟨by rfl, ?_⟩) ?_ ?_
                            rotate_left
                            · intro w'
                              go_simp
                              with_reducible rfl
                            rotate_left
                            · simp only [Act.put, List.setIfInBounds_toArray, List.set_cons_zero, List.set_cons_succ, i64_w, i32_w]
                              rfl
                            refine pure_ (i := 3) (N := some 45) (v := ?_) (a' := ?_) #[true, false, false, true, false, false, false, false, false] rfl rfl (any_of HT_.out (by kernel_rfl)) (fun _ _ _ h => h) (Or.inl ⟨by rfl, ?_⟩) ?_ ?_
                            rotate_left
                            · intro w'
                              go_simp
                              with_reducible rfl
                            rotate_left
                            · simp only [Act.put, List.setIfInBounds_toArray, List.set_cons_zero, List.set_cons_succ, i64_w, i32_w]
                              rfl
                            refine take_ (i := 1) (N := some 43) (v := ?_) (a' := ?_) #[true, true, false, true, false, false, false, false, false] rfl rfl (take_ofW HT_.out HW_.out (by kernel_rfl)) (fun _ _ _ h => h) (Or.inl ⟨by rfl, ?_⟩) hHeld ?_ ?_
                            rotate_left
                            · rintro w' ⟨s0, s1, s2, s3⟩
                              go_simp
                              with_reducible rfl
                            rotate_left
                            · simp only [Act.put, List.setIfInBounds_toArray, List.set_cons_zero, List.set_cons_succ, i64_w, i32_w]
                              rfl
                            refine take_ (i := 4) (N := some 46) (v := ?_) (a' := ?_) #[true, true, false, true, true, false, false, false, false] rfl rfl (take_ofW HT_.out HW_.out (by kernel_rfl)) (fun _ _ _ h => h) (Or.inl ⟨by rfl, ?_⟩) hHeld ?_ ?_
                            rotate_left
                            · rintro w' ⟨s0, s1, s2, s3⟩
                              go_simp
                              with_reducible rfl
                            rotate_left
                            · simp only [Act.put, List.setIfInBounds_toArray, List.set_cons_zero, List.set_cons_succ, i64_w, i32_w]
                              rfl
                            refine one_ (i := 2) (N := some 44) #[true, true, true, true, true, false, false, false, false] rfl rfl (one_of HT_.out (by kernel_rfl)) (by decide) (fun K hK => ?_)
                            refine goes_ Try.func40 (by kernel_rfl) rfl #[.int .i64 a1_2] (by rfl) rfl rfl (by (try simp only [List.map_toArray, List.map_cons, List.map_nil]); first | done | rfl | (simp only [List.length_drop, List.length_take]; rfl)) ?_
                            with_reducible refine (vernierref06_Head.calls kj17 a1_2 t365 _ A27.out).mono ?_
                            rintro e w40 ⟨rfl, hb⟩
                            refine ⟨_, rfl, ?_⟩
                            have n0_ := Aside0.mk (bB3 BK361.out hb)
                            have n1_ := Aside0.mk (bS3 HB.out hb)
                            clear BK361
                            clear HB
                            have BK361 := n0_
                            have HB := n1_
                            clear n0_ n1_
                            (try clear hb)
                            (try clear hb2)
                            (try clear hk)
                            (try clear hi)
                            refine hK.out _ _ ⟨(blk_cell BK361.out 0).trans rfl, (blk_cell BK361.out 1).trans rfl, (blk_cell BK361.out 2).trans rfl, (blk_cell BK361.out 3).trans rfl⟩ (fun hHeld => ?_)
                            clear hK K
                            refine norm_ (a' := ?_) ?_ ?_
                            rotate_left
                            · show Act.put _ (some 44) _ = _
                              simp only [Act.put, List.setIfInBounds_toArray, List.set_cons_zero, List.set_cons_succ, i64_w, i32_w]
                              rfl
                            refine one_ (i := 5) (N := some 47) #[true, true, true, true, true, true, false, false, false] rfl rfl (one_of HT_.out (by kernel_rfl)) (by decide) (fun K hK => ?_)
                            refine goes_ Try.func28 (by kernel_rfl) rfl #[.int .u64 a1_3, .int .i64 64] (by rfl) rfl rfl (by (try simp only [List.map_toArray, List.map_cons, List.map_nil]); first | done | rfl | (simp only [List.length_drop, List.length_take]; rfl)) ?_
                            with_reducible refine (vernierref01_Text.calls kj17 a1_3 64 t366 _ A28.out).mono ?_
                            rintro e w41 ⟨rfl, hb⟩
                            refine ⟨_, rfl, ?_⟩
                            have n0_ := Aside0.mk (bB3 BK361.out hb)
                            have n1_ := Aside0.mk (bS3 HB.out hb)
                            clear BK361
                            clear HB
                            have BK361 := n0_
                            have HB := n1_
                            clear n0_ n1_
                            (try clear hb)
                            (try clear hb2)
                            (try clear hk)
                            (try clear hi)
                            refine hK.out _ _ ⟨(blk_cell BK361.out 0).trans rfl, (blk_cell BK361.out 1).trans rfl, (blk_cell BK361.out 2).trans rfl, (blk_cell BK361.out 3).trans rfl⟩ (fun hHeld => ?_)
                            clear hK K
                            refine norm_ (a' := ?_) ?_ ?_
                            rotate_left
                            · show Act.put _ (some 47) _ = _
                              simp only [Act.put, List.setIfInBounds_toArray, List.set_cons_zero, List.set_cons_succ, i64_w, i32_w]
                              rfl
                            refine pure_ (i := 6) (N := some 48) (v := ?_) (a' := ?_) #[true, true, true, true, true, true, true, false, false] rfl rfl (any_of HT_.out (by kernel_rfl)) (fun _ _ _ h => h) (Or.inl ⟨by rfl, ?_⟩) ?_ ?_
                            rotate_left
                            · intro w'
                              go_simp
                              with_reducible rfl
                            rotate_left
                            · simp only [Act.put, List.setIfInBounds_toArray, List.set_cons_zero, List.set_cons_succ, i64_w, i32_w]
                              rfl
                            refine pure_ (i := 7) (N := some 49) (v := ?_) (a' := ?_) #[true, true, true, true, true, true, true, true, false] rfl rfl (any_of HT_.out (by kernel_rfl)) (fun _ _ _ h => h) (Or.inl ⟨by rfl, ?_⟩) ?_ ?_
                            rotate_left
                            · intro w'
                              go_simp
                              with_reducible rfl
                            rotate_left
                            · simp only [Act.put, List.setIfInBounds_toArray, List.set_cons_zero, List.set_cons_succ, i64_w, i32_w]
                              rfl
                            refine pure_ (i := 8) (N := some 8) (v := ?_) (a' := ?_) #[true, true, true, true, true, true, true, true, true] rfl rfl (any_of HT_.out (by kernel_rfl)) (fun _ _ _ h => h) (Or.inl ⟨by rfl, ?_⟩) ?_ ?_
                            rotate_left
                            · intro w'
                              go_simp
                              with_reducible rfl
                            rotate_left
                            · simp only [Act.put, List.setIfInBounds_toArray, List.set_cons_zero, List.set_cons_succ, i64_w, i32_w]
                              rfl
                            refine done_ (done_of HT_.out (by kernel_rfl)) ?_
                            try go_wp2_with (first | ((with_reducible refine gC (f := 30) rfl ?_); (with_reducible refine gD (N := 54) rfl ?_); refine goesL_ (some 54) rfl rfl Try.func30 (by kernel_rfl) rfl #[.string ((t365 ++ (t366.extract 1 t366.size)).extract 0 ((ji31) : Int).toNat)] rfl (by (try simp only [List.map_toArray, List.map_cons, List.map_nil]); first | done | (simp only [hji31]; rfl) | rfl | (simp only [List.length_drop, List.length_take]; rfl)) ?_; (with_reducible refine (vernierref01_Number.calls kj17 ((t365 ++ (t366.extract 1 t366.size)).extract 0 ((ji31) : Int).toNat) t367 _ A34.out).mono ?_); rintro e w' ⟨rfl, ⟨nd, rfl⟩⟩; refine ⟨_, rfl, ?_⟩; (try (rw [drewN_self w41]; generalize hq_ : World.drewN w41 _ = w41; have n0_ : Aside0 (w41.heap[gb361]? = some (.cells #[.int .i64 a1_0, .bool true, .int .i64 a1_2, .int .u64 a1_3] 40 (0, 0))) := ⟨by rw [← hq_]; exact (by (with_reducible repeat (first | refine bN ?_ _ | refine bD ?_ | refine bA ?_ _)); exact BK361.out)⟩; have n1_ : Aside0 (Below w.heap.size w w41) := ⟨by rw [← hq_]; exact (by repeat (first | (with_reducible first | exact HB.out | apply pA | apply pN | apply p1 | refine pS ?_ GE361.out) | exact HB.out))⟩; clear BK361 HB hq_; have BK361 := n0_; have HB := n1_; clear n0_ n1_)); have hcz42_0 : w41.cell? ⟨gb361, 0, none⟩ = some (.int .i64 a1_0) := (blk_cell BK361.out 0).trans rfl; have hcz42_1 : w41.cell? ⟨gb361, 1, none⟩ = some (.bool true) := (blk_cell BK361.out 1).trans rfl; have hcz42_2 : w41.cell? ⟨gb361, 2, none⟩ = some (.int .i64 a1_2) := (blk_cell BK361.out 2).trans rfl; have hcz42_3 : w41.cell? ⟨gb361, 3, none⟩ = some (.int .u64 a1_3) := (blk_cell BK361.out 3).trans rfl; have hfz42_0 := blk_frozen BK361.out 0; have hfz42_1 := blk_frozen BK361.out 1; have hfz42_2 := blk_frozen BK361.out 2; have hfz42_3 := blk_frozen BK361.out 3) | ((with_reducible refine gC (f := 36) rfl ?_); (with_reducible refine gD (N := 59) rfl ?_); refine goesY_ (some 59) Try.func36 #[.int .i64 a0, .int .u64 t367] ?_; (with_reducible refine (vernierref06_Neg.calls kj17 a0 t367 t368 _ A36.out).mono ?_); rintro e w43 ⟨rfl, hb⟩; refine ⟨_, rfl, ?_⟩; have n0_ := Aside0.mk (bB3 BK361.out hb); have n1_ := Aside0.mk (bS3 HB.out hb); clear BK361; clear HB; have BK361 := n0_; have HB := n1_; clear n0_ n1_; (try clear hb); (try clear hb2); (try clear hk); (try clear hi)) | ((with_reducible refine gC (f := 41) rfl ?_); (with_reducible refine gD (N := 62) rfl ?_); refine goesY_ (some 62) Try.func41 #[.int .i64 a0, .int .u64 t368] ?_; (with_reducible refine (vernierref06_Decode.calls kj17 a0 t368 t369 t370 t371 t372 _ A37.out).mono ?_); rintro e w44 ⟨rfl, hb⟩; refine ⟨_, rfl, ?_⟩; have n0_ := Aside0.mk (bB3 BK361.out hb); have n1_ := Aside0.mk (bS3 HB.out hb); clear BK361; clear HB; have BK361 := n0_; have HB := n1_; clear n0_ n1_; (try clear hb); (try clear hb2); (try clear hk); (try clear hi)) | ((with_reducible refine gD (N := 10) rfl ?_); refine bE3 10 #[.int .i64 0, .bool false, .int .i64 0, .int .u64 0] 40 ?hr ?_; (case hr => first | (go_simp; done) | (go_simp; rfl)); intro gb373 hg w45 hbox hb; have n0_ := Aside0.mk (bB3 BK361.out hb); have n1_ := Aside0.mk (bS3 HB.out hb); have n2_ := Aside0.mk (hbox); have n3_ := Aside0.mk ((bZ3 hg HB.out)); have n4_ := Aside0.mk ((bZ3 hg HB.out)); have n5_ := Aside0.mk ((bL3 hg BK361.out)); have n6_ := Aside0.mk ((bG3 hg BK361.out)); clear BK361; clear HB; have BK361 := n0_; have HB := n1_; have BK373 := n2_; have GW373 := n3_; have GE373 := n4_; have NB361_373 := n5_; have NB373_361 := n6_; clear n0_ n1_ n2_ n3_ n4_ n5_ n6_; clear hb hbox hg; have hnb46 := NB373_361.out; have hnc46 := NB361_373.out; have hcz47_0 : w45.cell? ⟨gb373, 0, none⟩ = some (.int .i64 0) := (blk_cell BK373.out 0).trans rfl; have hcz47_1 : w45.cell? ⟨gb373, 1, none⟩ = some (.bool false) := (blk_cell BK373.out 1).trans rfl; have hcz47_2 : w45.cell? ⟨gb373, 2, none⟩ = some (.int .i64 0) := (blk_cell BK373.out 2).trans rfl; have hcz47_3 : w45.cell? ⟨gb373, 3, none⟩ = some (.int .u64 0) := (blk_cell BK373.out 3).trans rfl; have hfz47_0 := blk_frozen BK373.out 0; have hfz47_1 := blk_frozen BK373.out 1; have hfz47_2 := blk_frozen BK373.out 2; have hfz47_3 := blk_frozen BK373.out 3; have hcz48_0 : w45.cell? ⟨gb361, 0, none⟩ = some (.int .i64 a1_0) := (blk_cell BK361.out 0).trans rfl; have hcz48_1 : w45.cell? ⟨gb361, 1, none⟩ = some (.bool true) := (blk_cell BK361.out 1).trans rfl; have hcz48_2 : w45.cell? ⟨gb361, 2, none⟩ = some (.int .i64 a1_2) := (blk_cell BK361.out 2).trans rfl; have hcz48_3 : w45.cell? ⟨gb361, 3, none⟩ = some (.int .u64 a1_3) := (blk_cell BK361.out 3).trans rfl; have hfz48_0 := blk_frozen BK361.out 0; have hfz48_1 := blk_frozen BK361.out 1; have hfz48_2 := blk_frozen BK361.out 2; have hfz48_3 := blk_frozen BK361.out 3))
                            go_ret2
                            exact ⟨by first | rfl | (simp [errW_none, errW_some] <;> rfl) | (simp only [← hji31]; first | rfl | (simp [errW_none, errW_some] <;> rfl)) | (simp [*, errW_none, errW_some] <;> rfl), by repeat (first | (with_reducible first | exact HB.out | apply pA | apply pN | apply p1 | refine pS ?_ GE361.out | refine pS ?_ GE373.out) | exact HB.out)⟩
                            all_goals (exfalso; have h_ := of_decide_eq_true c33b5; omega)
                          · rw [if_neg c38] at H
                            have c38b0 : (!(t369 == a1_0) || (!(t370 == true) || (!(t371 == a1_2) || (!(t372 == a1_3))))) = false := by simpa using c38
                            (try (have c38b9 := c38b0; simp only [beq_true, beq_false, Bool.not_not] at c38b9))
                            clear c38
                            simp only [Option.some.injEq, Prod.mk.injEq] at H
                            obtain ⟨rfl, rfl⟩ := H
                            try go_wp2
                            have n0_ := Aside0.mk (bD BK361.out)
                            have n1_ := Aside0.mk (p1 HB.out)
                            clear BK361
                            clear HB
                            have BK361 := n0_
                            have HB := n1_
                            clear n0_ n1_
                            refine start_ (n := 9) (S := fun w' => w'.cell? ⟨gb361, 0, none⟩ = some (.int .i64 a1_0) ∧ w'.cell? ⟨gb361, 1, none⟩ = some (.bool true) ∧ w'.cell? ⟨gb361, 2, none⟩ = some (.int .i64 a1_2) ∧ w'.cell? ⟨gb361, 3, none⟩ = some (.int .u64 a1_3)) (ds := []) #[false, false, false, false, false, false, false, false, false] (by kernel_rfl) rfl rfl ⟨(blk_cell BK361.out 0).trans rfl, (blk_cell BK361.out 1).trans rfl, (blk_cell BK361.out 2).trans rfl, (blk_cell BK361.out 3).trans rfl⟩ (fun hHeld => ?_); refine with_tabW vernierref06_Encode.tab14 vernierref06_Encode.bits14 (fun HT_ HW_ => ?_)
                            generalize wc.drew = w49 at BK361 HB hHeld ⊢
                            refine pure_ (i := 0) (N := some 42) (v := ?_) (a' := ?_) #[true, false, false, false, false, false, false, false, false] rfl rfl (any_of HT_.out (by kernel_rfl)) (fun _ _ _ h => h) (Or.inl ⟨by rfl, ?_⟩) ?_ ?_
                            rotate_left
                            · intro w'
                              go_simp
                              with_reducible rfl
                            rotate_left
                            · simp only [Act.put, List.setIfInBounds_toArray, List.set_cons_zero, List.set_cons_succ, i64_w, i32_w]
                              rfl
                            refine pure_ (i := 3) (N := some 45) (v := ?_) (a' := ?_) #[true, false, false, true, false, false, false, false, false] rfl rfl (any_of HT_.out (by kernel_rfl)) (fun _ _ _ h => h) (Or.inl ⟨by rfl, ?_⟩) ?_ ?_
                            rotate_left
                            · intro w'
                              go_simp
                              with_reducible rfl
                            rotate_left
                            · simp only [Act.put, List.setIfInBounds_toArray, List.set_cons_zero, List.set_cons_succ, i64_w, i32_w]
                              rfl
                            refine take_ (i := 1) (N := some 43) (v := ?_) (a' := ?_) #[true, true, false, true, false, false, false, false, false] rfl rfl (take_ofW HT_.out HW_.out (by kernel_rfl)) (fun _ _ _ h => h) (Or.inl ⟨by rfl, ?_⟩) hHeld ?_ ?_
                            rotate_left
                            · rintro w' ⟨s0, s1, s2, s3⟩
                              go_simp
                              with_reducible rfl
                            rotate_left
                            · simp only [Act.put, List.setIfInBounds_toArray, List.set_cons_zero, List.set_cons_succ, i64_w, i32_w]
                              rfl
                            refine take_ (i := 4) (N := some 46) (v := ?_) (a' := ?_) #[true, true, false, true, true, false, false, false, false] rfl rfl (take_ofW HT_.out HW_.out (by kernel_rfl)) (fun _ _ _ h => h) (Or.inl ⟨by rfl, ?_⟩) hHeld ?_ ?_
                            rotate_left
                            · rintro w' ⟨s0, s1, s2, s3⟩
                              go_simp
                              with_reducible rfl
                            rotate_left
                            · simp only [Act.put, List.setIfInBounds_toArray, List.set_cons_zero, List.set_cons_succ, i64_w, i32_w]
                              rfl
                            refine one_ (i := 2) (N := some 44) #[true, true, true, true, true, false, false, false, false] rfl rfl (one_of HT_.out (by kernel_rfl)) (by decide) (fun K hK => ?_)
                            refine goes_ Try.func40 (by kernel_rfl) rfl #[.int .i64 a1_2] (by rfl) rfl rfl (by (try simp only [List.map_toArray, List.map_cons, List.map_nil]); first | done | rfl | (simp only [List.length_drop, List.length_take]; rfl)) ?_
                            with_reducible refine (vernierref06_Head.calls kj17 a1_2 t365 _ A27.out).mono ?_
                            rintro e w50 ⟨rfl, hb⟩
                            refine ⟨_, rfl, ?_⟩
                            have n0_ := Aside0.mk (bB3 BK361.out hb)
                            have n1_ := Aside0.mk (bS3 HB.out hb)
                            clear BK361
                            clear HB
                            have BK361 := n0_
                            have HB := n1_
                            clear n0_ n1_
                            (try clear hb)
                            (try clear hb2)
                            (try clear hk)
                            (try clear hi)
                            refine hK.out _ _ ⟨(blk_cell BK361.out 0).trans rfl, (blk_cell BK361.out 1).trans rfl, (blk_cell BK361.out 2).trans rfl, (blk_cell BK361.out 3).trans rfl⟩ (fun hHeld => ?_)
                            clear hK K
                            refine norm_ (a' := ?_) ?_ ?_
                            rotate_left
                            · show Act.put _ (some 44) _ = _
                              simp only [Act.put, List.setIfInBounds_toArray, List.set_cons_zero, List.set_cons_succ, i64_w, i32_w]
                              rfl
                            refine one_ (i := 5) (N := some 47) #[true, true, true, true, true, true, false, false, false] rfl rfl (one_of HT_.out (by kernel_rfl)) (by decide) (fun K hK => ?_)
                            refine goes_ Try.func28 (by kernel_rfl) rfl #[.int .u64 a1_3, .int .i64 64] (by rfl) rfl rfl (by (try simp only [List.map_toArray, List.map_cons, List.map_nil]); first | done | rfl | (simp only [List.length_drop, List.length_take]; rfl)) ?_
                            with_reducible refine (vernierref01_Text.calls kj17 a1_3 64 t366 _ A28.out).mono ?_
                            rintro e w51 ⟨rfl, hb⟩
                            refine ⟨_, rfl, ?_⟩
                            have n0_ := Aside0.mk (bB3 BK361.out hb)
                            have n1_ := Aside0.mk (bS3 HB.out hb)
                            clear BK361
                            clear HB
                            have BK361 := n0_
                            have HB := n1_
                            clear n0_ n1_
                            (try clear hb)
                            (try clear hb2)
                            (try clear hk)
                            (try clear hi)
                            refine hK.out _ _ ⟨(blk_cell BK361.out 0).trans rfl, (blk_cell BK361.out 1).trans rfl, (blk_cell BK361.out 2).trans rfl, (blk_cell BK361.out 3).trans rfl⟩ (fun hHeld => ?_)
                            clear hK K
                            refine norm_ (a' := ?_) ?_ ?_
                            rotate_left
                            · show Act.put _ (some 47) _ = _
                              simp only [Act.put, List.setIfInBounds_toArray, List.set_cons_zero, List.set_cons_succ, i64_w, i32_w]
                              rfl
                            refine pure_ (i := 6) (N := some 48) (v := ?_) (a' := ?_) #[true, true, true, true, true, true, true, false, false] rfl rfl (any_of HT_.out (by kernel_rfl)) (fun _ _ _ h => h) (Or.inl ⟨by rfl, ?_⟩) ?_ ?_
                            rotate_left
                            · intro w'
                              go_simp
                              with_reducible rfl
                            rotate_left
                            · simp only [Act.put, List.setIfInBounds_toArray, List.set_cons_zero, List.set_cons_succ, i64_w, i32_w]
                              rfl
                            refine pure_ (i := 7) (N := some 49) (v := ?_) (a' := ?_) #[true, true, true, true, true, true, true, true, false] rfl rfl (any_of HT_.out (by kernel_rfl)) (fun _ _ _ h => h) (Or.inl ⟨by rfl, ?_⟩) ?_ ?_
                            rotate_left
                            · intro w'
                              go_simp
                              with_reducible rfl
                            rotate_left
                            · simp only [Act.put, List.setIfInBounds_toArray, List.set_cons_zero, List.set_cons_succ, i64_w, i32_w]
                              rfl
                            refine pure_ (i := 8) (N := some 8) (v := ?_) (a' := ?_) #[true, true, true, true, true, true, true, true, true] rfl rfl (any_of HT_.out (by kernel_rfl)) (fun _ _ _ h => h) (Or.inl ⟨by rfl, ?_⟩) ?_ ?_
                            rotate_left
                            · intro w'
                              go_simp
                              with_reducible rfl
                            rotate_left
                            · simp only [Act.put, List.setIfInBounds_toArray, List.set_cons_zero, List.set_cons_succ, i64_w, i32_w]
                              rfl
                            refine done_ (done_of HT_.out (by kernel_rfl)) ?_
                            try go_wp2_with (first | ((with_reducible refine gC (f := 30) rfl ?_); (with_reducible refine gD (N := 54) rfl ?_); refine goesL_ (some 54) rfl rfl Try.func30 (by kernel_rfl) rfl #[.string ((t365 ++ (t366.extract 1 t366.size)).extract 0 ((ji31) : Int).toNat)] rfl (by (try simp only [List.map_toArray, List.map_cons, List.map_nil]); first | done | (simp only [hji31]; rfl) | rfl | (simp only [List.length_drop, List.length_take]; rfl)) ?_; (with_reducible refine (vernierref01_Number.calls kj17 ((t365 ++ (t366.extract 1 t366.size)).extract 0 ((ji31) : Int).toNat) t367 _ A34.out).mono ?_); rintro e w' ⟨rfl, ⟨nd, rfl⟩⟩; refine ⟨_, rfl, ?_⟩; (try (rw [drewN_self w51]; generalize hq_ : World.drewN w51 _ = w51; have n0_ : Aside0 (w51.heap[gb361]? = some (.cells #[.int .i64 a1_0, .bool true, .int .i64 a1_2, .int .u64 a1_3] 40 (0, 0))) := ⟨by rw [← hq_]; exact (by (with_reducible repeat (first | refine bN ?_ _ | refine bD ?_ | refine bA ?_ _)); exact BK361.out)⟩; have n1_ : Aside0 (Below w.heap.size w w51) := ⟨by rw [← hq_]; exact (by repeat (first | (with_reducible first | exact HB.out | apply pA | apply pN | apply p1 | refine pS ?_ GE361.out) | exact HB.out))⟩; clear BK361 HB hq_; have BK361 := n0_; have HB := n1_; clear n0_ n1_)); have hcz52_0 : w51.cell? ⟨gb361, 0, none⟩ = some (.int .i64 a1_0) := (blk_cell BK361.out 0).trans rfl; have hcz52_1 : w51.cell? ⟨gb361, 1, none⟩ = some (.bool true) := (blk_cell BK361.out 1).trans rfl; have hcz52_2 : w51.cell? ⟨gb361, 2, none⟩ = some (.int .i64 a1_2) := (blk_cell BK361.out 2).trans rfl; have hcz52_3 : w51.cell? ⟨gb361, 3, none⟩ = some (.int .u64 a1_3) := (blk_cell BK361.out 3).trans rfl; have hfz52_0 := blk_frozen BK361.out 0; have hfz52_1 := blk_frozen BK361.out 1; have hfz52_2 := blk_frozen BK361.out 2; have hfz52_3 := blk_frozen BK361.out 3) | ((with_reducible refine gC (f := 36) rfl ?_); (with_reducible refine gD (N := 59) rfl ?_); refine goesY_ (some 59) Try.func36 #[.int .i64 a0, .int .u64 t367] ?_; (with_reducible refine (vernierref06_Neg.calls kj17 a0 t367 t368 _ A36.out).mono ?_); rintro e w53 ⟨rfl, hb⟩; refine ⟨_, rfl, ?_⟩; have n0_ := Aside0.mk (bB3 BK361.out hb); have n1_ := Aside0.mk (bS3 HB.out hb); clear BK361; clear HB; have BK361 := n0_; have HB := n1_; clear n0_ n1_; (try clear hb); (try clear hb2); (try clear hk); (try clear hi)) | ((with_reducible refine gC (f := 41) rfl ?_); (with_reducible refine gD (N := 62) rfl ?_); refine goesY_ (some 62) Try.func41 #[.int .i64 a0, .int .u64 t368] ?_; (with_reducible refine (vernierref06_Decode.calls kj17 a0 t368 t369 t370 t371 t372 _ A37.out).mono ?_); rintro e w54 ⟨rfl, hb⟩; refine ⟨_, rfl, ?_⟩; have n0_ := Aside0.mk (bB3 BK361.out hb); have n1_ := Aside0.mk (bS3 HB.out hb); clear BK361; clear HB; have BK361 := n0_; have HB := n1_; clear n0_ n1_; (try clear hb); (try clear hb2); (try clear hk); (try clear hi)) | ((with_reducible refine gD (N := 10) rfl ?_); refine bE3 10 #[.int .i64 0, .bool false, .int .i64 0, .int .u64 0] 40 ?hr ?_; (case hr => first | (go_simp; done) | (go_simp; rfl)); intro gb373 hg w55 hbox hb; have n0_ := Aside0.mk (bB3 BK361.out hb); have n1_ := Aside0.mk (bS3 HB.out hb); have n2_ := Aside0.mk (hbox); have n3_ := Aside0.mk ((bZ3 hg HB.out)); have n4_ := Aside0.mk ((bZ3 hg HB.out)); have n5_ := Aside0.mk ((bL3 hg BK361.out)); have n6_ := Aside0.mk ((bG3 hg BK361.out)); clear BK361; clear HB; have BK361 := n0_; have HB := n1_; have BK373 := n2_; have GW373 := n3_; have GE373 := n4_; have NB361_373 := n5_; have NB373_361 := n6_; clear n0_ n1_ n2_ n3_ n4_ n5_ n6_; clear hb hbox hg; have hnb56 := NB373_361.out; have hnc56 := NB361_373.out; have hcz57_0 : w55.cell? ⟨gb373, 0, none⟩ = some (.int .i64 0) := (blk_cell BK373.out 0).trans rfl; have hcz57_1 : w55.cell? ⟨gb373, 1, none⟩ = some (.bool false) := (blk_cell BK373.out 1).trans rfl; have hcz57_2 : w55.cell? ⟨gb373, 2, none⟩ = some (.int .i64 0) := (blk_cell BK373.out 2).trans rfl; have hcz57_3 : w55.cell? ⟨gb373, 3, none⟩ = some (.int .u64 0) := (blk_cell BK373.out 3).trans rfl; have hfz57_0 := blk_frozen BK373.out 0; have hfz57_1 := blk_frozen BK373.out 1; have hfz57_2 := blk_frozen BK373.out 2; have hfz57_3 := blk_frozen BK373.out 3; have hcz58_0 : w55.cell? ⟨gb361, 0, none⟩ = some (.int .i64 a1_0) := (blk_cell BK361.out 0).trans rfl; have hcz58_1 : w55.cell? ⟨gb361, 1, none⟩ = some (.bool true) := (blk_cell BK361.out 1).trans rfl; have hcz58_2 : w55.cell? ⟨gb361, 2, none⟩ = some (.int .i64 a1_2) := (blk_cell BK361.out 2).trans rfl; have hcz58_3 : w55.cell? ⟨gb361, 3, none⟩ = some (.int .u64 a1_3) := (blk_cell BK361.out 3).trans rfl; have hfz58_0 := blk_frozen BK361.out 0; have hfz58_1 := blk_frozen BK361.out 1; have hfz58_2 := blk_frozen BK361.out 2; have hfz58_3 := blk_frozen BK361.out 3))
                            go_ret2
                            exact ⟨by first | rfl | (simp [errW_none, errW_some] <;> rfl) | (simp only [← hji31]; first | rfl | (simp [errW_none, errW_some] <;> rfl)) | (simp [*, errW_none, errW_some] <;> rfl), by repeat (first | (with_reducible first | exact HB.out | apply pA | apply pN | apply p1 | refine pS ?_ GE361.out | refine pS ?_ GE373.out) | exact HB.out)⟩
                            all_goals (exfalso; have h_ := of_decide_eq_true c33b5; omega)
                        · replace c35 := Bool.eq_false_iff.mpr c35
                          subst c35
                          have H1 : ((vernierref06_Decode.f kj17 a0 t367).bind fun bt374 => (if (!(bt374.1 == a1_0) || (!(bt374.2.1 == false) || (!(bt374.2.2.1 == a1_2) || (!(bt374.2.2.2 == a1_3))))) = true then (some (0, 8)) else (some (t367, 0)))) = some (r1, r2) := by rw [if_neg (show ¬ (false = true) by decide)] at H; exact H
                          clear H
                          have H := H1
                          clear H1
                          replace H := Option.bind_eq_some_iff.mp H
                          obtain ⟨⟨t374, t375, t376, t377⟩, A590, H⟩ := H
                          replace H : (if (!(t374 == a1_0) || (!(t375 == false) || (!(t376 == a1_2) || (!(t377 == a1_3))))) = true then (some (0, 8)) else (some (t367, 0))) = some (r1, r2) := H
                          have A59 := Aside0.mk A590
                          clear A590
                          by_cases c60 : (!(t374 == a1_0) || (!(t375 == false) || (!(t376 == a1_2) || (!(t377 == a1_3))))) = true
                          · rw [if_pos c60] at H
                            have c60b0 : (!(t374 == a1_0) || (!(t375 == false) || (!(t376 == a1_2) || (!(t377 == a1_3))))) = true := c60
                            (try (have c60b9 := c60b0; simp only [beq_true, beq_false, Bool.not_not] at c60b9))
                            clear c60
                            simp only [Option.some.injEq, Prod.mk.injEq] at H
                            obtain ⟨rfl, rfl⟩ := H
                            try go_wp2
                            have n0_ := Aside0.mk (bD BK361.out)
                            have n1_ := Aside0.mk (p1 HB.out)
                            clear BK361
                            clear HB
                            have BK361 := n0_
                            have HB := n1_
                            clear n0_ n1_
                            refine start_ (n := 9) (S := fun w' => w'.cell? ⟨gb361, 0, none⟩ = some (.int .i64 a1_0) ∧ w'.cell? ⟨gb361, 1, none⟩ = some (.bool false) ∧ w'.cell? ⟨gb361, 2, none⟩ = some (.int .i64 a1_2) ∧ w'.cell? ⟨gb361, 3, none⟩ = some (.int .u64 a1_3)) (ds := []) #[false, false, false, false, false, false, false, false, false] (by kernel_rfl) rfl rfl ⟨(blk_cell BK361.out 0).trans rfl, (blk_cell BK361.out 1).trans rfl, (blk_cell BK361.out 2).trans rfl, (blk_cell BK361.out 3).trans rfl⟩ (fun hHeld => ?_); refine with_tabW vernierref06_Encode.tab14 vernierref06_Encode.bits14 (fun HT_ HW_ => ?_)
                            generalize wc.drew = w61 at BK361 HB hHeld ⊢
                            refine pure_ (i := 0) (N := some 42) (v := ?_) (a' := ?_) #[true, false, false, false, false, false, false, false, false] rfl rfl (any_of HT_.out (by kernel_rfl)) (fun _ _ _ h => h) (Or.inl ⟨by rfl, ?_⟩) ?_ ?_
                            rotate_left
                            · intro w'
                              go_simp
                              with_reducible rfl
                            rotate_left
                            · simp only [Act.put, List.setIfInBounds_toArray, List.set_cons_zero, List.set_cons_succ, i64_w, i32_w]
                              rfl
                            refine pure_ (i := 3) (N := some 45) (v := ?_) (a' := ?_) #[true, false, false, true, false, false, false, false, false] rfl rfl (any_of HT_.out (by kernel_rfl)) (fun _ _ _ h => h) (Or.inl ⟨by rfl, ?_⟩) ?_ ?_
                            rotate_left
                            · intro w'
                              go_simp
                              with_reducible rfl
                            rotate_left
                            · simp only [Act.put, List.setIfInBounds_toArray, List.set_cons_zero, List.set_cons_succ, i64_w, i32_w]
                              rfl
                            refine take_ (i := 1) (N := some 43) (v := ?_) (a' := ?_) #[true, true, false, true, false, false, false, false, false] rfl rfl (take_ofW HT_.out HW_.out (by kernel_rfl)) (fun _ _ _ h => h) (Or.inl ⟨by rfl, ?_⟩) hHeld ?_ ?_
                            rotate_left
                            · rintro w' ⟨s0, s1, s2, s3⟩
                              go_simp
                              with_reducible rfl
                            rotate_left
                            · simp only [Act.put, List.setIfInBounds_toArray, List.set_cons_zero, List.set_cons_succ, i64_w, i32_w]
                              rfl
                            refine take_ (i := 4) (N := some 46) (v := ?_) (a' := ?_) #[true, true, false, true, true, false, false, false, false] rfl rfl (take_ofW HT_.out HW_.out (by kernel_rfl)) (fun _ _ _ h => h) (Or.inl ⟨by rfl, ?_⟩) hHeld ?_ ?_
                            rotate_left
                            · rintro w' ⟨s0, s1, s2, s3⟩
                              go_simp
                              with_reducible rfl
                            rotate_left
                            · simp only [Act.put, List.setIfInBounds_toArray, List.set_cons_zero, List.set_cons_succ, i64_w, i32_w]
                              rfl
                            refine one_ (i := 2) (N := some 44) #[true, true, true, true, true, false, false, false, false] rfl rfl (one_of HT_.out (by kernel_rfl)) (by decide) (fun K hK => ?_)
                            refine goes_ Try.func40 (by kernel_rfl) rfl #[.int .i64 a1_2] (by rfl) rfl rfl (by (try simp only [List.map_toArray, List.map_cons, List.map_nil]); first | done | rfl | (simp only [List.length_drop, List.length_take]; rfl)) ?_
                            with_reducible refine (vernierref06_Head.calls kj17 a1_2 t365 _ A27.out).mono ?_
                            rintro e w62 ⟨rfl, hb⟩
                            refine ⟨_, rfl, ?_⟩
                            have n0_ := Aside0.mk (bB3 BK361.out hb)
                            have n1_ := Aside0.mk (bS3 HB.out hb)
                            clear BK361
                            clear HB
                            have BK361 := n0_
                            have HB := n1_
                            clear n0_ n1_
                            (try clear hb)
                            (try clear hb2)
                            (try clear hk)
                            (try clear hi)
                            refine hK.out _ _ ⟨(blk_cell BK361.out 0).trans rfl, (blk_cell BK361.out 1).trans rfl, (blk_cell BK361.out 2).trans rfl, (blk_cell BK361.out 3).trans rfl⟩ (fun hHeld => ?_)
                            clear hK K
                            refine norm_ (a' := ?_) ?_ ?_
                            rotate_left
                            · show Act.put _ (some 44) _ = _
                              simp only [Act.put, List.setIfInBounds_toArray, List.set_cons_zero, List.set_cons_succ, i64_w, i32_w]
                              rfl
                            refine one_ (i := 5) (N := some 47) #[true, true, true, true, true, true, false, false, false] rfl rfl (one_of HT_.out (by kernel_rfl)) (by decide) (fun K hK => ?_)
                            refine goes_ Try.func28 (by kernel_rfl) rfl #[.int .u64 a1_3, .int .i64 64] (by rfl) rfl rfl (by (try simp only [List.map_toArray, List.map_cons, List.map_nil]); first | done | rfl | (simp only [List.length_drop, List.length_take]; rfl)) ?_
                            with_reducible refine (vernierref01_Text.calls kj17 a1_3 64 t366 _ A28.out).mono ?_
                            rintro e w63 ⟨rfl, hb⟩
                            refine ⟨_, rfl, ?_⟩
                            have n0_ := Aside0.mk (bB3 BK361.out hb)
                            have n1_ := Aside0.mk (bS3 HB.out hb)
                            clear BK361
                            clear HB
                            have BK361 := n0_
                            have HB := n1_
                            clear n0_ n1_
                            (try clear hb)
                            (try clear hb2)
                            (try clear hk)
                            (try clear hi)
                            refine hK.out _ _ ⟨(blk_cell BK361.out 0).trans rfl, (blk_cell BK361.out 1).trans rfl, (blk_cell BK361.out 2).trans rfl, (blk_cell BK361.out 3).trans rfl⟩ (fun hHeld => ?_)
                            clear hK K
                            refine norm_ (a' := ?_) ?_ ?_
                            rotate_left
                            · show Act.put _ (some 47) _ = _
                              simp only [Act.put, List.setIfInBounds_toArray, List.set_cons_zero, List.set_cons_succ, i64_w, i32_w]
                              rfl
                            refine pure_ (i := 6) (N := some 48) (v := ?_) (a' := ?_) #[true, true, true, true, true, true, true, false, false] rfl rfl (any_of HT_.out (by kernel_rfl)) (fun _ _ _ h => h) (Or.inl ⟨by rfl, ?_⟩) ?_ ?_
                            rotate_left
                            · intro w'
                              go_simp
                              with_reducible rfl
                            rotate_left
                            · simp only [Act.put, List.setIfInBounds_toArray, List.set_cons_zero, List.set_cons_succ, i64_w, i32_w]
                              rfl
                            refine pure_ (i := 7) (N := some 49) (v := ?_) (a' := ?_) #[true, true, true, true, true, true, true, true, false] rfl rfl (any_of HT_.out (by kernel_rfl)) (fun _ _ _ h => h) (Or.inl ⟨by rfl, ?_⟩) ?_ ?_
                            rotate_left
                            · intro w'
                              go_simp
                              with_reducible rfl
                            rotate_left
                            · simp only [Act.put, List.setIfInBounds_toArray, List.set_cons_zero, List.set_cons_succ, i64_w, i32_w]
                              rfl
                            refine pure_ (i := 8) (N := some 8) (v := ?_) (a' := ?_) #[true, true, true, true, true, true, true, true, true] rfl rfl (any_of HT_.out (by kernel_rfl)) (fun _ _ _ h => h) (Or.inl ⟨by rfl, ?_⟩) ?_ ?_
                            rotate_left
                            · intro w'
                              go_simp
                              with_reducible rfl
                            rotate_left
                            · simp only [Act.put, List.setIfInBounds_toArray, List.set_cons_zero, List.set_cons_succ, i64_w, i32_w]
                              rfl
                            refine done_ (done_of HT_.out (by kernel_rfl)) ?_
                            try go_wp2_with (first | ((with_reducible refine gC (f := 30) rfl ?_); (with_reducible refine gD (N := 54) rfl ?_); refine goesL_ (some 54) rfl rfl Try.func30 (by kernel_rfl) rfl #[.string ((t365 ++ (t366.extract 1 t366.size)).extract 0 ((ji31) : Int).toNat)] rfl (by (try simp only [List.map_toArray, List.map_cons, List.map_nil]); first | done | (simp only [hji31]; rfl) | rfl | (simp only [List.length_drop, List.length_take]; rfl)) ?_; (with_reducible refine (vernierref01_Number.calls kj17 ((t365 ++ (t366.extract 1 t366.size)).extract 0 ((ji31) : Int).toNat) t367 _ A34.out).mono ?_); rintro e w' ⟨rfl, ⟨nd, rfl⟩⟩; refine ⟨_, rfl, ?_⟩; (try (rw [drewN_self w63]; generalize hq_ : World.drewN w63 _ = w63; have n0_ : Aside0 (w63.heap[gb361]? = some (.cells #[.int .i64 a1_0, .bool false, .int .i64 a1_2, .int .u64 a1_3] 40 (0, 0))) := ⟨by rw [← hq_]; exact (by (with_reducible repeat (first | refine bN ?_ _ | refine bD ?_ | refine bA ?_ _)); exact BK361.out)⟩; have n1_ : Aside0 (Below w.heap.size w w63) := ⟨by rw [← hq_]; exact (by repeat (first | (with_reducible first | exact HB.out | apply pA | apply pN | apply p1 | refine pS ?_ GE361.out) | exact HB.out))⟩; clear BK361 HB hq_; have BK361 := n0_; have HB := n1_; clear n0_ n1_)); have hcz64_0 : w63.cell? ⟨gb361, 0, none⟩ = some (.int .i64 a1_0) := (blk_cell BK361.out 0).trans rfl; have hcz64_1 : w63.cell? ⟨gb361, 1, none⟩ = some (.bool false) := (blk_cell BK361.out 1).trans rfl; have hcz64_2 : w63.cell? ⟨gb361, 2, none⟩ = some (.int .i64 a1_2) := (blk_cell BK361.out 2).trans rfl; have hcz64_3 : w63.cell? ⟨gb361, 3, none⟩ = some (.int .u64 a1_3) := (blk_cell BK361.out 3).trans rfl; have hfz64_0 := blk_frozen BK361.out 0; have hfz64_1 := blk_frozen BK361.out 1; have hfz64_2 := blk_frozen BK361.out 2; have hfz64_3 := blk_frozen BK361.out 3) | ((with_reducible refine gC (f := 41) rfl ?_); (with_reducible refine gD (N := 62) rfl ?_); refine goesY_ (some 62) Try.func41 #[.int .i64 a0, .int .u64 t367] ?_; (with_reducible refine (vernierref06_Decode.calls kj17 a0 t367 t374 t375 t376 t377 _ A59.out).mono ?_); rintro e w65 ⟨rfl, hb⟩; refine ⟨_, rfl, ?_⟩; have n0_ := Aside0.mk (bB3 BK361.out hb); have n1_ := Aside0.mk (bS3 HB.out hb); clear BK361; clear HB; have BK361 := n0_; have HB := n1_; clear n0_ n1_; (try clear hb); (try clear hb2); (try clear hk); (try clear hi)) | ((with_reducible refine gD (N := 10) rfl ?_); refine bE3 10 #[.int .i64 0, .bool false, .int .i64 0, .int .u64 0] 40 ?hr ?_; (case hr => first | (go_simp; done) | (go_simp; rfl)); intro gb378 hg w66 hbox hb; have n0_ := Aside0.mk (bB3 BK361.out hb); have n1_ := Aside0.mk (bS3 HB.out hb); have n2_ := Aside0.mk (hbox); have n3_ := Aside0.mk ((bZ3 hg HB.out)); have n4_ := Aside0.mk ((bZ3 hg HB.out)); have n5_ := Aside0.mk ((bL3 hg BK361.out)); have n6_ := Aside0.mk ((bG3 hg BK361.out)); clear BK361; clear HB; have BK361 := n0_; have HB := n1_; have BK378 := n2_; have GW378 := n3_; have GE378 := n4_; have NB361_378 := n5_; have NB378_361 := n6_; clear n0_ n1_ n2_ n3_ n4_ n5_ n6_; clear hb hbox hg; have hnb67 := NB378_361.out; have hnc67 := NB361_378.out; have hcz68_0 : w66.cell? ⟨gb378, 0, none⟩ = some (.int .i64 0) := (blk_cell BK378.out 0).trans rfl; have hcz68_1 : w66.cell? ⟨gb378, 1, none⟩ = some (.bool false) := (blk_cell BK378.out 1).trans rfl; have hcz68_2 : w66.cell? ⟨gb378, 2, none⟩ = some (.int .i64 0) := (blk_cell BK378.out 2).trans rfl; have hcz68_3 : w66.cell? ⟨gb378, 3, none⟩ = some (.int .u64 0) := (blk_cell BK378.out 3).trans rfl; have hfz68_0 := blk_frozen BK378.out 0; have hfz68_1 := blk_frozen BK378.out 1; have hfz68_2 := blk_frozen BK378.out 2; have hfz68_3 := blk_frozen BK378.out 3; have hcz69_0 : w66.cell? ⟨gb361, 0, none⟩ = some (.int .i64 a1_0) := (blk_cell BK361.out 0).trans rfl; have hcz69_1 : w66.cell? ⟨gb361, 1, none⟩ = some (.bool false) := (blk_cell BK361.out 1).trans rfl; have hcz69_2 : w66.cell? ⟨gb361, 2, none⟩ = some (.int .i64 a1_2) := (blk_cell BK361.out 2).trans rfl; have hcz69_3 : w66.cell? ⟨gb361, 3, none⟩ = some (.int .u64 a1_3) := (blk_cell BK361.out 3).trans rfl; have hfz69_0 := blk_frozen BK361.out 0; have hfz69_1 := blk_frozen BK361.out 1; have hfz69_2 := blk_frozen BK361.out 2; have hfz69_3 := blk_frozen BK361.out 3))
                            go_ret2
                            exact ⟨by first | rfl | (simp [errW_none, errW_some] <;> rfl) | (simp only [← hji31]; first | rfl | (simp [errW_none, errW_some] <;> rfl)) | (simp [*, errW_none, errW_some] <;> rfl), by repeat (first | (with_reducible first | exact HB.out | apply pA | apply pN | apply p1 | refine pS ?_ GE361.out | refine pS ?_ GE378.out) | exact HB.out)⟩
                            all_goals (exfalso; have h_ := of_decide_eq_true c33b5; omega)
                          · rw [if_neg c60] at H
                            have c60b0 : (!(t374 == a1_0) || (!(t375 == false) || (!(t376 == a1_2) || (!(t377 == a1_3))))) = false := by simpa using c60
                            (try (have c60b9 := c60b0; simp only [beq_true, beq_false, Bool.not_not] at c60b9))
                            clear c60
                            simp only [Option.some.injEq, Prod.mk.injEq] at H
                            obtain ⟨rfl, rfl⟩ := H
                            try go_wp2
                            have n0_ := Aside0.mk (bD BK361.out)
                            have n1_ := Aside0.mk (p1 HB.out)
                            clear BK361
                            clear HB
                            have BK361 := n0_
                            have HB := n1_
                            clear n0_ n1_
                            refine start_ (n := 9) (S := fun w' => w'.cell? ⟨gb361, 0, none⟩ = some (.int .i64 a1_0) ∧ w'.cell? ⟨gb361, 1, none⟩ = some (.bool false) ∧ w'.cell? ⟨gb361, 2, none⟩ = some (.int .i64 a1_2) ∧ w'.cell? ⟨gb361, 3, none⟩ = some (.int .u64 a1_3)) (ds := []) #[false, false, false, false, false, false, false, false, false] (by kernel_rfl) rfl rfl ⟨(blk_cell BK361.out 0).trans rfl, (blk_cell BK361.out 1).trans rfl, (blk_cell BK361.out 2).trans rfl, (blk_cell BK361.out 3).trans rfl⟩ (fun hHeld => ?_); refine with_tabW vernierref06_Encode.tab14 vernierref06_Encode.bits14 (fun HT_ HW_ => ?_)
                            generalize wc.drew = w70 at BK361 HB hHeld ⊢
                            refine pure_ (i := 0) (N := some 42) (v := ?_) (a' := ?_) #[true, false, false, false, false, false, false, false, false] rfl rfl (any_of HT_.out (by kernel_rfl)) (fun _ _ _ h => h) (Or.inl ⟨by rfl, ?_⟩) ?_ ?_
                            rotate_left
                            · intro w'
                              go_simp
                              with_reducible rfl
                            rotate_left
                            · simp only [Act.put, List.setIfInBounds_toArray, List.set_cons_zero, List.set_cons_succ, i64_w, i32_w]
                              rfl
                            refine pure_ (i := 3) (N := some 45) (v := ?_) (a' := ?_) #[true, false, false, true, false, false, false, false, false] rfl rfl (any_of HT_.out (by kernel_rfl)) (fun _ _ _ h => h) (Or.inl ⟨by rfl, ?_⟩) ?_ ?_
                            rotate_left
                            · intro w'
                              go_simp
                              with_reducible rfl
                            rotate_left
                            · simp only [Act.put, List.setIfInBounds_toArray, List.set_cons_zero, List.set_cons_succ, i64_w, i32_w]
                              rfl
                            refine take_ (i := 1) (N := some 43) (v := ?_) (a' := ?_) #[true, true, false, true, false, false, false, false, false] rfl rfl (take_ofW HT_.out HW_.out (by kernel_rfl)) (fun _ _ _ h => h) (Or.inl ⟨by rfl, ?_⟩) hHeld ?_ ?_
                            rotate_left
                            · rintro w' ⟨s0, s1, s2, s3⟩
                              go_simp
                              with_reducible rfl
                            rotate_left
                            · simp only [Act.put, List.setIfInBounds_toArray, List.set_cons_zero, List.set_cons_succ, i64_w, i32_w]
                              rfl
                            refine take_ (i := 4) (N := some 46) (v := ?_) (a' := ?_) #[true, true, false, true, true, false, false, false, false] rfl rfl (take_ofW HT_.out HW_.out (by kernel_rfl)) (fun _ _ _ h => h) (Or.inl ⟨by rfl, ?_⟩) hHeld ?_ ?_
                            rotate_left
                            · rintro w' ⟨s0, s1, s2, s3⟩
                              go_simp
                              with_reducible rfl
                            rotate_left
                            · simp only [Act.put, List.setIfInBounds_toArray, List.set_cons_zero, List.set_cons_succ, i64_w, i32_w]
                              rfl
                            refine one_ (i := 2) (N := some 44) #[true, true, true, true, true, false, false, false, false] rfl rfl (one_of HT_.out (by kernel_rfl)) (by decide) (fun K hK => ?_)
                            refine goes_ Try.func40 (by kernel_rfl) rfl #[.int .i64 a1_2] (by rfl) rfl rfl (by (try simp only [List.map_toArray, List.map_cons, List.map_nil]); first | done | rfl | (simp only [List.length_drop, List.length_take]; rfl)) ?_
                            with_reducible refine (vernierref06_Head.calls kj17 a1_2 t365 _ A27.out).mono ?_
                            rintro e w71 ⟨rfl, hb⟩
                            refine ⟨_, rfl, ?_⟩
                            have n0_ := Aside0.mk (bB3 BK361.out hb)
                            have n1_ := Aside0.mk (bS3 HB.out hb)
                            clear BK361
                            clear HB
                            have BK361 := n0_
                            have HB := n1_
                            clear n0_ n1_
                            (try clear hb)
                            (try clear hb2)
                            (try clear hk)
                            (try clear hi)
                            refine hK.out _ _ ⟨(blk_cell BK361.out 0).trans rfl, (blk_cell BK361.out 1).trans rfl, (blk_cell BK361.out 2).trans rfl, (blk_cell BK361.out 3).trans rfl⟩ (fun hHeld => ?_)
                            clear hK K
                            refine norm_ (a' := ?_) ?_ ?_
                            rotate_left
                            · show Act.put _ (some 44) _ = _
                              simp only [Act.put, List.setIfInBounds_toArray, List.set_cons_zero, List.set_cons_succ, i64_w, i32_w]
                              rfl
                            refine one_ (i := 5) (N := some 47) #[true, true, true, true, true, true, false, false, false] rfl rfl (one_of HT_.out (by kernel_rfl)) (by decide) (fun K hK => ?_)
                            refine goes_ Try.func28 (by kernel_rfl) rfl #[.int .u64 a1_3, .int .i64 64] (by rfl) rfl rfl (by (try simp only [List.map_toArray, List.map_cons, List.map_nil]); first | done | rfl | (simp only [List.length_drop, List.length_take]; rfl)) ?_
                            with_reducible refine (vernierref01_Text.calls kj17 a1_3 64 t366 _ A28.out).mono ?_
                            rintro e w72 ⟨rfl, hb⟩
                            refine ⟨_, rfl, ?_⟩
                            have n0_ := Aside0.mk (bB3 BK361.out hb)
                            have n1_ := Aside0.mk (bS3 HB.out hb)
                            clear BK361
                            clear HB
                            have BK361 := n0_
                            have HB := n1_
                            clear n0_ n1_
                            (try clear hb)
                            (try clear hb2)
                            (try clear hk)
                            (try clear hi)
                            refine hK.out _ _ ⟨(blk_cell BK361.out 0).trans rfl, (blk_cell BK361.out 1).trans rfl, (blk_cell BK361.out 2).trans rfl, (blk_cell BK361.out 3).trans rfl⟩ (fun hHeld => ?_)
                            clear hK K
                            refine norm_ (a' := ?_) ?_ ?_
                            rotate_left
                            · show Act.put _ (some 47) _ = _
                              simp only [Act.put, List.setIfInBounds_toArray, List.set_cons_zero, List.set_cons_succ, i64_w, i32_w]
                              rfl
                            refine pure_ (i := 6) (N := some 48) (v := ?_) (a' := ?_) #[true, true, true, true, true, true, true, false, false] rfl rfl (any_of HT_.out (by kernel_rfl)) (fun _ _ _ h => h) (Or.inl ⟨by rfl, ?_⟩) ?_ ?_
                            rotate_left
                            · intro w'
                              go_simp
                              with_reducible rfl
                            rotate_left
                            · simp only [Act.put, List.setIfInBounds_toArray, List.set_cons_zero, List.set_cons_succ, i64_w, i32_w]
                              rfl
                            refine pure_ (i := 7) (N := some 49) (v := ?_) (a' := ?_) #[true, true, true, true, true, true, true, true, false] rfl rfl (any_of HT_.out (by kernel_rfl)) (fun _ _ _ h => h) (Or.inl ⟨by rfl, ?_⟩) ?_ ?_
                            rotate_left
                            · intro w'
                              go_simp
                              with_reducible rfl
                            rotate_left
                            · simp only [Act.put, List.setIfInBounds_toArray, List.set_cons_zero, List.set_cons_succ, i64_w, i32_w]
                              rfl
                            refine pure_ (i := 8) (N := some 8) (v := ?_) (a' := ?_) #[true, true, true, true, true, true, true, true, true] rfl rfl (any_of HT_.out (by kernel_rfl)) (fun _ _ _ h => h) (Or.inl ⟨by rfl, ?_⟩) ?_ ?_
                            rotate_left
                            · intro w'
                              go_simp
                              with_reducible rfl
                            rotate_left
                            · simp only [Act.put, List.setIfInBounds_toArray, List.set_cons_zero, List.set_cons_succ, i64_w, i32_w]
                              rfl
                            refine done_ (done_of HT_.out (by kernel_rfl)) ?_
                            try go_wp2_with (first | ((with_reducible refine gC (f := 30) rfl ?_); (with_reducible refine gD (N := 54) rfl ?_); refine goesL_ (some 54) rfl rfl Try.func30 (by kernel_rfl) rfl #[.string ((t365 ++ (t366.extract 1 t366.size)).extract 0 ((ji31) : Int).toNat)] rfl (by (try simp only [List.map_toArray, List.map_cons, List.map_nil]); first | done | (simp only [hji31]; rfl) | rfl | (simp only [List.length_drop, List.length_take]; rfl)) ?_; (with_reducible refine (vernierref01_Number.calls kj17 ((t365 ++ (t366.extract 1 t366.size)).extract 0 ((ji31) : Int).toNat) t367 _ A34.out).mono ?_); rintro e w' ⟨rfl, ⟨nd, rfl⟩⟩; refine ⟨_, rfl, ?_⟩; (try (rw [drewN_self w72]; generalize hq_ : World.drewN w72 _ = w72; have n0_ : Aside0 (w72.heap[gb361]? = some (.cells #[.int .i64 a1_0, .bool false, .int .i64 a1_2, .int .u64 a1_3] 40 (0, 0))) := ⟨by rw [← hq_]; exact (by (with_reducible repeat (first | refine bN ?_ _ | refine bD ?_ | refine bA ?_ _)); exact BK361.out)⟩; have n1_ : Aside0 (Below w.heap.size w w72) := ⟨by rw [← hq_]; exact (by repeat (first | (with_reducible first | exact HB.out | apply pA | apply pN | apply p1 | refine pS ?_ GE361.out) | exact HB.out))⟩; clear BK361 HB hq_; have BK361 := n0_; have HB := n1_; clear n0_ n1_)); have hcz73_0 : w72.cell? ⟨gb361, 0, none⟩ = some (.int .i64 a1_0) := (blk_cell BK361.out 0).trans rfl; have hcz73_1 : w72.cell? ⟨gb361, 1, none⟩ = some (.bool false) := (blk_cell BK361.out 1).trans rfl; have hcz73_2 : w72.cell? ⟨gb361, 2, none⟩ = some (.int .i64 a1_2) := (blk_cell BK361.out 2).trans rfl; have hcz73_3 : w72.cell? ⟨gb361, 3, none⟩ = some (.int .u64 a1_3) := (blk_cell BK361.out 3).trans rfl; have hfz73_0 := blk_frozen BK361.out 0; have hfz73_1 := blk_frozen BK361.out 1; have hfz73_2 := blk_frozen BK361.out 2; have hfz73_3 := blk_frozen BK361.out 3) | ((with_reducible refine gC (f := 41) rfl ?_); (with_reducible refine gD (N := 62) rfl ?_); refine goesY_ (some 62) Try.func41 #[.int .i64 a0, .int .u64 t367] ?_; (with_reducible refine (vernierref06_Decode.calls kj17 a0 t367 t374 t375 t376 t377 _ A59.out).mono ?_); rintro e w74 ⟨rfl, hb⟩; refine ⟨_, rfl, ?_⟩; have n0_ := Aside0.mk (bB3 BK361.out hb); have n1_ := Aside0.mk (bS3 HB.out hb); clear BK361; clear HB; have BK361 := n0_; have HB := n1_; clear n0_ n1_; (try clear hb); (try clear hb2); (try clear hk); (try clear hi)) | ((with_reducible refine gD (N := 10) rfl ?_); refine bE3 10 #[.int .i64 0, .bool false, .int .i64 0, .int .u64 0] 40 ?hr ?_; (case hr => first | (go_simp; done) | (go_simp; rfl)); intro gb378 hg w75 hbox hb; have n0_ := Aside0.mk (bB3 BK361.out hb); have n1_ := Aside0.mk (bS3 HB.out hb); have n2_ := Aside0.mk (hbox); have n3_ := Aside0.mk ((bZ3 hg HB.out)); have n4_ := Aside0.mk ((bZ3 hg HB.out)); have n5_ := Aside0.mk ((bL3 hg BK361.out)); have n6_ := Aside0.mk ((bG3 hg BK361.out)); clear BK361; clear HB; have BK361 := n0_; have HB := n1_; have BK378 := n2_; have GW378 := n3_; have GE378 := n4_; have NB361_378 := n5_; have NB378_361 := n6_; clear n0_ n1_ n2_ n3_ n4_ n5_ n6_; clear hb hbox hg; have hnb76 := NB378_361.out; have hnc76 := NB361_378.out; have hcz77_0 : w75.cell? ⟨gb378, 0, none⟩ = some (.int .i64 0) := (blk_cell BK378.out 0).trans rfl; have hcz77_1 : w75.cell? ⟨gb378, 1, none⟩ = some (.bool false) := (blk_cell BK378.out 1).trans rfl; have hcz77_2 : w75.cell? ⟨gb378, 2, none⟩ = some (.int .i64 0) := (blk_cell BK378.out 2).trans rfl; have hcz77_3 : w75.cell? ⟨gb378, 3, none⟩ = some (.int .u64 0) := (blk_cell BK378.out 3).trans rfl; have hfz77_0 := blk_frozen BK378.out 0; have hfz77_1 := blk_frozen BK378.out 1; have hfz77_2 := blk_frozen BK378.out 2; have hfz77_3 := blk_frozen BK378.out 3; have hcz78_0 : w75.cell? ⟨gb361, 0, none⟩ = some (.int .i64 a1_0) := (blk_cell BK361.out 0).trans rfl; have hcz78_1 : w75.cell? ⟨gb361, 1, none⟩ = some (.bool false) := (blk_cell BK361.out 1).trans rfl; have hcz78_2 : w75.cell? ⟨gb361, 2, none⟩ = some (.int .i64 a1_2) := (blk_cell BK361.out 2).trans rfl; have hcz78_3 : w75.cell? ⟨gb361, 3, none⟩ = some (.int .u64 a1_3) := (blk_cell BK361.out 3).trans rfl; have hfz78_0 := blk_frozen BK361.out 0; have hfz78_1 := blk_frozen BK361.out 1; have hfz78_2 := blk_frozen BK361.out 2; have hfz78_3 := blk_frozen BK361.out 3))
                            go_ret2
                            exact ⟨by first | rfl | (simp [errW_none, errW_some] <;> rfl) | (simp only [← hji31]; first | rfl | (simp [errW_none, errW_some] <;> rfl)) | (simp [*, errW_none, errW_some] <;> rfl), by repeat (first | (with_reducible first | exact HB.out | apply pA | apply pN | apply p1 | refine pS ?_ GE361.out | refine pS ?_ GE378.out) | exact HB.out)⟩
                            all_goals (exfalso; have h_ := of_decide_eq_true c33b5; omega)
                      · rw [if_neg c33] at H
                        exact absurd H (by simp)
                    · rw [if_neg c32] at H
                      exact absurd H (by simp)
                  · rw [if_neg c30] at H
                    exact absurd H (by simp)
                · rw [if_neg c29] at H
                  exact absurd H (by simp)
    · replace c6 := Bool.eq_false_iff.mpr c6
      subst c6
      have H1 : (some (0, 1)) = some (r1, r2) := by rw [if_neg (show ¬ (false = true) by decide)] at H; exact H
      clear H
      have H := H1
      clear H1
      simp only [Option.some.injEq, Prod.mk.injEq] at H
      obtain ⟨rfl, rfl⟩ := H
      go_enter Try.func19, Try.ntmps19
      go_wp2_with (first | ((with_reducible refine gD (N := 3) rfl ?_); refine bE3 3 #[.int .i64 a1_0, .bool a1_1, .int .i64 a1_2, .int .u64 a1_3] 40 ?hr ?_; (case hr => first | (go_simp; done) | (go_simp; rfl)); intro gb361 hg w79 hbox hb; have n0_ := Aside0.mk (bS3 HB.out hb); have n1_ := Aside0.mk (hbox); have n2_ := Aside0.mk ((bZ3 hg HB.out)); have n3_ := Aside0.mk ((bZ3 hg HB.out)); clear HB; have HB := n0_; have BK361 := n1_; have GW361 := n2_; have GE361 := n3_; clear n0_ n1_ n2_ n3_; clear hb hbox hg) | ((with_reducible refine gC (f := 20) rfl ?_); (with_reducible refine gD (N := 12) rfl ?_); refine goesY_ (some 12) Try.func20 #[.int .i64 a0] ?_; (with_reducible refine (vernierref05_Is.calls a0 true _ A3.out).mono ?_); rintro e w' ⟨rfl, ⟨nd, rfl⟩⟩; refine ⟨_, rfl, ?_⟩; have hcz80_0 : w79.cell? ⟨gb361, 0, none⟩ = some (.int .i64 a1_0) := (blk_cell BK361.out 0).trans rfl; have hcz80_1 : w79.cell? ⟨gb361, 1, none⟩ = some (.bool a1_1) := (blk_cell BK361.out 1).trans rfl; have hcz80_2 : w79.cell? ⟨gb361, 2, none⟩ = some (.int .i64 a1_2) := (blk_cell BK361.out 2).trans rfl; have hcz80_3 : w79.cell? ⟨gb361, 3, none⟩ = some (.int .u64 a1_3) := (blk_cell BK361.out 3).trans rfl; have hfz80_0 := blk_frozen BK361.out 0; have hfz80_1 := blk_frozen BK361.out 1; have hfz80_2 := blk_frozen BK361.out 2; have hfz80_3 := blk_frozen BK361.out 3) | ((with_reducible refine gC (f := 38) rfl ?_); (with_reducible refine gD (N := 14) rfl ?_); refine goesY_ (some 14) Try.func38 #[.agg #[.int .i64 a1_0, .bool a1_1, .int .i64 a1_2, .int .u64 a1_3]] ?_; (with_reducible refine (vernierref06_Sound.calls a1_0 a1_1 a1_2 a1_3 false _ A4.out).mono ?_); rintro e w81 ⟨rfl, hb⟩; refine ⟨_, rfl, ?_⟩; have n0_ := Aside0.mk (bB3 BK361.out hb); have n1_ := Aside0.mk (bS3 HB.out hb); clear BK361; clear HB; have BK361 := n0_; have HB := n1_; clear n0_ n1_; (try clear hb); (try clear hb2); (try clear hk); (try clear hi)))
      go_ret2
      exact ⟨by first | rfl | (simp [errW_none, errW_some] <;> rfl) | (simp [*, errW_none, errW_some] <;> rfl), by repeat (first | (with_reducible first | exact HB.out | apply pA | apply pN | apply p1 | refine pS ?_ GE361.out) | exact HB.out)⟩
      all_goals (exfalso; have h_ := of_decide_eq_true c33b5; omega)
  · replace c5 := Bool.eq_false_iff.mpr c5
    subst c5
    have H1 : (some (0, 2)) = some (r1, r2) := by rw [if_neg (show ¬ (false = true) by decide)] at H; exact H
    clear H
    have H := H1
    clear H1
    simp only [Option.some.injEq, Prod.mk.injEq] at H
    obtain ⟨rfl, rfl⟩ := H
    go_enter Try.func19, Try.ntmps19
    go_wp2_with (first | ((with_reducible refine gD (N := 3) rfl ?_); refine bE3 3 #[.int .i64 a1_0, .bool a1_1, .int .i64 a1_2, .int .u64 a1_3] 40 ?hr ?_; (case hr => first | (go_simp; done) | (go_simp; rfl)); intro gb361 hg w82 hbox hb; have n0_ := Aside0.mk (bS3 HB.out hb); have n1_ := Aside0.mk (hbox); have n2_ := Aside0.mk ((bZ3 hg HB.out)); have n3_ := Aside0.mk ((bZ3 hg HB.out)); clear HB; have HB := n0_; have BK361 := n1_; have GW361 := n2_; have GE361 := n3_; clear n0_ n1_ n2_ n3_; clear hb hbox hg) | ((with_reducible refine gC (f := 20) rfl ?_); (with_reducible refine gD (N := 12) rfl ?_); refine goesY_ (some 12) Try.func20 #[.int .i64 a0] ?_; (with_reducible refine (vernierref05_Is.calls a0 false _ A3.out).mono ?_); rintro e w' ⟨rfl, ⟨nd, rfl⟩⟩; refine ⟨_, rfl, ?_⟩; have hcz83_0 : w82.cell? ⟨gb361, 0, none⟩ = some (.int .i64 a1_0) := (blk_cell BK361.out 0).trans rfl; have hcz83_1 : w82.cell? ⟨gb361, 1, none⟩ = some (.bool a1_1) := (blk_cell BK361.out 1).trans rfl; have hcz83_2 : w82.cell? ⟨gb361, 2, none⟩ = some (.int .i64 a1_2) := (blk_cell BK361.out 2).trans rfl; have hcz83_3 : w82.cell? ⟨gb361, 3, none⟩ = some (.int .u64 a1_3) := (blk_cell BK361.out 3).trans rfl; have hfz83_0 := blk_frozen BK361.out 0; have hfz83_1 := blk_frozen BK361.out 1; have hfz83_2 := blk_frozen BK361.out 2; have hfz83_3 := blk_frozen BK361.out 3) | ((with_reducible refine gC (f := 38) rfl ?_); (with_reducible refine gD (N := 14) rfl ?_); refine goesY_ (some 14) Try.func38 #[.agg #[.int .i64 a1_0, .bool a1_1, .int .i64 a1_2, .int .u64 a1_3]] ?_; (with_reducible refine (vernierref06_Sound.calls a1_0 a1_1 a1_2 a1_3 t363 _ A4.out).mono ?_); rintro e w84 ⟨rfl, hb⟩; refine ⟨_, rfl, ?_⟩; have n0_ := Aside0.mk (bB3 BK361.out hb); have n1_ := Aside0.mk (bS3 HB.out hb); clear BK361; clear HB; have BK361 := n0_; have HB := n1_; clear n0_ n1_; (try clear hb); (try clear hb2); (try clear hk); (try clear hi)))
    go_ret2
    exact ⟨by first | rfl | (simp [errW_none, errW_some] <;> rfl) | (simp [*, errW_none, errW_some] <;> rfl), by repeat (first | (with_reducible first | exact HB.out | apply pA | apply pN | apply p1 | refine pS ?_ GE361.out) | exact HB.out)⟩
    all_goals (exfalso; have h_ := of_decide_eq_true c33b5; omega)

end Go.Proofs.Ytmofdimkdkfdgaa.F
