/- Functions of the given program as plain Lean functions, and for each a proof that the program's call comes to just these answers; no further conditions. (Written by a program of this repo out of the translation.) -/
import Derived.Test.YtjbcfiigafbobaaF0
import Derived.Test.YtjbcfiigafbobaaF1
import Derived.Test.YtjbcfiigafbobaaF4
import Derived.Test.YtjbcfiigafbobaaF5
import Derived.Test.YtjbcfiigafbobaaF7
namespace Go.Proofs.Ytjbcfiigafbobaa.F
open Go.RowKit Go.Proofs.YtjbcfiigafbobaaW.PrintWords Go.Proofs.YtjbcfiigafbobaaW.PrintLast Go.Proofs.YtjbcfiigafbobaaW.PrintMore
attribute [local go_sem high] xor_u64 xor_u32 eqErr29 neErr29 eqErrL29 neErrL29
attribute [local go_sem] max2_int min2_int max_two min_two max_three min_three max_four min_four   -- for this text's walks alone
set_option linter.unusedVariables false
set_option linter.unusedSimpArgs false

attribute [local go_sem high] eqA25
/-! ### vernierlaw02_TwinLens: function 20 -/
def vernierlaw02_TwinLens.f (k : Nat) (a0_0 : Int) (a0_1 : Int) : Option (Bool) := (vernierlaw02_up.f).bind fun t659 => ((twin_Norm.f k a0_0 a0_1).bind fun bt660 => ((vernierref02_Norm.f k a0_0 a0_1).bind fun bt664 => (if t659 = true then ((twin_Len.f k a0_0 a0_1).bind fun t668 => ((vernierref02_Len.f k a0_0 a0_1).bind fun t669 => (if t668 = t669 then (if (bt660.1 == bt664.1 && (bt660.2.1 == bt664.2.1)) = true then (some (bt660.2.2 == bt664.2.2)) else (some false)) else (some false)))) else (some false))))
theorem vernierlaw02_TwinLens.mono : ∀ a0 a1 k, LeO (vernierlaw02_TwinLens.f k a0 a1) (vernierlaw02_TwinLens.f (k + 1) a0 a1) := by
  intro a0 a1 k
  unfold vernierlaw02_TwinLens.f
  repeat' first
      | (with_reducible exact twin_Len.mono _ _ _)
      | (with_reducible exact twin_Norm.mono _ _ _)
      | (with_reducible exact vernierref02_Len.mono _ _ _)
      | (with_reducible exact vernierref02_Norm.mono _ _ _)
      | (with_reducible exact LeO.refl _)
      | (with_reducible exact LeO.none _)
      | (with_reducible refine LeO.ite ?_ ?_)
      | (with_reducible refine LeO.bind ?_ (fun _ => ?_))
      | exact twin_Len.mono _ _ _
      | exact twin_Norm.mono _ _ _
      | exact vernierref02_Len.mono _ _ _
      | exact vernierref02_Norm.mono _ _ _
      | exact LeO.none _
      | refine LeO.ite ?_ ?_
      | refine LeO.bind ?_ (fun _ => ?_)
def vernierlaw02_TwinLens.T4 : Bool × List (List Nat × List Nat) := (true, [([], []), ([0], [0]), ([1], [1]), ([2, 1, 1], [1, 2]), ([1], [1]), ([4, 3, 1], [1, 4]), ([3, 5, 1], [1, 3, 5]), ([1, 6], [1, 6]), ([7, 5], [7]), ([8], [8]), ([8], [8]), ([9, 10, 8], [8, 9, 10]), ([8, 11], [8, 11]), ([12, 8], [12]), ([13], [13]), ([13], [13]), ([14, 15, 13], [13, 14, 15]), ([13, 16], [13, 16]), ([17, 13, 0, 1, 2, 3, 4, 5, 6, 7, 8, 9, 10, 11, 12, 13, 14, 15, 16, 17], [17])])
def vernierlaw02_TwinLens.B4 : List Nat := [0, 1, 3, 7, 3, 31, 63, 127, 255, 511, 511, 2047, 4095, 8191, 16383, 16383, 65535, 131071, 262143]
theorem vernierlaw02_TwinLens.tab4 : rtab .any (opsOf Try.f20 4) = vernierlaw02_TwinLens.T4 := by kernel_rfl
theorem vernierlaw02_TwinLens.bits4 : waitsOk vernierlaw02_TwinLens.T4.2 vernierlaw02_TwinLens.B4 = true := by kernel_rfl
set_option maxHeartbeats 8000000 in
set_option maxRecDepth 100000 in
theorem vernierlaw02_TwinLens.calls (k : Nat) (a0_0 : Int) (a0_1 : Int) (r : Bool) (w : World) (h : vernierlaw02_TwinLens.f k a0_0 a0_1 = some r) :
    Calls Try.prog 20 #[.agg #[.int .u64 a0_0, .int .u64 a0_1]] w fun e w' => e = .returned (.bool r) ∧ Below w.heap.size w w' := by
  have hu25 := Try.underlying25
  have HB := Aside0.mk (Below.refl w.heap.size w)
  have H : ((vernierlaw02_up.f).bind fun t659 => ((twin_Norm.f k a0_0 a0_1).bind fun bt660 => ((vernierref02_Norm.f k a0_0 a0_1).bind fun bt664 => (if t659 = true then ((twin_Len.f k a0_0 a0_1).bind fun t668 => ((vernierref02_Len.f k a0_0 a0_1).bind fun t669 => (if t668 = t669 then (if (bt660.1 == bt664.1 && (bt660.2.1 == bt664.2.1)) = true then (some (bt660.2.2 == bt664.2.2)) else (some false)) else (some false)))) else (some false))))) = some r := h
  clear h
  replace H := Option.bind_eq_some_iff.mp H
  obtain ⟨t659, A20, H⟩ := H
  replace H : ((twin_Norm.f k a0_0 a0_1).bind fun bt660 => ((vernierref02_Norm.f k a0_0 a0_1).bind fun bt664 => (if t659 = true then ((twin_Len.f k a0_0 a0_1).bind fun t668 => ((vernierref02_Len.f k a0_0 a0_1).bind fun t669 => (if t668 = t669 then (if (bt660.1 == bt664.1 && (bt660.2.1 == bt664.2.1)) = true then (some (bt660.2.2 == bt664.2.2)) else (some false)) else (some false)))) else (some false)))) = some r := H
  have A2 := Aside0.mk A20
  clear A20
  replace H := Option.bind_eq_some_iff.mp H
  obtain ⟨⟨t660, t661, t662⟩, A30, H⟩ := H
  replace H : ((vernierref02_Norm.f k a0_0 a0_1).bind fun bt664 => (if t659 = true then ((twin_Len.f k a0_0 a0_1).bind fun t668 => ((vernierref02_Len.f k a0_0 a0_1).bind fun t669 => (if t668 = t669 then (if (t660 == bt664.1 && (t661 == bt664.2.1)) = true then (some (t662 == bt664.2.2)) else (some false)) else (some false)))) else (some false))) = some r := H
  have A3 := Aside0.mk A30
  clear A30
  replace H := Option.bind_eq_some_iff.mp H
  obtain ⟨⟨t664, t665, t666⟩, A40, H⟩ := H
  replace H : (if t659 = true then ((twin_Len.f k a0_0 a0_1).bind fun t668 => ((vernierref02_Len.f k a0_0 a0_1).bind fun t669 => (if t668 = t669 then (if (t660 == t664 && (t661 == t665)) = true then (some (t662 == t666)) else (some false)) else (some false)))) else (some false)) = some r := H
  have A4 := Aside0.mk A40
  clear A40
  by_cases c5 : t659 = true
  · subst c5
    have H1 : ((twin_Len.f k a0_0 a0_1).bind fun t668 => ((vernierref02_Len.f k a0_0 a0_1).bind fun t669 => (if t668 = t669 then (if (t660 == t664 && (t661 == t665)) = true then (some (t662 == t666)) else (some false)) else (some false)))) = some r := by rw [if_pos rfl] at H; exact H
    clear H
    have H := H1
    clear H1
    replace H := Option.bind_eq_some_iff.mp H
    obtain ⟨t668, A60, H⟩ := H
    replace H : ((vernierref02_Len.f k a0_0 a0_1).bind fun t669 => (if t668 = t669 then (if (t660 == t664 && (t661 == t665)) = true then (some (t662 == t666)) else (some false)) else (some false))) = some r := H
    have A6 := Aside0.mk A60
    clear A60
    replace H := Option.bind_eq_some_iff.mp H
    obtain ⟨t669, A70, H⟩ := H
    replace H : (if t668 = t669 then (if (t660 == t664 && (t661 == t665)) = true then (some (t662 == t666)) else (some false)) else (some false)) = some r := H
    have A7 := Aside0.mk A70
    clear A70
    by_cases c8 : t668 = t669
    · rw [if_pos c8] at H
      have c8b0 : (t668 == t669) = true := beq_iff_eq.mpr c8
      have c8b1 : (t668 != t669) = false := bne_eq_false_iff_eq.mpr c8
      clear c8
      by_cases c9 : (t660 == t664 && (t661 == t665)) = true
      · rw [if_pos c9] at H
        have c9b0 : (t660 == t664 && (t661 == t665)) = true := c9
        (try (have c9b1 : decide (t660 = t664 && (t661 == t665)) = true := by simpa using c9))
        (try (have c9b2 : (t660 == t664 && (t661 == t665)) = true := by simpa using c9))
        clear c9
        obtain rfl := Option.some.inj H
        go_enter Try.func20, Try.ntmps20
        try go_wp2_with (first | ((with_reducible refine gD (N := 1) rfl ?_); refine bE3 1 #[.int .u64 a0_0, .int .u64 a0_1] 25 ?hr ?_; (case hr => first | (go_simp; done) | (go_simp; rfl)); intro gb658 hg w10 hbox hb; have n0_ := Aside0.mk (bS3 HB.out hb); have n1_ := Aside0.mk (hbox); have n2_ := Aside0.mk ((bZ3 hg HB.out)); have n3_ := Aside0.mk ((bZ3 hg HB.out)); clear HB; have HB := n0_; have BK658 := n1_; have GW658 := n2_; have GE658 := n3_; clear n0_ n1_ n2_ n3_; clear hb hbox hg) | ((with_reducible refine gC (f := 22) rfl ?_); refine goesY_ (some 8) Try.func22 #[] ?_; (with_reducible refine (vernierlaw02_up.calls  true _ A2.out).mono ?_); rintro e w11 ⟨rfl, hb⟩; refine ⟨_, rfl, ?_⟩; have n0_ := Aside0.mk (bB3 BK658.out hb); have n1_ := Aside0.mk (bS3 HB.out hb); clear BK658; clear HB; have BK658 := n0_; have HB := n1_; clear n0_ n1_; (try clear hb); (try clear hb2); (try clear hk); (try clear hi); have hcz12_0 : w11.cell? ⟨gb658, 0, none⟩ = some (.int .u64 a0_0) := (blk_cell BK658.out 0).trans rfl; have hcz12_1 : w11.cell? ⟨gb658, 1, none⟩ = some (.int .u64 a0_1) := (blk_cell BK658.out 1).trans rfl; have hfz12_0 := blk_frozen BK658.out 0; have hfz12_1 := blk_frozen BK658.out 1) | ((with_reducible refine gC (f := 63) rfl ?_); refine goesY_ (some 11) Try.func63 #[.agg #[.int .u64 a0_0, .int .u64 a0_1]] ?_; (with_reducible refine (twin_Norm.calls k a0_0 a0_1 t660 t661 t662 _ A3.out).mono ?_); rintro e w13 ⟨rfl, hb⟩; refine ⟨_, rfl, ?_⟩; have n0_ := Aside0.mk (bB3 BK658.out hb); have n1_ := Aside0.mk (bS3 HB.out hb); clear BK658; clear HB; have BK658 := n0_; have HB := n1_; clear n0_ n1_; (try clear hb); (try clear hb2); (try clear hk); (try clear hi)) | ((with_reducible refine gD (N := 4) rfl ?_); refine bE3 4 #[.int .u64 0, .int .u64 0] 25 ?hr ?_; (case hr => first | (go_simp; done) | (go_simp; rfl)); intro gb663 hg w14 hbox hb; have n0_ := Aside0.mk (bB3 BK658.out hb); have n1_ := Aside0.mk (bS3 HB.out hb); have n2_ := Aside0.mk (hbox); have n3_ := Aside0.mk ((bZ3 hg HB.out)); have n4_ := Aside0.mk ((bZ3 hg HB.out)); have n5_ := Aside0.mk ((bL3 hg BK658.out)); have n6_ := Aside0.mk ((bG3 hg BK658.out)); clear BK658; clear HB; have BK658 := n0_; have HB := n1_; have BK663 := n2_; have GW663 := n3_; have GE663 := n4_; have NB658_663 := n5_; have NB663_658 := n6_; clear n0_ n1_ n2_ n3_ n4_ n5_ n6_; clear hb hbox hg; have hnb15 := NB663_658.out; have hnc15 := NB658_663.out; have hcz16_0 : w14.cell? ⟨gb663, 0, none⟩ = some (.int .u64 0) := (blk_cell BK663.out 0).trans rfl; have hcz16_1 : w14.cell? ⟨gb663, 1, none⟩ = some (.int .u64 0) := (blk_cell BK663.out 1).trans rfl; have hfz16_0 := blk_frozen BK663.out 0; have hfz16_1 := blk_frozen BK663.out 1; have hcz17_0 : w14.cell? ⟨gb658, 0, none⟩ = some (.int .u64 a0_0) := (blk_cell BK658.out 0).trans rfl; have hcz17_1 : w14.cell? ⟨gb658, 1, none⟩ = some (.int .u64 a0_1) := (blk_cell BK658.out 1).trans rfl; have hfz17_0 := blk_frozen BK658.out 0; have hfz17_1 := blk_frozen BK658.out 1) | ((with_reducible refine gC (f := 64) rfl ?_); refine goesY_ (some 16) Try.func64 #[.agg #[.int .u64 a0_0, .int .u64 a0_1]] ?_; (with_reducible refine (vernierref02_Norm.calls k a0_0 a0_1 t664 t665 t666 _ A4.out).mono ?_); rintro e w18 ⟨rfl, hb⟩; refine ⟨_, rfl, ?_⟩; have n0_ := Aside0.mk (bB (g := gb658) (o := .cells #[.int .u64 a0_0, .int .u64 a0_1] 25 (0, 0)) (by (with_reducible repeat (first | refine bN ?_ _ | refine bD ?_ | refine bA ?_ _)); refine blk_far ?_ NB658_663.out _; (with_reducible repeat (first | refine bN ?_ _ | refine bD ?_ | refine bA ?_ _)); refine blk_far ?_ NB658_663.out _; (with_reducible repeat (first | refine bN ?_ _ | refine bD ?_ | refine bA ?_ _)); exact BK658.out) hb); have n1_ := Aside0.mk (bB (g := gb663) (o := .cells #[.int .u64 t660, .int .u64 t661] 25 (0, 0)) (by (with_reducible repeat (first | refine bN ?_ _ | refine bD ?_ | refine bA ?_ _)); refine blk_put (cs := #[.int .u64 t660, .int .u64 0]) ?_ 1 _ rfl; (with_reducible repeat (first | refine bN ?_ _ | refine bD ?_ | refine bA ?_ _)); refine blk_put (cs := #[.int .u64 0, .int .u64 0]) ?_ 0 _ rfl; (with_reducible repeat (first | refine bN ?_ _ | refine bD ?_ | refine bA ?_ _)); exact BK663.out) hb); have n2_ := Aside0.mk (bS3 HB.out hb); clear BK658; clear BK663; clear HB; have BK658 := n0_; have BK663 := n1_; have HB := n2_; clear n0_ n1_ n2_; (try clear hb); (try clear hb2); (try clear hk); (try clear hi)) | ((with_reducible refine gD (N := 6) rfl ?_); refine bE3 6 #[.int .u64 0, .int .u64 0] 25 ?hr ?_; (case hr => first | (go_simp; done) | (go_simp; rfl)); intro gb667 hg w19 hbox hb; have n0_ := Aside0.mk (bB3 BK658.out hb); have n1_ := Aside0.mk (bB3 BK663.out hb); have n2_ := Aside0.mk (bS3 HB.out hb); have n3_ := Aside0.mk (hbox); have n4_ := Aside0.mk ((bZ3 hg HB.out)); have n5_ := Aside0.mk ((bZ3 hg HB.out)); have n6_ := Aside0.mk ((bL3 hg BK658.out)); have n7_ := Aside0.mk ((bG3 hg BK658.out)); have n8_ := Aside0.mk ((bL3 hg BK663.out)); have n9_ := Aside0.mk ((bG3 hg BK663.out)); clear BK658; clear BK663; clear HB; have BK658 := n0_; have BK663 := n1_; have HB := n2_; have BK667 := n3_; have GW667 := n4_; have GE667 := n5_; have NB658_667 := n6_; have NB667_658 := n7_; have NB663_667 := n8_; have NB667_663 := n9_; clear n0_ n1_ n2_ n3_ n4_ n5_ n6_ n7_ n8_ n9_; clear hb hbox hg; have hnb20 := NB667_658.out; have hnc20 := NB658_667.out; have hnb21 := NB667_663.out; have hnc21 := NB663_667.out; have hcz22_0 : w19.cell? ⟨gb667, 0, none⟩ = some (.int .u64 0) := (blk_cell BK667.out 0).trans rfl; have hcz22_1 : w19.cell? ⟨gb667, 1, none⟩ = some (.int .u64 0) := (blk_cell BK667.out 1).trans rfl; have hfz22_0 := blk_frozen BK667.out 0; have hfz22_1 := blk_frozen BK667.out 1))
        have n0_ : Aside0 (((w19.setCell ⟨gb667, 0, none⟩ (.int .u64 t664)).setCell ⟨gb667, 1, none⟩ (.int .u64 t665)).heap[gb658]? = some (.cells #[.int .u64 a0_0, .int .u64 a0_1] 25 (0, 0))) := ⟨by (with_reducible repeat (first | refine bN ?_ _ | refine bD ?_ | refine bA ?_ _)); refine blk_far ?_ NB658_667.out _; (with_reducible repeat (first | refine bN ?_ _ | refine bD ?_ | refine bA ?_ _)); refine blk_far ?_ NB658_667.out _; (with_reducible repeat (first | refine bN ?_ _ | refine bD ?_ | refine bA ?_ _)); exact BK658.out⟩
        have n1_ : Aside0 (((w19.setCell ⟨gb667, 0, none⟩ (.int .u64 t664)).setCell ⟨gb667, 1, none⟩ (.int .u64 t665)).heap[gb663]? = some (.cells #[.int .u64 t660, .int .u64 t661] 25 (0, 0))) := ⟨by (with_reducible repeat (first | refine bN ?_ _ | refine bD ?_ | refine bA ?_ _)); refine blk_far ?_ NB663_667.out _; (with_reducible repeat (first | refine bN ?_ _ | refine bD ?_ | refine bA ?_ _)); refine blk_far ?_ NB663_667.out _; (with_reducible repeat (first | refine bN ?_ _ | refine bD ?_ | refine bA ?_ _)); exact BK663.out⟩
        have n2_ : Aside0 (((w19.setCell ⟨gb667, 0, none⟩ (.int .u64 t664)).setCell ⟨gb667, 1, none⟩ (.int .u64 t665)).heap[gb667]? = some (.cells #[.int .u64 t664, .int .u64 t665] 25 (0, 0))) := ⟨by (with_reducible repeat (first | refine bN ?_ _ | refine bD ?_ | refine bA ?_ _)); refine blk_put (cs := #[.int .u64 t664, .int .u64 0]) ?_ 1 _ rfl; (with_reducible repeat (first | refine bN ?_ _ | refine bD ?_ | refine bA ?_ _)); refine blk_put (cs := #[.int .u64 0, .int .u64 0]) ?_ 0 _ rfl; (with_reducible repeat (first | refine bN ?_ _ | refine bD ?_ | refine bA ?_ _)); exact BK667.out⟩
        have n3_ : Aside0 (Below w.heap.size w ((w19.setCell ⟨gb667, 0, none⟩ (.int .u64 t664)).setCell ⟨gb667, 1, none⟩ (.int .u64 t665))) := ⟨by repeat (first | (with_reducible first | exact HB.out | apply pA | apply pN | apply p1 | refine pS ?_ GE658.out | refine pS ?_ GE663.out | refine pS ?_ GE667.out) | exact HB.out)⟩
        (try clear BK658)
        (try clear BK663)
        (try clear BK667)
        (try clear HB)
        generalize ((w19.setCell ⟨gb667, 0, none⟩ (.int .u64 t664)).setCell ⟨gb667, 1, none⟩ (.int .u64 t665)) = w23 at n0_ n1_ n2_ n3_ ⊢
        have BK658 := n0_
        have BK663 := n1_
        have BK667 := n2_
        have HB := n3_
        clear n0_ n1_ n2_ n3_
        have n0_ := Aside0.mk (bD BK658.out)
        have n1_ := Aside0.mk (bD BK663.out)
        have n2_ := Aside0.mk (bD BK667.out)
        have n3_ := Aside0.mk (p1 HB.out)
        clear BK658
        clear BK663
        clear BK667
        clear HB
        have BK658 := n0_
        have BK663 := n1_
        have BK667 := n2_
        have HB := n3_
        clear n0_ n1_ n2_ n3_
        refine start_ (n := 19) (S := fun w' => w'.cell? ⟨gb658, 0, none⟩ = some (.int .u64 a0_0) ∧ w'.cell? ⟨gb658, 1, none⟩ = some (.int .u64 a0_1) ∧ w'.cell? ⟨gb663, 0, none⟩ = some (.int .u64 t660) ∧ w'.cell? ⟨gb663, 1, none⟩ = some (.int .u64 t661) ∧ w'.cell? ⟨gb667, 0, none⟩ = some (.int .u64 t664) ∧ w'.cell? ⟨gb667, 1, none⟩ = some (.int .u64 t665)) (ds := []) #[false, false, false, false, false, false, false, false, false, false, false, false, false, false, false, false, false, false, false] (by kernel_rfl) rfl rfl ⟨(blk_cell BK658.out 0).trans rfl, (blk_cell BK658.out 1).trans rfl, (blk_cell BK663.out 0).trans rfl, (blk_cell BK663.out 1).trans rfl, (blk_cell BK667.out 0).trans rfl, (blk_cell BK667.out 1).trans rfl⟩ (fun hHeld => ?_); refine with_tabW vernierlaw02_TwinLens.tab4 vernierlaw02_TwinLens.bits4 (fun HT_ HW_ => ?_)
        generalize w23.drew = w24 at BK658 BK663 BK667 HB hHeld ⊢
        refine pure_ (i := 0) (N := some 19) (v := ?_) (a' := ?_) #[true, false, false, false, false, false, false, false, false, false, false, false, false, false, false, false, false, false, false] rfl rfl (any_of HT_.out (by kernel_rfl)) (fun _ _ _ h => h) (Or.inl ⟨by rfl, ?_⟩) ?_ ?_
        rotate_left
        · intro w'
          go_simp
          with_reducible rfl
        rotate_left
        · simp only [Act.put, List.setIfInBounds_toArray, List.set_cons_zero, List.set_cons_succ, i64_w, i32_w]
          rfl
        refine pure_ (i := 1) (N := some 20) (v := ?_) (a' := ?_) #[true, true, false, false, false, false, false, false, false, false, false, false, false, false, false, false, false, false, false] rfl rfl (any_of HT_.out (by kernel_rfl)) (fun _ _ _ h => h) (Or.inl ⟨by rfl, ?_⟩) ?_ ?_
        rotate_left
        · intro w'
          go_simp
          with_reducible rfl
        rotate_left
        · simp only [Act.put, List.setIfInBounds_toArray, List.set_cons_zero, List.set_cons_succ, i64_w, i32_w]
          rfl
        refine take_ (i := 2) (N := some 21) (v := ?_) (a' := ?_) #[true, true, true, false, false, false, false, false, false, false, false, false, false, false, false, false, false, false, false] rfl rfl (take_ofW HT_.out HW_.out (by kernel_rfl)) (fun _ _ _ h => h) (Or.inl ⟨by rfl, ?_⟩) hHeld ?_ ?_
        rotate_left
        · rintro w' ⟨s0, s1, s2, s3, s4, s5⟩
          go_simp
          with_reducible rfl
        rotate_left
        · simp only [Act.put, List.setIfInBounds_toArray, List.set_cons_zero, List.set_cons_succ, i64_w, i32_w]
          rfl
        refine take_ (i := 4) (N := some 23) (v := ?_) (a' := ?_) #[true, true, true, false, true, false, false, false, false, false, false, false, false, false, false, false, false, false, false] rfl rfl (take_ofW HT_.out HW_.out (by kernel_rfl)) (fun _ _ _ h => h) (Or.inl ⟨by rfl, ?_⟩) hHeld ?_ ?_
        rotate_left
        · rintro w' ⟨s0, s1, s2, s3, s4, s5⟩
          go_simp
          with_reducible rfl
        rotate_left
        · simp only [Act.put, List.setIfInBounds_toArray, List.set_cons_zero, List.set_cons_succ, i64_w, i32_w]
          rfl
        refine one_ (i := 3) (N := some 22) #[true, true, true, true, true, false, false, false, false, false, false, false, false, false, false, false, false, false, false] rfl rfl (one_of HT_.out (by kernel_rfl)) (by decide) (fun K hK => ?_)
        refine goes_ Try.func65 (by kernel_rfl) rfl #[.agg #[.int .u64 a0_0, .int .u64 a0_1]] (by rfl) rfl rfl (by (try simp only [List.map_toArray, List.map_cons, List.map_nil]); first | done | rfl | (simp only [List.length_drop, List.length_take]; rfl)) ?_
        with_reducible refine (twin_Len.calls k a0_0 a0_1 t668 _ A6.out).mono ?_
        rintro e w25 ⟨rfl, hb⟩
        refine ⟨_, rfl, ?_⟩
        have n0_ := Aside0.mk (bB3 BK658.out hb)
        have n1_ := Aside0.mk (bB3 BK663.out hb)
        have n2_ := Aside0.mk (bB3 BK667.out hb)
        have n3_ := Aside0.mk (bS3 HB.out hb)
        clear BK658
        clear BK663
        clear BK667
        clear HB
        have BK658 := n0_
        have BK663 := n1_
        have BK667 := n2_
        have HB := n3_
        clear n0_ n1_ n2_ n3_
        (try clear hb)
        (try clear hb2)
        (try clear hk)
        (try clear hi)
        refine hK.out _ _ ⟨(blk_cell BK658.out 0).trans rfl, (blk_cell BK658.out 1).trans rfl, (blk_cell BK663.out 0).trans rfl, (blk_cell BK663.out 1).trans rfl, (blk_cell BK667.out 0).trans rfl, (blk_cell BK667.out 1).trans rfl⟩ (fun hHeld => ?_)
        clear hK K
        refine norm_ (a' := ?_) ?_ ?_
        rotate_left
        · show Act.put _ (some 22) _ = _
          simp only [Act.put, List.setIfInBounds_toArray, List.set_cons_zero, List.set_cons_succ, i64_w, i32_w]
          rfl
        refine one_ (i := 5) (N := some 24) #[true, true, true, true, true, true, false, false, false, false, false, false, false, false, false, false, false, false, false] rfl rfl (one_of HT_.out (by kernel_rfl)) (by decide) (fun K hK => ?_)
        refine goes_ Try.func66 (by kernel_rfl) rfl #[.agg #[.int .u64 a0_0, .int .u64 a0_1]] (by rfl) rfl rfl (by (try simp only [List.map_toArray, List.map_cons, List.map_nil]); first | done | rfl | (simp only [List.length_drop, List.length_take]; rfl)) ?_
        with_reducible refine (vernierref02_Len.calls k a0_0 a0_1 t669 _ A7.out).mono ?_
        rintro e w26 ⟨rfl, hb⟩
        refine ⟨_, rfl, ?_⟩
        have n0_ := Aside0.mk (bB3 BK658.out hb)
        have n1_ := Aside0.mk (bB3 BK663.out hb)
        have n2_ := Aside0.mk (bB3 BK667.out hb)
        have n3_ := Aside0.mk (bS3 HB.out hb)
        clear BK658
        clear BK663
        clear BK667
        clear HB
        have BK658 := n0_
        have BK663 := n1_
        have BK667 := n2_
        have HB := n3_
        clear n0_ n1_ n2_ n3_
        (try clear hb)
        (try clear hb2)
        (try clear hk)
        (try clear hi)
        refine hK.out _ _ ⟨(blk_cell BK658.out 0).trans rfl, (blk_cell BK658.out 1).trans rfl, (blk_cell BK663.out 0).trans rfl, (blk_cell BK663.out 1).trans rfl, (blk_cell BK667.out 0).trans rfl, (blk_cell BK667.out 1).trans rfl⟩ (fun hHeld => ?_)
        clear hK K
        refine norm_ (a' := ?_) ?_ ?_
        rotate_left
        · show Act.put _ (some 24) _ = _
          simp only [Act.put, List.setIfInBounds_toArray, List.set_cons_zero, List.set_cons_succ, i64_w, i32_w]
          rfl
        refine pure_ (i := 6) (N := some 25) (v := ?_) (a' := ?_) #[true, true, true, true, true, true, true, false, false, false, false, false, false, false, false, false, false, false, false] rfl rfl (any_of HT_.out (by kernel_rfl)) (fun _ _ _ h => h) (Or.inl ⟨by rfl, ?_⟩) ?_ ?_
        rotate_left
        · intro w'
          go_simp
          with_reducible rfl
        rotate_left
        · simp only [Act.put, List.setIfInBounds_toArray, List.set_cons_zero, List.set_cons_succ, i64_w, i32_w]
          rfl
        refine pure_ (i := 7) (N := some 26) (v := ?_) (a' := ?_) #[true, true, true, true, true, true, true, true, false, false, false, false, false, false, false, false, false, false, false] rfl rfl (any_of HT_.out (by kernel_rfl)) (fun _ _ _ h => h) (Or.inl ⟨by rfl, ?_⟩) ?_ ?_
        rotate_left
        · intro w'
          go_simp
          with_reducible rfl
        rotate_left
        · simp only [Act.put, List.setIfInBounds_toArray, List.set_cons_zero, List.set_cons_succ, i64_w, i32_w]
          rfl
        refine pure_ (i := 8) (N := some 27) (v := ?_) (a' := ?_) #[true, true, true, true, true, true, true, true, true, false, false, false, false, false, false, false, false, false, false] rfl rfl (any_of HT_.out (by kernel_rfl)) (fun _ _ _ h => h) (Or.inl ⟨by rfl, ?_⟩) ?_ ?_
        rotate_left
        · intro w'
          go_simp
          with_reducible rfl
        rotate_left
        · simp only [Act.put, List.setIfInBounds_toArray, List.set_cons_zero, List.set_cons_succ, i64_w, i32_w]
          rfl
        refine take_ (i := 9) (N := some 28) (v := ?_) (a' := ?_) #[true, true, true, true, true, true, true, true, true, true, false, false, false, false, false, false, false, false, false] rfl rfl (take_ofW HT_.out HW_.out (by kernel_rfl)) (fun _ _ _ h => h) (Or.inl ⟨by rfl, ?_⟩) hHeld ?_ ?_
        rotate_left
        · rintro w' ⟨s0, s1, s2, s3, s4, s5⟩
          go_simp
          with_reducible rfl
        rotate_left
        · simp only [Act.put, List.setIfInBounds_toArray, List.set_cons_zero, List.set_cons_succ, i64_w, i32_w]
          rfl
        refine take_ (i := 10) (N := some 29) (v := ?_) (a' := ?_) #[true, true, true, true, true, true, true, true, true, true, true, false, false, false, false, false, false, false, false] rfl rfl (take_ofW HT_.out HW_.out (by kernel_rfl)) (fun _ _ _ h => h) (Or.inl ⟨by rfl, ?_⟩) hHeld ?_ ?_
        rotate_left
        · rintro w' ⟨s0, s1, s2, s3, s4, s5⟩
          go_simp
          with_reducible rfl
        rotate_left
        · simp only [Act.put, List.setIfInBounds_toArray, List.set_cons_zero, List.set_cons_succ, i64_w, i32_w]
          rfl
        refine pure_ (i := 11) (N := some 30) (v := ?_) (a' := ?_) #[true, true, true, true, true, true, true, true, true, true, true, true, false, false, false, false, false, false, false] rfl rfl (any_of HT_.out (by kernel_rfl)) (fun _ _ _ h => h) (Or.inl ⟨by rfl, ?_⟩) ?_ ?_
        rotate_left
        · intro w'
          go_simp
          with_reducible rfl
        rotate_left
        · simp only [Act.put, List.setIfInBounds_toArray, List.set_cons_zero, List.set_cons_succ, i64_w, i32_w]
          rfl
        refine pure_ (i := 12) (N := some 31) (v := ?_) (a' := ?_) #[true, true, true, true, true, true, true, true, true, true, true, true, true, false, false, false, false, false, false] rfl rfl (any_of HT_.out (by kernel_rfl)) (fun _ _ _ h => h) (Or.inl ⟨by rfl, ?_⟩) ?_ ?_
        rotate_left
        · intro w'
          go_simp
          with_reducible rfl
        rotate_left
        · simp only [Act.put, List.setIfInBounds_toArray, List.set_cons_zero, List.set_cons_succ, i64_w, i32_w]
          rfl
        refine pure_ (i := 13) (N := some 32) (v := ?_) (a' := ?_) #[true, true, true, true, true, true, true, true, true, true, true, true, true, true, false, false, false, false, false] rfl rfl (any_of HT_.out (by kernel_rfl)) (fun _ _ _ h => h) (Or.inl ⟨by rfl, ?_⟩) ?_ ?_
        rotate_left
        · intro w'
          go_simp
          with_reducible rfl
        rotate_left
        · simp only [Act.put, List.setIfInBounds_toArray, List.set_cons_zero, List.set_cons_succ, i64_w, i32_w]
          rfl
        refine pure_ (i := 14) (N := some 33) (v := ?_) (a' := ?_) #[true, true, true, true, true, true, true, true, true, true, true, true, true, true, true, false, false, false, false] rfl rfl (any_of HT_.out (by kernel_rfl)) (fun _ _ _ h => h) (Or.inl ⟨by rfl, ?_⟩) ?_ ?_
        rotate_left
        · intro w'
          go_simp
          with_reducible rfl
        rotate_left
        · simp only [Act.put, List.setIfInBounds_toArray, List.set_cons_zero, List.set_cons_succ, i64_w, i32_w]
          rfl
        refine pure_ (i := 15) (N := some 34) (v := ?_) (a' := ?_) #[true, true, true, true, true, true, true, true, true, true, true, true, true, true, true, true, false, false, false] rfl rfl (any_of HT_.out (by kernel_rfl)) (fun _ _ _ h => h) (Or.inl ⟨by rfl, ?_⟩) ?_ ?_
        rotate_left
        · intro w'
          go_simp
          with_reducible rfl
        rotate_left
        · simp only [Act.put, List.setIfInBounds_toArray, List.set_cons_zero, List.set_cons_succ, i64_w, i32_w]
          rfl
        refine pure_ (i := 16) (N := some 35) (v := ?_) (a' := ?_) #[true, true, true, true, true, true, true, true, true, true, true, true, true, true, true, true, true, false, false] rfl rfl (any_of HT_.out (by kernel_rfl)) (fun _ _ _ h => h) (Or.inl ⟨by rfl, ?_⟩) ?_ ?_
        rotate_left
        · intro w'
          go_simp
          with_reducible rfl
        rotate_left
        · simp only [Act.put, List.setIfInBounds_toArray, List.set_cons_zero, List.set_cons_succ, i64_w, i32_w]
          rfl
        refine pure_ (i := 17) (N := some 36) (v := ?_) (a' := ?_) #[true, true, true, true, true, true, true, true, true, true, true, true, true, true, true, true, true, true, false] rfl rfl (any_of HT_.out (by kernel_rfl)) (fun _ _ _ h => h) (Or.inl ⟨by rfl, ?_⟩) ?_ ?_
        rotate_left
        · intro w'
          go_simp
          with_reducible rfl
        rotate_left
        · simp only [Act.put, List.setIfInBounds_toArray, List.set_cons_zero, List.set_cons_succ, i64_w, i32_w]
          rfl
        refine pure_ (i := 18) (N := some 2) (v := ?_) (a' := ?_) #[true, true, true, true, true, true, true, true, true, true, true, true, true, true, true, true, true, true, true] rfl rfl (any_of HT_.out (by kernel_rfl)) (fun _ _ _ h => h) (Or.inl ⟨by rfl, ?_⟩) ?_ ?_
        rotate_left
        · intro w'
          go_simp
          with_reducible rfl
        rotate_left
        · simp only [Act.put, List.setIfInBounds_toArray, List.set_cons_zero, List.set_cons_succ, i64_w, i32_w]
          rfl
        refine done_ (done_of HT_.out (by kernel_rfl)) ?_
        try go_wp2
        go_ret
        exact ⟨by first | rfl | (simp [errW_none, errW_some] <;> rfl) | (simp [*, errW_none, errW_some] <;> rfl), by repeat (first | (with_reducible first | exact HB.out | apply pA | apply pN | apply p1 | refine pS ?_ GE658.out | refine pS ?_ GE663.out | refine pS ?_ GE667.out) | exact HB.out)⟩
      · rw [if_neg c9] at H
        have c9b0 : (t660 == t664 && (t661 == t665)) = false := by simpa using c9
        (try (have c9b1 : decide (t660 = t664 && (t661 == t665)) = false := by simpa using c9))
        (try (have c9b2 : (t660 == t664 && (t661 == t665)) = false := by simpa using c9))
        (try (have c9b3 : ¬ (t660 = t664 && (t661 == t665)) := by simpa using c9))
        clear c9
        obtain rfl := Option.some.inj H
        go_enter Try.func20, Try.ntmps20
        try go_wp2_with (first | ((with_reducible refine gD (N := 1) rfl ?_); refine bE3 1 #[.int .u64 a0_0, .int .u64 a0_1] 25 ?hr ?_; (case hr => first | (go_simp; done) | (go_simp; rfl)); intro gb658 hg w27 hbox hb; have n0_ := Aside0.mk (bS3 HB.out hb); have n1_ := Aside0.mk (hbox); have n2_ := Aside0.mk ((bZ3 hg HB.out)); have n3_ := Aside0.mk ((bZ3 hg HB.out)); clear HB; have HB := n0_; have BK658 := n1_; have GW658 := n2_; have GE658 := n3_; clear n0_ n1_ n2_ n3_; clear hb hbox hg) | ((with_reducible refine gC (f := 22) rfl ?_); refine goesY_ (some 8) Try.func22 #[] ?_; (with_reducible refine (vernierlaw02_up.calls  true _ A2.out).mono ?_); rintro e w28 ⟨rfl, hb⟩; refine ⟨_, rfl, ?_⟩; have n0_ := Aside0.mk (bB3 BK658.out hb); have n1_ := Aside0.mk (bS3 HB.out hb); clear BK658; clear HB; have BK658 := n0_; have HB := n1_; clear n0_ n1_; (try clear hb); (try clear hb2); (try clear hk); (try clear hi); have hcz29_0 : w28.cell? ⟨gb658, 0, none⟩ = some (.int .u64 a0_0) := (blk_cell BK658.out 0).trans rfl; have hcz29_1 : w28.cell? ⟨gb658, 1, none⟩ = some (.int .u64 a0_1) := (blk_cell BK658.out 1).trans rfl; have hfz29_0 := blk_frozen BK658.out 0; have hfz29_1 := blk_frozen BK658.out 1) | ((with_reducible refine gC (f := 63) rfl ?_); refine goesY_ (some 11) Try.func63 #[.agg #[.int .u64 a0_0, .int .u64 a0_1]] ?_; (with_reducible refine (twin_Norm.calls k a0_0 a0_1 t660 t661 t662 _ A3.out).mono ?_); rintro e w30 ⟨rfl, hb⟩; refine ⟨_, rfl, ?_⟩; have n0_ := Aside0.mk (bB3 BK658.out hb); have n1_ := Aside0.mk (bS3 HB.out hb); clear BK658; clear HB; have BK658 := n0_; have HB := n1_; clear n0_ n1_; (try clear hb); (try clear hb2); (try clear hk); (try clear hi)) | ((with_reducible refine gD (N := 4) rfl ?_); refine bE3 4 #[.int .u64 0, .int .u64 0] 25 ?hr ?_; (case hr => first | (go_simp; done) | (go_simp; rfl)); intro gb663 hg w31 hbox hb; have n0_ := Aside0.mk (bB3 BK658.out hb); have n1_ := Aside0.mk (bS3 HB.out hb); have n2_ := Aside0.mk (hbox); have n3_ := Aside0.mk ((bZ3 hg HB.out)); have n4_ := Aside0.mk ((bZ3 hg HB.out)); have n5_ := Aside0.mk ((bL3 hg BK658.out)); have n6_ := Aside0.mk ((bG3 hg BK658.out)); clear BK658; clear HB; have BK658 := n0_; have HB := n1_; have BK663 := n2_; have GW663 := n3_; have GE663 := n4_; have NB658_663 := n5_; have NB663_658 := n6_; clear n0_ n1_ n2_ n3_ n4_ n5_ n6_; clear hb hbox hg; have hnb32 := NB663_658.out; have hnc32 := NB658_663.out; have hcz33_0 : w31.cell? ⟨gb663, 0, none⟩ = some (.int .u64 0) := (blk_cell BK663.out 0).trans rfl; have hcz33_1 : w31.cell? ⟨gb663, 1, none⟩ = some (.int .u64 0) := (blk_cell BK663.out 1).trans rfl; have hfz33_0 := blk_frozen BK663.out 0; have hfz33_1 := blk_frozen BK663.out 1; have hcz34_0 : w31.cell? ⟨gb658, 0, none⟩ = some (.int .u64 a0_0) := (blk_cell BK658.out 0).trans rfl; have hcz34_1 : w31.cell? ⟨gb658, 1, none⟩ = some (.int .u64 a0_1) := (blk_cell BK658.out 1).trans rfl; have hfz34_0 := blk_frozen BK658.out 0; have hfz34_1 := blk_frozen BK658.out 1) | ((with_reducible refine gC (f := 64) rfl ?_); refine goesY_ (some 16) Try.func64 #[.agg #[.int .u64 a0_0, .int .u64 a0_1]] ?_; (with_reducible refine (vernierref02_Norm.calls k a0_0 a0_1 t664 t665 t666 _ A4.out).mono ?_); rintro e w35 ⟨rfl, hb⟩; refine ⟨_, rfl, ?_⟩; have n0_ := Aside0.mk (bB (g := gb658) (o := .cells #[.int .u64 a0_0, .int .u64 a0_1] 25 (0, 0)) (by (with_reducible repeat (first | refine bN ?_ _ | refine bD ?_ | refine bA ?_ _)); refine blk_far ?_ NB658_663.out _; (with_reducible repeat (first | refine bN ?_ _ | refine bD ?_ | refine bA ?_ _)); refine blk_far ?_ NB658_663.out _; (with_reducible repeat (first | refine bN ?_ _ | refine bD ?_ | refine bA ?_ _)); exact BK658.out) hb); have n1_ := Aside0.mk (bB (g := gb663) (o := .cells #[.int .u64 t660, .int .u64 t661] 25 (0, 0)) (by (with_reducible repeat (first | refine bN ?_ _ | refine bD ?_ | refine bA ?_ _)); refine blk_put (cs := #[.int .u64 t660, .int .u64 0]) ?_ 1 _ rfl; (with_reducible repeat (first | refine bN ?_ _ | refine bD ?_ | refine bA ?_ _)); refine blk_put (cs := #[.int .u64 0, .int .u64 0]) ?_ 0 _ rfl; (with_reducible repeat (first | refine bN ?_ _ | refine bD ?_ | refine bA ?_ _)); exact BK663.out) hb); have n2_ := Aside0.mk (bS3 HB.out hb); clear BK658; clear BK663; clear HB; have BK658 := n0_; have BK663 := n1_; have HB := n2_; clear n0_ n1_ n2_; (try clear hb); (try clear hb2); (try clear hk); (try clear hi)) | ((with_reducible refine gD (N := 6) rfl ?_); refine bE3 6 #[.int .u64 0, .int .u64 0] 25 ?hr ?_; (case hr => first | (go_simp; done) | (go_simp; rfl)); intro gb667 hg w36 hbox hb; have n0_ := Aside0.mk (bB3 BK658.out hb); have n1_ := Aside0.mk (bB3 BK663.out hb); have n2_ := Aside0.mk (bS3 HB.out hb); have n3_ := Aside0.mk (hbox); have n4_ := Aside0.mk ((bZ3 hg HB.out)); have n5_ := Aside0.mk ((bZ3 hg HB.out)); have n6_ := Aside0.mk ((bL3 hg BK658.out)); have n7_ := Aside0.mk ((bG3 hg BK658.out)); have n8_ := Aside0.mk ((bL3 hg BK663.out)); have n9_ := Aside0.mk ((bG3 hg BK663.out)); clear BK658; clear BK663; clear HB; have BK658 := n0_; have BK663 := n1_; have HB := n2_; have BK667 := n3_; have GW667 := n4_; have GE667 := n5_; have NB658_667 := n6_; have NB667_658 := n7_; have NB663_667 := n8_; have NB667_663 := n9_; clear n0_ n1_ n2_ n3_ n4_ n5_ n6_ n7_ n8_ n9_; clear hb hbox hg; have hnb37 := NB667_658.out; have hnc37 := NB658_667.out; have hnb38 := NB667_663.out; have hnc38 := NB663_667.out; have hcz39_0 : w36.cell? ⟨gb667, 0, none⟩ = some (.int .u64 0) := (blk_cell BK667.out 0).trans rfl; have hcz39_1 : w36.cell? ⟨gb667, 1, none⟩ = some (.int .u64 0) := (blk_cell BK667.out 1).trans rfl; have hfz39_0 := blk_frozen BK667.out 0; have hfz39_1 := blk_frozen BK667.out 1))
        have n0_ : Aside0 (((w36.setCell ⟨gb667, 0, none⟩ (.int .u64 t664)).setCell ⟨gb667, 1, none⟩ (.int .u64 t665)).heap[gb658]? = some (.cells #[.int .u64 a0_0, .int .u64 a0_1] 25 (0, 0))) := ⟨by (with_reducible repeat (first | refine bN ?_ _ | refine bD ?_ | refine bA ?_ _)); refine blk_far ?_ NB658_667.out _; (with_reducible repeat (first | refine bN ?_ _ | refine bD ?_ | refine bA ?_ _)); refine blk_far ?_ NB658_667.out _; (with_reducible repeat (first | refine bN ?_ _ | refine bD ?_ | refine bA ?_ _)); exact BK658.out⟩
        have n1_ : Aside0 (((w36.setCell ⟨gb667, 0, none⟩ (.int .u64 t664)).setCell ⟨gb667, 1, none⟩ (.int .u64 t665)).heap[gb663]? = some (.cells #[.int .u64 t660, .int .u64 t661] 25 (0, 0))) := ⟨by (with_reducible repeat (first | refine bN ?_ _ | refine bD ?_ | refine bA ?_ _)); refine blk_far ?_ NB663_667.out _; (with_reducible repeat (first | refine bN ?_ _ | refine bD ?_ | refine bA ?_ _)); refine blk_far ?_ NB663_667.out _; (with_reducible repeat (first | refine bN ?_ _ | refine bD ?_ | refine bA ?_ _)); exact BK663.out⟩
        have n2_ : Aside0 (((w36.setCell ⟨gb667, 0, none⟩ (.int .u64 t664)).setCell ⟨gb667, 1, none⟩ (.int .u64 t665)).heap[gb667]? = some (.cells #[.int .u64 t664, .int .u64 t665] 25 (0, 0))) := ⟨by (with_reducible repeat (first | refine bN ?_ _ | refine bD ?_ | refine bA ?_ _)); refine blk_put (cs := #[.int .u64 t664, .int .u64 0]) ?_ 1 _ rfl; (with_reducible repeat (first | refine bN ?_ _ | refine bD ?_ | refine bA ?_ _)); refine blk_put (cs := #[.int .u64 0, .int .u64 0]) ?_ 0 _ rfl; (with_reducible repeat (first | refine bN ?_ _ | refine bD ?_ | refine bA ?_ _)); exact BK667.out⟩
        have n3_ : Aside0 (Below w.heap.size w ((w36.setCell ⟨gb667, 0, none⟩ (.int .u64 t664)).setCell ⟨gb667, 1, none⟩ (.int .u64 t665))) := ⟨by repeat (first | (with_reducible first | exact HB.out | apply pA | apply pN | apply p1 | refine pS ?_ GE658.out | refine pS ?_ GE663.out | refine pS ?_ GE667.out) | exact HB.out)⟩
        (try clear BK658)
        (try clear BK663)
        (try clear BK667)
        (try clear HB)
        generalize ((w36.setCell ⟨gb667, 0, none⟩ (.int .u64 t664)).setCell ⟨gb667, 1, none⟩ (.int .u64 t665)) = w40 at n0_ n1_ n2_ n3_ ⊢
        have BK658 := n0_
        have BK663 := n1_
        have BK667 := n2_
        have HB := n3_
        clear n0_ n1_ n2_ n3_
        have n0_ := Aside0.mk (bD BK658.out)
        have n1_ := Aside0.mk (bD BK663.out)
        have n2_ := Aside0.mk (bD BK667.out)
        have n3_ := Aside0.mk (p1 HB.out)
        clear BK658
        clear BK663
        clear BK667
        clear HB
        have BK658 := n0_
        have BK663 := n1_
        have BK667 := n2_
        have HB := n3_
        clear n0_ n1_ n2_ n3_
        refine start_ (n := 19) (S := fun w' => w'.cell? ⟨gb658, 0, none⟩ = some (.int .u64 a0_0) ∧ w'.cell? ⟨gb658, 1, none⟩ = some (.int .u64 a0_1) ∧ w'.cell? ⟨gb663, 0, none⟩ = some (.int .u64 t660) ∧ w'.cell? ⟨gb663, 1, none⟩ = some (.int .u64 t661) ∧ w'.cell? ⟨gb667, 0, none⟩ = some (.int .u64 t664) ∧ w'.cell? ⟨gb667, 1, none⟩ = some (.int .u64 t665)) (ds := []) #[false, false, false, false, false, false, false, false, false, false, false, false, false, false, false, false, false, false, false] (by kernel_rfl) rfl rfl ⟨(blk_cell BK658.out 0).trans rfl, (blk_cell BK658.out 1).trans rfl, (blk_cell BK663.out 0).trans rfl, (blk_cell BK663.out 1).trans rfl, (blk_cell BK667.out 0).trans rfl, (blk_cell BK667.out 1).trans rfl⟩ (fun hHeld => ?_); refine with_tabW vernierlaw02_TwinLens.tab4 vernierlaw02_TwinLens.bits4 (fun HT_ HW_ => ?_)
        generalize w40.drew = w41 at BK658 BK663 BK667 HB hHeld ⊢
        refine pure_ (i := 0) (N := some 19) (v := ?_) (a' := ?_) #[true, false, false, false, false, false, false, false, false, false, false, false, false, false, false, false, false, false, false] rfl rfl (any_of HT_.out (by kernel_rfl)) (fun _ _ _ h => h) (Or.inl ⟨by rfl, ?_⟩) ?_ ?_
        rotate_left
        · intro w'
          go_simp
          with_reducible rfl
        rotate_left
        · simp only [Act.put, List.setIfInBounds_toArray, List.set_cons_zero, List.set_cons_succ, i64_w, i32_w]
          rfl
        refine pure_ (i := 1) (N := some 20) (v := ?_) (a' := ?_) #[true, true, false, false, false, false, false, false, false, false, false, false, false, false, false, false, false, false, false] rfl rfl (any_of HT_.out (by kernel_rfl)) (fun _ _ _ h => h) (Or.inl ⟨by rfl, ?_⟩) ?_ ?_
        rotate_left
        · intro w'
          go_simp
          with_reducible rfl
        rotate_left
        · simp only [Act.put, List.setIfInBounds_toArray, List.set_cons_zero, List.set_cons_succ, i64_w, i32_w]
          rfl
        refine take_ (i := 2) (N := some 21) (v := ?_) (a' := ?_) #[true, true, true, false, false, false, false, false, false, false, false, false, false, false, false, false, false, false, false] rfl rfl (take_ofW HT_.out HW_.out (by kernel_rfl)) (fun _ _ _ h => h) (Or.inl ⟨by rfl, ?_⟩) hHeld ?_ ?_
        rotate_left
        · rintro w' ⟨s0, s1, s2, s3, s4, s5⟩
          go_simp
          with_reducible rfl
        rotate_left
        · simp only [Act.put, List.setIfInBounds_toArray, List.set_cons_zero, List.set_cons_succ, i64_w, i32_w]
          rfl
        refine take_ (i := 4) (N := some 23) (v := ?_) (a' := ?_) #[true, true, true, false, true, false, false, false, false, false, false, false, false, false, false, false, false, false, false] rfl rfl (take_ofW HT_.out HW_.out (by kernel_rfl)) (fun _ _ _ h => h) (Or.inl ⟨by rfl, ?_⟩) hHeld ?_ ?_
        rotate_left
        · rintro w' ⟨s0, s1, s2, s3, s4, s5⟩
          go_simp
          with_reducible rfl
        rotate_left
        · simp only [Act.put, List.setIfInBounds_toArray, List.set_cons_zero, List.set_cons_succ, i64_w, i32_w]
          rfl
        refine one_ (i := 3) (N := some 22) #[true, true, true, true, true, false, false, false, false, false, false, false, false, false, false, false, false, false, false] rfl rfl (one_of HT_.out (by kernel_rfl)) (by decide) (fun K hK => ?_)
        refine goes_ Try.func65 (by kernel_rfl) rfl #[.agg #[.int .u64 a0_0, .int .u64 a0_1]] (by rfl) rfl rfl (by (try simp only [List.map_toArray, List.map_cons, List.map_nil]); first | done | rfl | (simp only [List.length_drop, List.length_take]; rfl)) ?_
        with_reducible refine (twin_Len.calls k a0_0 a0_1 t668 _ A6.out).mono ?_
        rintro e w42 ⟨rfl, hb⟩
        refine ⟨_, rfl, ?_⟩
        have n0_ := Aside0.mk (bB3 BK658.out hb)
        have n1_ := Aside0.mk (bB3 BK663.out hb)
        have n2_ := Aside0.mk (bB3 BK667.out hb)
        have n3_ := Aside0.mk (bS3 HB.out hb)
        clear BK658
        clear BK663
        clear BK667
        clear HB
        have BK658 := n0_
        have BK663 := n1_
        have BK667 := n2_
        have HB := n3_
        clear n0_ n1_ n2_ n3_
        (try clear hb)
        (try clear hb2)
        (try clear hk)
        (try clear hi)
        refine hK.out _ _ ⟨(blk_cell BK658.out 0).trans rfl, (blk_cell BK658.out 1).trans rfl, (blk_cell BK663.out 0).trans rfl, (blk_cell BK663.out 1).trans rfl, (blk_cell BK667.out 0).trans rfl, (blk_cell BK667.out 1).trans rfl⟩ (fun hHeld => ?_)
        clear hK K
        refine norm_ (a' := ?_) ?_ ?_
        rotate_left
        · show Act.put _ (some 22) _ = _
          simp only [Act.put, List.setIfInBounds_toArray, List.set_cons_zero, List.set_cons_succ, i64_w, i32_w]
          rfl
        refine one_ (i := 5) (N := some 24) #[true, true, true, true, true, true, false, false, false, false, false, false, false, false, false, false, false, false, false] rfl rfl (one_of HT_.out (by kernel_rfl)) (by decide) (fun K hK => ?_)
        refine goes_ Try.func66 (by kernel_rfl) rfl #[.agg #[.int .u64 a0_0, .int .u64 a0_1]] (by rfl) rfl rfl (by (try simp only [List.map_toArray, List.map_cons, List.map_nil]); first | done | rfl | (simp only [List.length_drop, List.length_take]; rfl)) ?_
        with_reducible refine (vernierref02_Len.calls k a0_0 a0_1 t669 _ A7.out).mono ?_
        rintro e w43 ⟨rfl, hb⟩
        refine ⟨_, rfl, ?_⟩
        have n0_ := Aside0.mk (bB3 BK658.out hb)
        have n1_ := Aside0.mk (bB3 BK663.out hb)
        have n2_ := Aside0.mk (bB3 BK667.out hb)
        have n3_ := Aside0.mk (bS3 HB.out hb)
        clear BK658
        clear BK663
        clear BK667
        clear HB
        have BK658 := n0_
        have BK663 := n1_
        have BK667 := n2_
        have HB := n3_
        clear n0_ n1_ n2_ n3_
        (try clear hb)
        (try clear hb2)
        (try clear hk)
        (try clear hi)
        refine hK.out _ _ ⟨(blk_cell BK658.out 0).trans rfl, (blk_cell BK658.out 1).trans rfl, (blk_cell BK663.out 0).trans rfl, (blk_cell BK663.out 1).trans rfl, (blk_cell BK667.out 0).trans rfl, (blk_cell BK667.out 1).trans rfl⟩ (fun hHeld => ?_)
        clear hK K
        refine norm_ (a' := ?_) ?_ ?_
        rotate_left
        · show Act.put _ (some 24) _ = _
          simp only [Act.put, List.setIfInBounds_toArray, List.set_cons_zero, List.set_cons_succ, i64_w, i32_w]
          rfl
        refine pure_ (i := 6) (N := some 25) (v := ?_) (a' := ?_) #[true, true, true, true, true, true, true, false, false, false, false, false, false, false, false, false, false, false, false] rfl rfl (any_of HT_.out (by kernel_rfl)) (fun _ _ _ h => h) (Or.inl ⟨by rfl, ?_⟩) ?_ ?_
        rotate_left
        · intro w'
          go_simp
          with_reducible rfl
        rotate_left
        · simp only [Act.put, List.setIfInBounds_toArray, List.set_cons_zero, List.set_cons_succ, i64_w, i32_w]
          rfl
        refine pure_ (i := 7) (N := some 26) (v := ?_) (a' := ?_) #[true, true, true, true, true, true, true, true, false, false, false, false, false, false, false, false, false, false, false] rfl rfl (any_of HT_.out (by kernel_rfl)) (fun _ _ _ h => h) (Or.inl ⟨by rfl, ?_⟩) ?_ ?_
        rotate_left
        · intro w'
          go_simp
          with_reducible rfl
        rotate_left
        · simp only [Act.put, List.setIfInBounds_toArray, List.set_cons_zero, List.set_cons_succ, i64_w, i32_w]
          rfl
        refine pure_ (i := 8) (N := some 27) (v := ?_) (a' := ?_) #[true, true, true, true, true, true, true, true, true, false, false, false, false, false, false, false, false, false, false] rfl rfl (any_of HT_.out (by kernel_rfl)) (fun _ _ _ h => h) (Or.inl ⟨by rfl, ?_⟩) ?_ ?_
        rotate_left
        · intro w'
          go_simp
          with_reducible rfl
        rotate_left
        · simp only [Act.put, List.setIfInBounds_toArray, List.set_cons_zero, List.set_cons_succ, i64_w, i32_w]
          rfl
        refine take_ (i := 9) (N := some 28) (v := ?_) (a' := ?_) #[true, true, true, true, true, true, true, true, true, true, false, false, false, false, false, false, false, false, false] rfl rfl (take_ofW HT_.out HW_.out (by kernel_rfl)) (fun _ _ _ h => h) (Or.inl ⟨by rfl, ?_⟩) hHeld ?_ ?_
        rotate_left
        · rintro w' ⟨s0, s1, s2, s3, s4, s5⟩
          go_simp
          with_reducible rfl
        rotate_left
        · simp only [Act.put, List.setIfInBounds_toArray, List.set_cons_zero, List.set_cons_succ, i64_w, i32_w]
          rfl
        refine take_ (i := 10) (N := some 29) (v := ?_) (a' := ?_) #[true, true, true, true, true, true, true, true, true, true, true, false, false, false, false, false, false, false, false] rfl rfl (take_ofW HT_.out HW_.out (by kernel_rfl)) (fun _ _ _ h => h) (Or.inl ⟨by rfl, ?_⟩) hHeld ?_ ?_
        rotate_left
        · rintro w' ⟨s0, s1, s2, s3, s4, s5⟩
          go_simp
          with_reducible rfl
        rotate_left
        · simp only [Act.put, List.setIfInBounds_toArray, List.set_cons_zero, List.set_cons_succ, i64_w, i32_w]
          rfl
        refine pure_ (i := 11) (N := some 30) (v := ?_) (a' := ?_) #[true, true, true, true, true, true, true, true, true, true, true, true, false, false, false, false, false, false, false] rfl rfl (any_of HT_.out (by kernel_rfl)) (fun _ _ _ h => h) (Or.inl ⟨by rfl, ?_⟩) ?_ ?_
        rotate_left
        · intro w'
          go_simp
          with_reducible rfl
        rotate_left
        · simp only [Act.put, List.setIfInBounds_toArray, List.set_cons_zero, List.set_cons_succ, i64_w, i32_w]
          rfl
        refine pure_ (i := 12) (N := some 31) (v := ?_) (a' := ?_) #[true, true, true, true, true, true, true, true, true, true, true, true, true, false, false, false, false, false, false] rfl rfl (any_of HT_.out (by kernel_rfl)) (fun _ _ _ h => h) (Or.inl ⟨by rfl, ?_⟩) ?_ ?_
        rotate_left
        · intro w'
          go_simp
          with_reducible rfl
        rotate_left
        · simp only [Act.put, List.setIfInBounds_toArray, List.set_cons_zero, List.set_cons_succ, i64_w, i32_w]
          rfl
        refine pure_ (i := 13) (N := some 32) (v := ?_) (a' := ?_) #[true, true, true, true, true, true, true, true, true, true, true, true, true, true, false, false, false, false, false] rfl rfl (any_of HT_.out (by kernel_rfl)) (fun _ _ _ h => h) (Or.inl ⟨by rfl, ?_⟩) ?_ ?_
        rotate_left
        · intro w'
          go_simp
          with_reducible rfl
        rotate_left
        · simp only [Act.put, List.setIfInBounds_toArray, List.set_cons_zero, List.set_cons_succ, i64_w, i32_w]
          rfl
        refine pure_ (i := 14) (N := some 33) (v := undef) (a' := ?_) #[true, true, true, true, true, true, true, true, true, true, true, true, true, true, true, false, false, false, false] rfl rfl (any_of HT_.out (by kernel_rfl)) (fun _ _ _ h => h) (Or.inr ⟨by rfl, rfl⟩) ?_ ?_
        rotate_left
        · simp only [Act.put, List.setIfInBounds_toArray, List.set_cons_zero, List.set_cons_succ, i64_w, i32_w]
          rfl
        refine pure_ (i := 15) (N := some 34) (v := undef) (a' := ?_) #[true, true, true, true, true, true, true, true, true, true, true, true, true, true, true, true, false, false, false] rfl rfl (any_of HT_.out (by kernel_rfl)) (fun _ _ _ h => h) (Or.inr ⟨by rfl, rfl⟩) ?_ ?_
        rotate_left
        · simp only [Act.put, List.setIfInBounds_toArray, List.set_cons_zero, List.set_cons_succ, i64_w, i32_w]
          rfl
        refine pure_ (i := 16) (N := some 35) (v := undef) (a' := ?_) #[true, true, true, true, true, true, true, true, true, true, true, true, true, true, true, true, true, false, false] rfl rfl (any_of HT_.out (by kernel_rfl)) (fun _ _ _ h => h) (Or.inr ⟨by rfl, rfl⟩) ?_ ?_
        rotate_left
        · simp only [Act.put, List.setIfInBounds_toArray, List.set_cons_zero, List.set_cons_succ, i64_w, i32_w]
          rfl
        refine pure_ (i := 17) (N := some 36) (v := ?_) (a' := ?_) #[true, true, true, true, true, true, true, true, true, true, true, true, true, true, true, true, true, true, false] rfl rfl (any_of HT_.out (by kernel_rfl)) (fun _ _ _ h => h) (Or.inl ⟨by rfl, ?_⟩) ?_ ?_
        rotate_left
        · intro w'
          go_simp
          with_reducible rfl
        rotate_left
        · simp only [Act.put, List.setIfInBounds_toArray, List.set_cons_zero, List.set_cons_succ, i64_w, i32_w]
          rfl
        refine pure_ (i := 18) (N := some 2) (v := ?_) (a' := ?_) #[true, true, true, true, true, true, true, true, true, true, true, true, true, true, true, true, true, true, true] rfl rfl (any_of HT_.out (by kernel_rfl)) (fun _ _ _ h => h) (Or.inl ⟨by rfl, ?_⟩) ?_ ?_
        rotate_left
        · intro w'
          go_simp
          with_reducible rfl
        rotate_left
        · simp only [Act.put, List.setIfInBounds_toArray, List.set_cons_zero, List.set_cons_succ, i64_w, i32_w]
          rfl
        refine done_ (done_of HT_.out (by kernel_rfl)) ?_
        try go_wp2
        go_ret
        exact ⟨by first | rfl | (simp [errW_none, errW_some] <;> rfl) | (simp [*, errW_none, errW_some] <;> rfl), by repeat (first | (with_reducible first | exact HB.out | apply pA | apply pN | apply p1 | refine pS ?_ GE658.out | refine pS ?_ GE663.out | refine pS ?_ GE667.out) | exact HB.out)⟩
    · rw [if_neg c8] at H
      have c8b0 : (t668 == t669) = false := beq_eq_false_iff_ne.mpr c8
      have c8b1 : (t668 != t669) = true := bne_iff_ne.mpr c8
      obtain rfl := Option.some.inj H
      go_enter Try.func20, Try.ntmps20
      try go_wp2_with (first | ((with_reducible refine gD (N := 1) rfl ?_); refine bE3 1 #[.int .u64 a0_0, .int .u64 a0_1] 25 ?hr ?_; (case hr => first | (go_simp; done) | (go_simp; rfl)); intro gb658 hg w44 hbox hb; have n0_ := Aside0.mk (bS3 HB.out hb); have n1_ := Aside0.mk (hbox); have n2_ := Aside0.mk ((bZ3 hg HB.out)); have n3_ := Aside0.mk ((bZ3 hg HB.out)); clear HB; have HB := n0_; have BK658 := n1_; have GW658 := n2_; have GE658 := n3_; clear n0_ n1_ n2_ n3_; clear hb hbox hg) | ((with_reducible refine gC (f := 22) rfl ?_); refine goesY_ (some 8) Try.func22 #[] ?_; (with_reducible refine (vernierlaw02_up.calls  true _ A2.out).mono ?_); rintro e w45 ⟨rfl, hb⟩; refine ⟨_, rfl, ?_⟩; have n0_ := Aside0.mk (bB3 BK658.out hb); have n1_ := Aside0.mk (bS3 HB.out hb); clear BK658; clear HB; have BK658 := n0_; have HB := n1_; clear n0_ n1_; (try clear hb); (try clear hb2); (try clear hk); (try clear hi); have hcz46_0 : w45.cell? ⟨gb658, 0, none⟩ = some (.int .u64 a0_0) := (blk_cell BK658.out 0).trans rfl; have hcz46_1 : w45.cell? ⟨gb658, 1, none⟩ = some (.int .u64 a0_1) := (blk_cell BK658.out 1).trans rfl; have hfz46_0 := blk_frozen BK658.out 0; have hfz46_1 := blk_frozen BK658.out 1) | ((with_reducible refine gC (f := 63) rfl ?_); refine goesY_ (some 11) Try.func63 #[.agg #[.int .u64 a0_0, .int .u64 a0_1]] ?_; (with_reducible refine (twin_Norm.calls k a0_0 a0_1 t660 t661 t662 _ A3.out).mono ?_); rintro e w47 ⟨rfl, hb⟩; refine ⟨_, rfl, ?_⟩; have n0_ := Aside0.mk (bB3 BK658.out hb); have n1_ := Aside0.mk (bS3 HB.out hb); clear BK658; clear HB; have BK658 := n0_; have HB := n1_; clear n0_ n1_; (try clear hb); (try clear hb2); (try clear hk); (try clear hi)) | ((with_reducible refine gD (N := 4) rfl ?_); refine bE3 4 #[.int .u64 0, .int .u64 0] 25 ?hr ?_; (case hr => first | (go_simp; done) | (go_simp; rfl)); intro gb663 hg w48 hbox hb; have n0_ := Aside0.mk (bB3 BK658.out hb); have n1_ := Aside0.mk (bS3 HB.out hb); have n2_ := Aside0.mk (hbox); have n3_ := Aside0.mk ((bZ3 hg HB.out)); have n4_ := Aside0.mk ((bZ3 hg HB.out)); have n5_ := Aside0.mk ((bL3 hg BK658.out)); have n6_ := Aside0.mk ((bG3 hg BK658.out)); clear BK658; clear HB; have BK658 := n0_; have HB := n1_; have BK663 := n2_; have GW663 := n3_; have GE663 := n4_; have NB658_663 := n5_; have NB663_658 := n6_; clear n0_ n1_ n2_ n3_ n4_ n5_ n6_; clear hb hbox hg; have hnb49 := NB663_658.out; have hnc49 := NB658_663.out; have hcz50_0 : w48.cell? ⟨gb663, 0, none⟩ = some (.int .u64 0) := (blk_cell BK663.out 0).trans rfl; have hcz50_1 : w48.cell? ⟨gb663, 1, none⟩ = some (.int .u64 0) := (blk_cell BK663.out 1).trans rfl; have hfz50_0 := blk_frozen BK663.out 0; have hfz50_1 := blk_frozen BK663.out 1; have hcz51_0 : w48.cell? ⟨gb658, 0, none⟩ = some (.int .u64 a0_0) := (blk_cell BK658.out 0).trans rfl; have hcz51_1 : w48.cell? ⟨gb658, 1, none⟩ = some (.int .u64 a0_1) := (blk_cell BK658.out 1).trans rfl; have hfz51_0 := blk_frozen BK658.out 0; have hfz51_1 := blk_frozen BK658.out 1) | ((with_reducible refine gC (f := 64) rfl ?_); refine goesY_ (some 16) Try.func64 #[.agg #[.int .u64 a0_0, .int .u64 a0_1]] ?_; (with_reducible refine (vernierref02_Norm.calls k a0_0 a0_1 t664 t665 t666 _ A4.out).mono ?_); rintro e w52 ⟨rfl, hb⟩; refine ⟨_, rfl, ?_⟩; have n0_ := Aside0.mk (bB (g := gb658) (o := .cells #[.int .u64 a0_0, .int .u64 a0_1] 25 (0, 0)) (by (with_reducible repeat (first | refine bN ?_ _ | refine bD ?_ | refine bA ?_ _)); refine blk_far ?_ NB658_663.out _; (with_reducible repeat (first | refine bN ?_ _ | refine bD ?_ | refine bA ?_ _)); refine blk_far ?_ NB658_663.out _; (with_reducible repeat (first | refine bN ?_ _ | refine bD ?_ | refine bA ?_ _)); exact BK658.out) hb); have n1_ := Aside0.mk (bB (g := gb663) (o := .cells #[.int .u64 t660, .int .u64 t661] 25 (0, 0)) (by (with_reducible repeat (first | refine bN ?_ _ | refine bD ?_ | refine bA ?_ _)); refine blk_put (cs := #[.int .u64 t660, .int .u64 0]) ?_ 1 _ rfl; (with_reducible repeat (first | refine bN ?_ _ | refine bD ?_ | refine bA ?_ _)); refine blk_put (cs := #[.int .u64 0, .int .u64 0]) ?_ 0 _ rfl; (with_reducible repeat (first | refine bN ?_ _ | refine bD ?_ | refine bA ?_ _)); exact BK663.out) hb); have n2_ := Aside0.mk (bS3 HB.out hb); clear BK658; clear BK663; clear HB; have BK658 := n0_; have BK663 := n1_; have HB := n2_; clear n0_ n1_ n2_; (try clear hb); (try clear hb2); (try clear hk); (try clear hi)) | ((with_reducible refine gD (N := 6) rfl ?_); refine bE3 6 #[.int .u64 0, .int .u64 0] 25 ?hr ?_; (case hr => first | (go_simp; done) | (go_simp; rfl)); intro gb667 hg w53 hbox hb; have n0_ := Aside0.mk (bB3 BK658.out hb); have n1_ := Aside0.mk (bB3 BK663.out hb); have n2_ := Aside0.mk (bS3 HB.out hb); have n3_ := Aside0.mk (hbox); have n4_ := Aside0.mk ((bZ3 hg HB.out)); have n5_ := Aside0.mk ((bZ3 hg HB.out)); have n6_ := Aside0.mk ((bL3 hg BK658.out)); have n7_ := Aside0.mk ((bG3 hg BK658.out)); have n8_ := Aside0.mk ((bL3 hg BK663.out)); have n9_ := Aside0.mk ((bG3 hg BK663.out)); clear BK658; clear BK663; clear HB; have BK658 := n0_; have BK663 := n1_; have HB := n2_; have BK667 := n3_; have GW667 := n4_; have GE667 := n5_; have NB658_667 := n6_; have NB667_658 := n7_; have NB663_667 := n8_; have NB667_663 := n9_; clear n0_ n1_ n2_ n3_ n4_ n5_ n6_ n7_ n8_ n9_; clear hb hbox hg; have hnb54 := NB667_658.out; have hnc54 := NB658_667.out; have hnb55 := NB667_663.out; have hnc55 := NB663_667.out; have hcz56_0 : w53.cell? ⟨gb667, 0, none⟩ = some (.int .u64 0) := (blk_cell BK667.out 0).trans rfl; have hcz56_1 : w53.cell? ⟨gb667, 1, none⟩ = some (.int .u64 0) := (blk_cell BK667.out 1).trans rfl; have hfz56_0 := blk_frozen BK667.out 0; have hfz56_1 := blk_frozen BK667.out 1))
      have n0_ : Aside0 (((w53.setCell ⟨gb667, 0, none⟩ (.int .u64 t664)).setCell ⟨gb667, 1, none⟩ (.int .u64 t665)).heap[gb658]? = some (.cells #[.int .u64 a0_0, .int .u64 a0_1] 25 (0, 0))) := ⟨by (with_reducible repeat (first | refine bN ?_ _ | refine bD ?_ | refine bA ?_ _)); refine blk_far ?_ NB658_667.out _; (with_reducible repeat (first | refine bN ?_ _ | refine bD ?_ | refine bA ?_ _)); refine blk_far ?_ NB658_667.out _; (with_reducible repeat (first | refine bN ?_ _ | refine bD ?_ | refine bA ?_ _)); exact BK658.out⟩
      have n1_ : Aside0 (((w53.setCell ⟨gb667, 0, none⟩ (.int .u64 t664)).setCell ⟨gb667, 1, none⟩ (.int .u64 t665)).heap[gb663]? = some (.cells #[.int .u64 t660, .int .u64 t661] 25 (0, 0))) := ⟨by (with_reducible repeat (first | refine bN ?_ _ | refine bD ?_ | refine bA ?_ _)); refine blk_far ?_ NB663_667.out _; (with_reducible repeat (first | refine bN ?_ _ | refine bD ?_ | refine bA ?_ _)); refine blk_far ?_ NB663_667.out _; (with_reducible repeat (first | refine bN ?_ _ | refine bD ?_ | refine bA ?_ _)); exact BK663.out⟩
      have n2_ : Aside0 (((w53.setCell ⟨gb667, 0, none⟩ (.int .u64 t664)).setCell ⟨gb667, 1, none⟩ (.int .u64 t665)).heap[gb667]? = some (.cells #[.int .u64 t664, .int .u64 t665] 25 (0, 0))) := ⟨by (with_reducible repeat (first | refine bN ?_ _ | refine bD ?_ | refine bA ?_ _)); refine blk_put (cs := #[.int .u64 t664, .int .u64 0]) ?_ 1 _ rfl; (with_reducible repeat (first | refine bN ?_ _ | refine bD ?_ | refine bA ?_ _)); refine blk_put (cs := #[.int .u64 0, .int .u64 0]) ?_ 0 _ rfl; (with_reducible repeat (first | refine bN ?_ _ | refine bD ?_ | refine bA ?_ _)); exact BK667.out⟩
      have n3_ : Aside0 (Below w.heap.size w ((w53.setCell ⟨gb667, 0, none⟩ (.int .u64 t664)).setCell ⟨gb667, 1, none⟩ (.int .u64 t665))) := ⟨by repeat (first | (with_reducible first | exact HB.out | apply pA | apply pN | apply p1 | refine pS ?_ GE658.out | refine pS ?_ GE663.out | refine pS ?_ GE667.out) | exact HB.out)⟩
      (try clear BK658)
      (try clear BK663)
      (try clear BK667)
      (try clear HB)
      generalize ((w53.setCell ⟨gb667, 0, none⟩ (.int .u64 t664)).setCell ⟨gb667, 1, none⟩ (.int .u64 t665)) = w57 at n0_ n1_ n2_ n3_ ⊢
      have BK658 := n0_
      have BK663 := n1_
      have BK667 := n2_
      have HB := n3_
      clear n0_ n1_ n2_ n3_
      have n0_ := Aside0.mk (bD BK658.out)
      have n1_ := Aside0.mk (bD BK663.out)
      have n2_ := Aside0.mk (bD BK667.out)
      have n3_ := Aside0.mk (p1 HB.out)
      clear BK658
      clear BK663
      clear BK667
      clear HB
      have BK658 := n0_
      have BK663 := n1_
      have BK667 := n2_
      have HB := n3_
      clear n0_ n1_ n2_ n3_
      refine start_ (n := 19) (S := fun w' => w'.cell? ⟨gb658, 0, none⟩ = some (.int .u64 a0_0) ∧ w'.cell? ⟨gb658, 1, none⟩ = some (.int .u64 a0_1)) (ds := []) #[false, false, false, false, false, false, false, false, false, false, false, false, false, false, false, false, false, false, false] (by kernel_rfl) rfl rfl ⟨(blk_cell BK658.out 0).trans rfl, (blk_cell BK658.out 1).trans rfl⟩ (fun hHeld => ?_); refine with_tabW vernierlaw02_TwinLens.tab4 vernierlaw02_TwinLens.bits4 (fun HT_ HW_ => ?_)
      generalize w57.drew = w58 at BK658 BK663 BK667 HB hHeld ⊢
      refine pure_ (i := 0) (N := some 19) (v := ?_) (a' := ?_) #[true, false, false, false, false, false, false, false, false, false, false, false, false, false, false, false, false, false, false] rfl rfl (any_of HT_.out (by kernel_rfl)) (fun _ _ _ h => h) (Or.inl ⟨by rfl, ?_⟩) ?_ ?_
      rotate_left
      · intro w'
        go_simp
        with_reducible rfl
      rotate_left
      · simp only [Act.put, List.setIfInBounds_toArray, List.set_cons_zero, List.set_cons_succ, i64_w, i32_w]
        rfl
      refine pure_ (i := 1) (N := some 20) (v := ?_) (a' := ?_) #[true, true, false, false, false, false, false, false, false, false, false, false, false, false, false, false, false, false, false] rfl rfl (any_of HT_.out (by kernel_rfl)) (fun _ _ _ h => h) (Or.inl ⟨by rfl, ?_⟩) ?_ ?_
      rotate_left
      · intro w'
        go_simp
        with_reducible rfl
      rotate_left
      · simp only [Act.put, List.setIfInBounds_toArray, List.set_cons_zero, List.set_cons_succ, i64_w, i32_w]
        rfl
      refine take_ (i := 2) (N := some 21) (v := ?_) (a' := ?_) #[true, true, true, false, false, false, false, false, false, false, false, false, false, false, false, false, false, false, false] rfl rfl (take_ofW HT_.out HW_.out (by kernel_rfl)) (fun _ _ _ h => h) (Or.inl ⟨by rfl, ?_⟩) hHeld ?_ ?_
      rotate_left
      · rintro w' ⟨s0, s1⟩
        go_simp
        with_reducible rfl
      rotate_left
      · simp only [Act.put, List.setIfInBounds_toArray, List.set_cons_zero, List.set_cons_succ, i64_w, i32_w]
        rfl
      refine take_ (i := 4) (N := some 23) (v := ?_) (a' := ?_) #[true, true, true, false, true, false, false, false, false, false, false, false, false, false, false, false, false, false, false] rfl rfl (take_ofW HT_.out HW_.out (by kernel_rfl)) (fun _ _ _ h => h) (Or.inl ⟨by rfl, ?_⟩) hHeld ?_ ?_
      rotate_left
      · rintro w' ⟨s0, s1⟩
        go_simp
        with_reducible rfl
      rotate_left
      · simp only [Act.put, List.setIfInBounds_toArray, List.set_cons_zero, List.set_cons_succ, i64_w, i32_w]
        rfl
      refine one_ (i := 3) (N := some 22) #[true, true, true, true, true, false, false, false, false, false, false, false, false, false, false, false, false, false, false] rfl rfl (one_of HT_.out (by kernel_rfl)) (by decide) (fun K hK => ?_)
      refine goes_ Try.func65 (by kernel_rfl) rfl #[.agg #[.int .u64 a0_0, .int .u64 a0_1]] (by rfl) rfl rfl (by (try simp only [List.map_toArray, List.map_cons, List.map_nil]); first | done | rfl | (simp only [List.length_drop, List.length_take]; rfl)) ?_
      with_reducible refine (twin_Len.calls k a0_0 a0_1 t668 _ A6.out).mono ?_
      rintro e w59 ⟨rfl, hb⟩
      refine ⟨_, rfl, ?_⟩
      have n0_ := Aside0.mk (bB3 BK658.out hb)
      have n1_ := Aside0.mk (bB3 BK663.out hb)
      have n2_ := Aside0.mk (bB3 BK667.out hb)
      have n3_ := Aside0.mk (bS3 HB.out hb)
      clear BK658
      clear BK663
      clear BK667
      clear HB
      have BK658 := n0_
      have BK663 := n1_
      have BK667 := n2_
      have HB := n3_
      clear n0_ n1_ n2_ n3_
      (try clear hb)
      (try clear hb2)
      (try clear hk)
      (try clear hi)
      refine hK.out _ _ ⟨(blk_cell BK658.out 0).trans rfl, (blk_cell BK658.out 1).trans rfl⟩ (fun hHeld => ?_)
      clear hK K
      refine norm_ (a' := ?_) ?_ ?_
      rotate_left
      · show Act.put _ (some 22) _ = _
        simp only [Act.put, List.setIfInBounds_toArray, List.set_cons_zero, List.set_cons_succ, i64_w, i32_w]
        rfl
      refine one_ (i := 5) (N := some 24) #[true, true, true, true, true, true, false, false, false, false, false, false, false, false, false, false, false, false, false] rfl rfl (one_of HT_.out (by kernel_rfl)) (by decide) (fun K hK => ?_)
      refine goes_ Try.func66 (by kernel_rfl) rfl #[.agg #[.int .u64 a0_0, .int .u64 a0_1]] (by rfl) rfl rfl (by (try simp only [List.map_toArray, List.map_cons, List.map_nil]); first | done | rfl | (simp only [List.length_drop, List.length_take]; rfl)) ?_
      with_reducible refine (vernierref02_Len.calls k a0_0 a0_1 t669 _ A7.out).mono ?_
      rintro e w60 ⟨rfl, hb⟩
      refine ⟨_, rfl, ?_⟩
      have n0_ := Aside0.mk (bB3 BK658.out hb)
      have n1_ := Aside0.mk (bB3 BK663.out hb)
      have n2_ := Aside0.mk (bB3 BK667.out hb)
      have n3_ := Aside0.mk (bS3 HB.out hb)
      clear BK658
      clear BK663
      clear BK667
      clear HB
      have BK658 := n0_
      have BK663 := n1_
      have BK667 := n2_
      have HB := n3_
      clear n0_ n1_ n2_ n3_
      (try clear hb)
      (try clear hb2)
      (try clear hk)
      (try clear hi)
      refine hK.out _ _ ⟨(blk_cell BK658.out 0).trans rfl, (blk_cell BK658.out 1).trans rfl⟩ (fun hHeld => ?_)
      clear hK K
      refine norm_ (a' := ?_) ?_ ?_
      rotate_left
      · show Act.put _ (some 24) _ = _
        simp only [Act.put, List.setIfInBounds_toArray, List.set_cons_zero, List.set_cons_succ, i64_w, i32_w]
        rfl
      refine pure_ (i := 6) (N := some 25) (v := ?_) (a' := ?_) #[true, true, true, true, true, true, true, false, false, false, false, false, false, false, false, false, false, false, false] rfl rfl (any_of HT_.out (by kernel_rfl)) (fun _ _ _ h => h) (Or.inl ⟨by rfl, ?_⟩) ?_ ?_
      rotate_left
      · intro w'
        go_simp
        with_reducible rfl
      rotate_left
      · simp only [Act.put, List.setIfInBounds_toArray, List.set_cons_zero, List.set_cons_succ, i64_w, i32_w]
        rfl
      refine pure_ (i := 7) (N := some 26) (v := ?_) (a' := ?_) #[true, true, true, true, true, true, true, true, false, false, false, false, false, false, false, false, false, false, false] rfl rfl (any_of HT_.out (by kernel_rfl)) (fun _ _ _ h => h) (Or.inl ⟨by rfl, ?_⟩) ?_ ?_
      rotate_left
      · intro w'
        go_simp
        with_reducible rfl
      rotate_left
      · simp only [Act.put, List.setIfInBounds_toArray, List.set_cons_zero, List.set_cons_succ, i64_w, i32_w]
        rfl
      refine pure_ (i := 8) (N := some 27) (v := ?_) (a' := ?_) #[true, true, true, true, true, true, true, true, true, false, false, false, false, false, false, false, false, false, false] rfl rfl (any_of HT_.out (by kernel_rfl)) (fun _ _ _ h => h) (Or.inl ⟨by rfl, ?_⟩) ?_ ?_
      rotate_left
      · intro w'
        go_simp
        with_reducible rfl
      rotate_left
      · simp only [Act.put, List.setIfInBounds_toArray, List.set_cons_zero, List.set_cons_succ, i64_w, i32_w]
        rfl
      refine pure_ (i := 9) (N := some 28) (v := undef) (a' := ?_) #[true, true, true, true, true, true, true, true, true, true, false, false, false, false, false, false, false, false, false] rfl rfl (any_of HT_.out (by kernel_rfl)) (fun _ _ _ h => h) (Or.inr ⟨by rfl, rfl⟩) ?_ ?_
      rotate_left
      · simp only [Act.put, List.setIfInBounds_toArray, List.set_cons_zero, List.set_cons_succ, i64_w, i32_w]
        rfl
      refine pure_ (i := 10) (N := some 29) (v := undef) (a' := ?_) #[true, true, true, true, true, true, true, true, true, true, true, false, false, false, false, false, false, false, false] rfl rfl (any_of HT_.out (by kernel_rfl)) (fun _ _ _ h => h) (Or.inr ⟨by rfl, rfl⟩) ?_ ?_
      rotate_left
      · simp only [Act.put, List.setIfInBounds_toArray, List.set_cons_zero, List.set_cons_succ, i64_w, i32_w]
        rfl
      refine pure_ (i := 11) (N := some 30) (v := undef) (a' := ?_) #[true, true, true, true, true, true, true, true, true, true, true, true, false, false, false, false, false, false, false] rfl rfl (any_of HT_.out (by kernel_rfl)) (fun _ _ _ h => h) (Or.inr ⟨by rfl, rfl⟩) ?_ ?_
      rotate_left
      · simp only [Act.put, List.setIfInBounds_toArray, List.set_cons_zero, List.set_cons_succ, i64_w, i32_w]
        rfl
      refine pure_ (i := 12) (N := some 31) (v := ?_) (a' := ?_) #[true, true, true, true, true, true, true, true, true, true, true, true, true, false, false, false, false, false, false] rfl rfl (any_of HT_.out (by kernel_rfl)) (fun _ _ _ h => h) (Or.inl ⟨by rfl, ?_⟩) ?_ ?_
      rotate_left
      · intro w'
        go_simp
        with_reducible rfl
      rotate_left
      · simp only [Act.put, List.setIfInBounds_toArray, List.set_cons_zero, List.set_cons_succ, i64_w, i32_w]
        rfl
      refine pure_ (i := 13) (N := some 32) (v := ?_) (a' := ?_) #[true, true, true, true, true, true, true, true, true, true, true, true, true, true, false, false, false, false, false] rfl rfl (any_of HT_.out (by kernel_rfl)) (fun _ _ _ h => h) (Or.inl ⟨by rfl, ?_⟩) ?_ ?_
      rotate_left
      · intro w'
        go_simp
        with_reducible rfl
      rotate_left
      · simp only [Act.put, List.setIfInBounds_toArray, List.set_cons_zero, List.set_cons_succ, i64_w, i32_w]
        rfl
      refine pure_ (i := 14) (N := some 33) (v := undef) (a' := ?_) #[true, true, true, true, true, true, true, true, true, true, true, true, true, true, true, false, false, false, false] rfl rfl (any_of HT_.out (by kernel_rfl)) (fun _ _ _ h => h) (Or.inr ⟨by rfl, rfl⟩) ?_ ?_
      rotate_left
      · simp only [Act.put, List.setIfInBounds_toArray, List.set_cons_zero, List.set_cons_succ, i64_w, i32_w]
        rfl
      refine pure_ (i := 15) (N := some 34) (v := undef) (a' := ?_) #[true, true, true, true, true, true, true, true, true, true, true, true, true, true, true, true, false, false, false] rfl rfl (any_of HT_.out (by kernel_rfl)) (fun _ _ _ h => h) (Or.inr ⟨by rfl, rfl⟩) ?_ ?_
      rotate_left
      · simp only [Act.put, List.setIfInBounds_toArray, List.set_cons_zero, List.set_cons_succ, i64_w, i32_w]
        rfl
      refine pure_ (i := 16) (N := some 35) (v := undef) (a' := ?_) #[true, true, true, true, true, true, true, true, true, true, true, true, true, true, true, true, true, false, false] rfl rfl (any_of HT_.out (by kernel_rfl)) (fun _ _ _ h => h) (Or.inr ⟨by rfl, rfl⟩) ?_ ?_
      rotate_left
      · simp only [Act.put, List.setIfInBounds_toArray, List.set_cons_zero, List.set_cons_succ, i64_w, i32_w]
        rfl
      refine pure_ (i := 17) (N := some 36) (v := ?_) (a' := ?_) #[true, true, true, true, true, true, true, true, true, true, true, true, true, true, true, true, true, true, false] rfl rfl (any_of HT_.out (by kernel_rfl)) (fun _ _ _ h => h) (Or.inl ⟨by rfl, ?_⟩) ?_ ?_
      rotate_left
      · intro w'
        go_simp
        with_reducible rfl
      rotate_left
      · simp only [Act.put, List.setIfInBounds_toArray, List.set_cons_zero, List.set_cons_succ, i64_w, i32_w]
        rfl
      refine pure_ (i := 18) (N := some 2) (v := ?_) (a' := ?_) #[true, true, true, true, true, true, true, true, true, true, true, true, true, true, true, true, true, true, true] rfl rfl (any_of HT_.out (by kernel_rfl)) (fun _ _ _ h => h) (Or.inl ⟨by rfl, ?_⟩) ?_ ?_
      rotate_left
      · intro w'
        go_simp
        with_reducible rfl
      rotate_left
      · simp only [Act.put, List.setIfInBounds_toArray, List.set_cons_zero, List.set_cons_succ, i64_w, i32_w]
        rfl
      refine done_ (done_of HT_.out (by kernel_rfl)) ?_
      try go_wp2
      go_ret
      exact ⟨by first | rfl | (simp [errW_none, errW_some] <;> rfl) | (simp [*, errW_none, errW_some] <;> rfl), by repeat (first | (with_reducible first | exact HB.out | apply pA | apply pN | apply p1 | refine pS ?_ GE658.out | refine pS ?_ GE663.out | refine pS ?_ GE667.out) | exact HB.out)⟩
  · replace c5 := Bool.eq_false_iff.mpr c5
    subst c5
    have H1 : (some false) = some r := by rw [if_neg (show ¬ (false = true) by decide)] at H; exact H
    clear H
    have H := H1
    clear H1
    obtain rfl := Option.some.inj H
    go_enter Try.func20, Try.ntmps20
    try go_wp2_with (first | ((with_reducible refine gD (N := 1) rfl ?_); refine bE3 1 #[.int .u64 a0_0, .int .u64 a0_1] 25 ?hr ?_; (case hr => first | (go_simp; done) | (go_simp; rfl)); intro gb658 hg w61 hbox hb; have n0_ := Aside0.mk (bS3 HB.out hb); have n1_ := Aside0.mk (hbox); have n2_ := Aside0.mk ((bZ3 hg HB.out)); have n3_ := Aside0.mk ((bZ3 hg HB.out)); clear HB; have HB := n0_; have BK658 := n1_; have GW658 := n2_; have GE658 := n3_; clear n0_ n1_ n2_ n3_; clear hb hbox hg) | ((with_reducible refine gC (f := 22) rfl ?_); refine goesY_ (some 8) Try.func22 #[] ?_; (with_reducible refine (vernierlaw02_up.calls  false _ A2.out).mono ?_); rintro e w62 ⟨rfl, hb⟩; refine ⟨_, rfl, ?_⟩; have n0_ := Aside0.mk (bB3 BK658.out hb); have n1_ := Aside0.mk (bS3 HB.out hb); clear BK658; clear HB; have BK658 := n0_; have HB := n1_; clear n0_ n1_; (try clear hb); (try clear hb2); (try clear hk); (try clear hi); have hcz63_0 : w62.cell? ⟨gb658, 0, none⟩ = some (.int .u64 a0_0) := (blk_cell BK658.out 0).trans rfl; have hcz63_1 : w62.cell? ⟨gb658, 1, none⟩ = some (.int .u64 a0_1) := (blk_cell BK658.out 1).trans rfl; have hfz63_0 := blk_frozen BK658.out 0; have hfz63_1 := blk_frozen BK658.out 1) | ((with_reducible refine gC (f := 63) rfl ?_); refine goesY_ (some 11) Try.func63 #[.agg #[.int .u64 a0_0, .int .u64 a0_1]] ?_; (with_reducible refine (twin_Norm.calls k a0_0 a0_1 t660 t661 t662 _ A3.out).mono ?_); rintro e w64 ⟨rfl, hb⟩; refine ⟨_, rfl, ?_⟩; have n0_ := Aside0.mk (bB3 BK658.out hb); have n1_ := Aside0.mk (bS3 HB.out hb); clear BK658; clear HB; have BK658 := n0_; have HB := n1_; clear n0_ n1_; (try clear hb); (try clear hb2); (try clear hk); (try clear hi)) | ((with_reducible refine gD (N := 4) rfl ?_); refine bE3 4 #[.int .u64 0, .int .u64 0] 25 ?hr ?_; (case hr => first | (go_simp; done) | (go_simp; rfl)); intro gb663 hg w65 hbox hb; have n0_ := Aside0.mk (bB3 BK658.out hb); have n1_ := Aside0.mk (bS3 HB.out hb); have n2_ := Aside0.mk (hbox); have n3_ := Aside0.mk ((bZ3 hg HB.out)); have n4_ := Aside0.mk ((bZ3 hg HB.out)); have n5_ := Aside0.mk ((bL3 hg BK658.out)); have n6_ := Aside0.mk ((bG3 hg BK658.out)); clear BK658; clear HB; have BK658 := n0_; have HB := n1_; have BK663 := n2_; have GW663 := n3_; have GE663 := n4_; have NB658_663 := n5_; have NB663_658 := n6_; clear n0_ n1_ n2_ n3_ n4_ n5_ n6_; clear hb hbox hg; have hnb66 := NB663_658.out; have hnc66 := NB658_663.out; have hcz67_0 : w65.cell? ⟨gb663, 0, none⟩ = some (.int .u64 0) := (blk_cell BK663.out 0).trans rfl; have hcz67_1 : w65.cell? ⟨gb663, 1, none⟩ = some (.int .u64 0) := (blk_cell BK663.out 1).trans rfl; have hfz67_0 := blk_frozen BK663.out 0; have hfz67_1 := blk_frozen BK663.out 1; have hcz68_0 : w65.cell? ⟨gb658, 0, none⟩ = some (.int .u64 a0_0) := (blk_cell BK658.out 0).trans rfl; have hcz68_1 : w65.cell? ⟨gb658, 1, none⟩ = some (.int .u64 a0_1) := (blk_cell BK658.out 1).trans rfl; have hfz68_0 := blk_frozen BK658.out 0; have hfz68_1 := blk_frozen BK658.out 1) | ((with_reducible refine gC (f := 64) rfl ?_); refine goesY_ (some 16) Try.func64 #[.agg #[.int .u64 a0_0, .int .u64 a0_1]] ?_; (with_reducible refine (vernierref02_Norm.calls k a0_0 a0_1 t664 t665 t666 _ A4.out).mono ?_); rintro e w69 ⟨rfl, hb⟩; refine ⟨_, rfl, ?_⟩; have n0_ := Aside0.mk (bB (g := gb658) (o := .cells #[.int .u64 a0_0, .int .u64 a0_1] 25 (0, 0)) (by (with_reducible repeat (first | refine bN ?_ _ | refine bD ?_ | refine bA ?_ _)); refine blk_far ?_ NB658_663.out _; (with_reducible repeat (first | refine bN ?_ _ | refine bD ?_ | refine bA ?_ _)); refine blk_far ?_ NB658_663.out _; (with_reducible repeat (first | refine bN ?_ _ | refine bD ?_ | refine bA ?_ _)); exact BK658.out) hb); have n1_ := Aside0.mk (bB (g := gb663) (o := .cells #[.int .u64 t660, .int .u64 t661] 25 (0, 0)) (by (with_reducible repeat (first | refine bN ?_ _ | refine bD ?_ | refine bA ?_ _)); refine blk_put (cs := #[.int .u64 t660, .int .u64 0]) ?_ 1 _ rfl; (with_reducible repeat (first | refine bN ?_ _ | refine bD ?_ | refine bA ?_ _)); refine blk_put (cs := #[.int .u64 0, .int .u64 0]) ?_ 0 _ rfl; (with_reducible repeat (first | refine bN ?_ _ | refine bD ?_ | refine bA ?_ _)); exact BK663.out) hb); have n2_ := Aside0.mk (bS3 HB.out hb); clear BK658; clear BK663; clear HB; have BK658 := n0_; have BK663 := n1_; have HB := n2_; clear n0_ n1_ n2_; (try clear hb); (try clear hb2); (try clear hk); (try clear hi)) | ((with_reducible refine gD (N := 6) rfl ?_); refine bE3 6 #[.int .u64 0, .int .u64 0] 25 ?hr ?_; (case hr => first | (go_simp; done) | (go_simp; rfl)); intro gb667 hg w70 hbox hb; have n0_ := Aside0.mk (bB3 BK658.out hb); have n1_ := Aside0.mk (bB3 BK663.out hb); have n2_ := Aside0.mk (bS3 HB.out hb); have n3_ := Aside0.mk (hbox); have n4_ := Aside0.mk ((bZ3 hg HB.out)); have n5_ := Aside0.mk ((bZ3 hg HB.out)); have n6_ := Aside0.mk ((bL3 hg BK658.out)); have n7_ := Aside0.mk ((bG3 hg BK658.out)); have n8_ := Aside0.mk ((bL3 hg BK663.out)); have n9_ := Aside0.mk ((bG3 hg BK663.out)); clear BK658; clear BK663; clear HB; have BK658 := n0_; have BK663 := n1_; have HB := n2_; have BK667 := n3_; have GW667 := n4_; have GE667 := n5_; have NB658_667 := n6_; have NB667_658 := n7_; have NB663_667 := n8_; have NB667_663 := n9_; clear n0_ n1_ n2_ n3_ n4_ n5_ n6_ n7_ n8_ n9_; clear hb hbox hg; have hnb71 := NB667_658.out; have hnc71 := NB658_667.out; have hnb72 := NB667_663.out; have hnc72 := NB663_667.out; have hcz73_0 : w70.cell? ⟨gb667, 0, none⟩ = some (.int .u64 0) := (blk_cell BK667.out 0).trans rfl; have hcz73_1 : w70.cell? ⟨gb667, 1, none⟩ = some (.int .u64 0) := (blk_cell BK667.out 1).trans rfl; have hfz73_0 := blk_frozen BK667.out 0; have hfz73_1 := blk_frozen BK667.out 1))
    have n0_ : Aside0 (((w70.setCell ⟨gb667, 0, none⟩ (.int .u64 t664)).setCell ⟨gb667, 1, none⟩ (.int .u64 t665)).heap[gb658]? = some (.cells #[.int .u64 a0_0, .int .u64 a0_1] 25 (0, 0))) := ⟨by (with_reducible repeat (first | refine bN ?_ _ | refine bD ?_ | refine bA ?_ _)); refine blk_far ?_ NB658_667.out _; (with_reducible repeat (first | refine bN ?_ _ | refine bD ?_ | refine bA ?_ _)); refine blk_far ?_ NB658_667.out _; (with_reducible repeat (first | refine bN ?_ _ | refine bD ?_ | refine bA ?_ _)); exact BK658.out⟩
    have n1_ : Aside0 (((w70.setCell ⟨gb667, 0, none⟩ (.int .u64 t664)).setCell ⟨gb667, 1, none⟩ (.int .u64 t665)).heap[gb663]? = some (.cells #[.int .u64 t660, .int .u64 t661] 25 (0, 0))) := ⟨by (with_reducible repeat (first | refine bN ?_ _ | refine bD ?_ | refine bA ?_ _)); refine blk_far ?_ NB663_667.out _; (with_reducible repeat (first | refine bN ?_ _ | refine bD ?_ | refine bA ?_ _)); refine blk_far ?_ NB663_667.out _; (with_reducible repeat (first | refine bN ?_ _ | refine bD ?_ | refine bA ?_ _)); exact BK663.out⟩
    have n2_ : Aside0 (((w70.setCell ⟨gb667, 0, none⟩ (.int .u64 t664)).setCell ⟨gb667, 1, none⟩ (.int .u64 t665)).heap[gb667]? = some (.cells #[.int .u64 t664, .int .u64 t665] 25 (0, 0))) := ⟨by (with_reducible repeat (first | refine bN ?_ _ | refine bD ?_ | refine bA ?_ _)); refine blk_put (cs := #[.int .u64 t664, .int .u64 0]) ?_ 1 _ rfl; (with_reducible repeat (first | refine bN ?_ _ | refine bD ?_ | refine bA ?_ _)); refine blk_put (cs := #[.int .u64 0, .int .u64 0]) ?_ 0 _ rfl; (with_reducible repeat (first | refine bN ?_ _ | refine bD ?_ | refine bA ?_ _)); exact BK667.out⟩
    have n3_ : Aside0 (Below w.heap.size w ((w70.setCell ⟨gb667, 0, none⟩ (.int .u64 t664)).setCell ⟨gb667, 1, none⟩ (.int .u64 t665))) := ⟨by repeat (first | (with_reducible first | exact HB.out | apply pA | apply pN | apply p1 | refine pS ?_ GE658.out | refine pS ?_ GE663.out | refine pS ?_ GE667.out) | exact HB.out)⟩
    (try clear BK658)
    (try clear BK663)
    (try clear BK667)
    (try clear HB)
    generalize ((w70.setCell ⟨gb667, 0, none⟩ (.int .u64 t664)).setCell ⟨gb667, 1, none⟩ (.int .u64 t665)) = w74 at n0_ n1_ n2_ n3_ ⊢
    have BK658 := n0_
    have BK663 := n1_
    have BK667 := n2_
    have HB := n3_
    clear n0_ n1_ n2_ n3_
    have n0_ := Aside0.mk (bD BK658.out)
    have n1_ := Aside0.mk (bD BK663.out)
    have n2_ := Aside0.mk (bD BK667.out)
    have n3_ := Aside0.mk (p1 HB.out)
    clear BK658
    clear BK663
    clear BK667
    clear HB
    have BK658 := n0_
    have BK663 := n1_
    have BK667 := n2_
    have HB := n3_
    clear n0_ n1_ n2_ n3_
    refine start_ (n := 19) (S := fun w' => True) (ds := []) #[false, false, false, false, false, false, false, false, false, false, false, false, false, false, false, false, false, false, false] (by kernel_rfl) rfl rfl trivial (fun hHeld => ?_); refine with_tabW vernierlaw02_TwinLens.tab4 vernierlaw02_TwinLens.bits4 (fun HT_ HW_ => ?_)
    generalize w74.drew = w75 at BK658 BK663 BK667 HB hHeld ⊢
    refine pure_ (i := 0) (N := some 19) (v := ?_) (a' := ?_) #[true, false, false, false, false, false, false, false, false, false, false, false, false, false, false, false, false, false, false] rfl rfl (any_of HT_.out (by kernel_rfl)) (fun _ _ _ h => h) (Or.inl ⟨by rfl, ?_⟩) ?_ ?_
    rotate_left
    · intro w'
      go_simp
      with_reducible rfl
    rotate_left
    · simp only [Act.put, List.setIfInBounds_toArray, List.set_cons_zero, List.set_cons_succ, i64_w, i32_w]
      rfl
    refine pure_ (i := 1) (N := some 20) (v := ?_) (a' := ?_) #[true, true, false, false, false, false, false, false, false, false, false, false, false, false, false, false, false, false, false] rfl rfl (any_of HT_.out (by kernel_rfl)) (fun _ _ _ h => h) (Or.inl ⟨by rfl, ?_⟩) ?_ ?_
    rotate_left
    · intro w'
      go_simp
      with_reducible rfl
    rotate_left
    · simp only [Act.put, List.setIfInBounds_toArray, List.set_cons_zero, List.set_cons_succ, i64_w, i32_w]
      rfl
    refine pure_ (i := 2) (N := some 21) (v := undef) (a' := ?_) #[true, true, true, false, false, false, false, false, false, false, false, false, false, false, false, false, false, false, false] rfl rfl (any_of HT_.out (by kernel_rfl)) (fun _ _ _ h => h) (Or.inr ⟨by rfl, rfl⟩) ?_ ?_
    rotate_left
    · simp only [Act.put, List.setIfInBounds_toArray, List.set_cons_zero, List.set_cons_succ, i64_w, i32_w]
      rfl
    refine pure_ (i := 3) (N := some 22) (v := undef) (a' := ?_) #[true, true, true, true, false, false, false, false, false, false, false, false, false, false, false, false, false, false, false] rfl rfl (any_of HT_.out (by kernel_rfl)) (fun _ _ _ h => h) (Or.inr ⟨by rfl, rfl⟩) ?_ ?_
    rotate_left
    · simp only [Act.put, List.setIfInBounds_toArray, List.set_cons_zero, List.set_cons_succ, i64_w, i32_w]
      rfl
    refine pure_ (i := 4) (N := some 23) (v := undef) (a' := ?_) #[true, true, true, true, true, false, false, false, false, false, false, false, false, false, false, false, false, false, false] rfl rfl (any_of HT_.out (by kernel_rfl)) (fun _ _ _ h => h) (Or.inr ⟨by rfl, rfl⟩) ?_ ?_
    rotate_left
    · simp only [Act.put, List.setIfInBounds_toArray, List.set_cons_zero, List.set_cons_succ, i64_w, i32_w]
      rfl
    refine pure_ (i := 5) (N := some 24) (v := undef) (a' := ?_) #[true, true, true, true, true, true, false, false, false, false, false, false, false, false, false, false, false, false, false] rfl rfl (any_of HT_.out (by kernel_rfl)) (fun _ _ _ h => h) (Or.inr ⟨by rfl, rfl⟩) ?_ ?_
    rotate_left
    · simp only [Act.put, List.setIfInBounds_toArray, List.set_cons_zero, List.set_cons_succ, i64_w, i32_w]
      rfl
    refine pure_ (i := 6) (N := some 25) (v := undef) (a' := ?_) #[true, true, true, true, true, true, true, false, false, false, false, false, false, false, false, false, false, false, false] rfl rfl (any_of HT_.out (by kernel_rfl)) (fun _ _ _ h => h) (Or.inr ⟨by rfl, rfl⟩) ?_ ?_
    rotate_left
    · simp only [Act.put, List.setIfInBounds_toArray, List.set_cons_zero, List.set_cons_succ, i64_w, i32_w]
      rfl
    refine pure_ (i := 7) (N := some 26) (v := ?_) (a' := ?_) #[true, true, true, true, true, true, true, true, false, false, false, false, false, false, false, false, false, false, false] rfl rfl (any_of HT_.out (by kernel_rfl)) (fun _ _ _ h => h) (Or.inl ⟨by rfl, ?_⟩) ?_ ?_
    rotate_left
    · intro w'
      go_simp
      with_reducible rfl
    rotate_left
    · simp only [Act.put, List.setIfInBounds_toArray, List.set_cons_zero, List.set_cons_succ, i64_w, i32_w]
      rfl
    refine pure_ (i := 8) (N := some 27) (v := ?_) (a' := ?_) #[true, true, true, true, true, true, true, true, true, false, false, false, false, false, false, false, false, false, false] rfl rfl (any_of HT_.out (by kernel_rfl)) (fun _ _ _ h => h) (Or.inl ⟨by rfl, ?_⟩) ?_ ?_
    rotate_left
    · intro w'
      go_simp
      with_reducible rfl
    rotate_left
    · simp only [Act.put, List.setIfInBounds_toArray, List.set_cons_zero, List.set_cons_succ, i64_w, i32_w]
      rfl
    refine pure_ (i := 9) (N := some 28) (v := undef) (a' := ?_) #[true, true, true, true, true, true, true, true, true, true, false, false, false, false, false, false, false, false, false] rfl rfl (any_of HT_.out (by kernel_rfl)) (fun _ _ _ h => h) (Or.inr ⟨by rfl, rfl⟩) ?_ ?_
    rotate_left
    · simp only [Act.put, List.setIfInBounds_toArray, List.set_cons_zero, List.set_cons_succ, i64_w, i32_w]
      rfl
    refine pure_ (i := 10) (N := some 29) (v := undef) (a' := ?_) #[true, true, true, true, true, true, true, true, true, true, true, false, false, false, false, false, false, false, false] rfl rfl (any_of HT_.out (by kernel_rfl)) (fun _ _ _ h => h) (Or.inr ⟨by rfl, rfl⟩) ?_ ?_
    rotate_left
    · simp only [Act.put, List.setIfInBounds_toArray, List.set_cons_zero, List.set_cons_succ, i64_w, i32_w]
      rfl
    refine pure_ (i := 11) (N := some 30) (v := undef) (a' := ?_) #[true, true, true, true, true, true, true, true, true, true, true, true, false, false, false, false, false, false, false] rfl rfl (any_of HT_.out (by kernel_rfl)) (fun _ _ _ h => h) (Or.inr ⟨by rfl, rfl⟩) ?_ ?_
    rotate_left
    · simp only [Act.put, List.setIfInBounds_toArray, List.set_cons_zero, List.set_cons_succ, i64_w, i32_w]
      rfl
    refine pure_ (i := 12) (N := some 31) (v := ?_) (a' := ?_) #[true, true, true, true, true, true, true, true, true, true, true, true, true, false, false, false, false, false, false] rfl rfl (any_of HT_.out (by kernel_rfl)) (fun _ _ _ h => h) (Or.inl ⟨by rfl, ?_⟩) ?_ ?_
    rotate_left
    · intro w'
      go_simp
      with_reducible rfl
    rotate_left
    · simp only [Act.put, List.setIfInBounds_toArray, List.set_cons_zero, List.set_cons_succ, i64_w, i32_w]
      rfl
    refine pure_ (i := 13) (N := some 32) (v := ?_) (a' := ?_) #[true, true, true, true, true, true, true, true, true, true, true, true, true, true, false, false, false, false, false] rfl rfl (any_of HT_.out (by kernel_rfl)) (fun _ _ _ h => h) (Or.inl ⟨by rfl, ?_⟩) ?_ ?_
    rotate_left
    · intro w'
      go_simp
      with_reducible rfl
    rotate_left
    · simp only [Act.put, List.setIfInBounds_toArray, List.set_cons_zero, List.set_cons_succ, i64_w, i32_w]
      rfl
    refine pure_ (i := 14) (N := some 33) (v := undef) (a' := ?_) #[true, true, true, true, true, true, true, true, true, true, true, true, true, true, true, false, false, false, false] rfl rfl (any_of HT_.out (by kernel_rfl)) (fun _ _ _ h => h) (Or.inr ⟨by rfl, rfl⟩) ?_ ?_
    rotate_left
    · simp only [Act.put, List.setIfInBounds_toArray, List.set_cons_zero, List.set_cons_succ, i64_w, i32_w]
      rfl
    refine pure_ (i := 15) (N := some 34) (v := undef) (a' := ?_) #[true, true, true, true, true, true, true, true, true, true, true, true, true, true, true, true, false, false, false] rfl rfl (any_of HT_.out (by kernel_rfl)) (fun _ _ _ h => h) (Or.inr ⟨by rfl, rfl⟩) ?_ ?_
    rotate_left
    · simp only [Act.put, List.setIfInBounds_toArray, List.set_cons_zero, List.set_cons_succ, i64_w, i32_w]
      rfl
    refine pure_ (i := 16) (N := some 35) (v := undef) (a' := ?_) #[true, true, true, true, true, true, true, true, true, true, true, true, true, true, true, true, true, false, false] rfl rfl (any_of HT_.out (by kernel_rfl)) (fun _ _ _ h => h) (Or.inr ⟨by rfl, rfl⟩) ?_ ?_
    rotate_left
    · simp only [Act.put, List.setIfInBounds_toArray, List.set_cons_zero, List.set_cons_succ, i64_w, i32_w]
      rfl
    refine pure_ (i := 17) (N := some 36) (v := ?_) (a' := ?_) #[true, true, true, true, true, true, true, true, true, true, true, true, true, true, true, true, true, true, false] rfl rfl (any_of HT_.out (by kernel_rfl)) (fun _ _ _ h => h) (Or.inl ⟨by rfl, ?_⟩) ?_ ?_
    rotate_left
    · intro w'
      go_simp
      with_reducible rfl
    rotate_left
    · simp only [Act.put, List.setIfInBounds_toArray, List.set_cons_zero, List.set_cons_succ, i64_w, i32_w]
      rfl
    refine pure_ (i := 18) (N := some 2) (v := ?_) (a' := ?_) #[true, true, true, true, true, true, true, true, true, true, true, true, true, true, true, true, true, true, true] rfl rfl (any_of HT_.out (by kernel_rfl)) (fun _ _ _ h => h) (Or.inl ⟨by rfl, ?_⟩) ?_ ?_
    rotate_left
    · intro w'
      go_simp
      with_reducible rfl
    rotate_left
    · simp only [Act.put, List.setIfInBounds_toArray, List.set_cons_zero, List.set_cons_succ, i64_w, i32_w]
      rfl
    refine done_ (done_of HT_.out (by kernel_rfl)) ?_
    try go_wp2
    go_ret
    exact ⟨by first | rfl | (simp [errW_none, errW_some] <;> rfl) | (simp [*, errW_none, errW_some] <;> rfl), by repeat (first | (with_reducible first | exact HB.out | apply pA | apply pN | apply p1 | refine pS ?_ GE658.out | refine pS ?_ GE663.out | refine pS ?_ GE667.out) | exact HB.out)⟩

/-- THE ONE PURE STATEMENT of vernierlaw02_TwinLens: yours. -/
def vernierlaw02_TwinLens.Pure : Prop := ∀ (a0_0 : Int) (a0_1 : Int), (Lit.int .u64 a0_0).wf = true → (Lit.int .u64 a0_1).wf = true → ∃ k, vernierlaw02_TwinLens.f k a0_0 a0_1 = some true
theorem vernierlaw02_TwinLens.walk (P : vernierlaw02_TwinLens.Pure) (a0_0 : Int) (a0_1 : Int) (w : World) (w0_0 : (Lit.int .u64 a0_0).wf = true) (w0_1 : (Lit.int .u64 a0_1).wf = true) :
    Calls Try.prog 20 #[.agg #[.int .u64 a0_0, .int .u64 a0_1]] w fun e w' => e = .returned (.bool true) ∧ Below w.heap.size w w' := by
  obtain ⟨k, h⟩ := P a0_0 a0_1 w0_0 w0_1
  refine (vernierlaw02_TwinLens.calls k a0_0 a0_1 true w h).mono ?_
  rintro e w' ⟨rfl, hd⟩
  exact ⟨rfl, hd⟩

end Go.Proofs.Ytjbcfiigafbobaa.F
