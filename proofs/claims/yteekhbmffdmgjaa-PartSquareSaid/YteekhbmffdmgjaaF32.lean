/- Functions of the given program as plain Lean functions, and for each a proof that the program's call comes to just these answers; no further conditions. (Written by a program of this repo out of the translation.) -/
import Derived.Test.YteekhbmffdmgjaaF0
import Derived.Test.YteekhbmffdmgjaaF3
import Derived.Test.YteekhbmffdmgjaaF22
import Derived.Test.YteekhbmffdmgjaaF23
import Derived.Test.YteekhbmffdmgjaaF24
namespace Go.Proofs.Yteekhbmffdmgjaa.F
open Go.RowKit Go.Proofs.YteekhbmffdmgjaaW.PrintWords Go.Proofs.YteekhbmffdmgjaaW.PrintLast Go.Proofs.YteekhbmffdmgjaaW.PrintMore
attribute [local go_sem high] xor_u64 xor_u32 eqErr25 neErr25 eqErrL25 neErrL25
attribute [local go_sem] max2_int min2_int max_two min_two max_three min_three max_four min_four   -- for this text's walks alone
set_option linter.unusedVariables false
set_option linter.unusedSimpArgs false

attribute [local go_sem high] eqA55
/-! ### vernierlaw03_PartSquare: function 14 -/
def vernierlaw03_PartSquare.f (k : Nat) (a0_0 : Int) (a0_1 : Int) (a1 : Int) : Option (Bool) := (vernierlaw03_up.f k).bind fun t741 => ((part_Root.f k a0_0 a0_1).bind fun bt742 => ((twin_Mul.f bt742.1 bt742.1).bind fun bt746 => ((twin_Add.f bt746.1 bt746.2 bt742.2.1 bt742.2.2).bind fun bt748 => ((twin_Shl.f k 0 bt742.1 1).bind fun bt752 => ((twin_Mul.f a1 a1).bind fun bt757 => ((part_Root.f k bt757.1 bt757.2).bind fun bt759 => (if t741 = true then (if bt748.2.2 = true then (some false) else (if (bt748.1 == a0_0 && (bt748.2.1 == a0_1)) = true then (if bt752.2.2.2.isNone = true then ((twin_Cmp.f bt742.2.1 bt742.2.2 bt752.1 bt752.2.1).bind fun t764 => (if t764 ≤ 0 then (if bt759.1 = a1 then (some (bt759.2.1 == 0 && (bt759.2.2 == 0))) else (some false)) else (some false))) else (some false)) else (some false))) else (some false))))))))
theorem vernierlaw03_PartSquare.mono : ∀ a0 a1 a2 k, LeO (vernierlaw03_PartSquare.f k a0 a1 a2) (vernierlaw03_PartSquare.f (k + 1) a0 a1 a2) := by
  intro a0 a1 a2 k
  unfold vernierlaw03_PartSquare.f
  repeat' first
      | (with_reducible exact part_Root.mono _ _ _)
      | (with_reducible exact twin_Shl.mono _ _ _ _)
      | (with_reducible exact vernierlaw03_up.mono _)
      | (with_reducible exact LeO.refl _)
      | (with_reducible exact LeO.none _)
      | (with_reducible refine LeO.ite ?_ ?_)
      | (with_reducible refine LeO.bind ?_ (fun _ => ?_))
      | exact part_Root.mono _ _ _
      | exact twin_Shl.mono _ _ _ _
      | exact vernierlaw03_up.mono _
      | exact LeO.none _
      | refine LeO.ite ?_ ?_
      | refine LeO.bind ?_ (fun _ => ?_)
def vernierlaw03_PartSquare.T3 : Bool × List (List Nat × List Nat) := (true, [([], []), ([], []), ([0, 1], [0, 1]), ([], []), ([2, 3, 2], [2, 3]), ([4], [4]), ([5], [5]), ([5], [5]), ([], []), ([8, 6, 4, 0, 1, 2, 3, 4, 5, 6, 8], [6, 8]), ([7, 9, 0, 1, 2, 3, 4, 5, 6, 7, 8, 9], [7])])
def vernierlaw03_PartSquare.B3 : List Nat := [0, 0, 3, 0, 15, 31, 63, 63, 0, 383, 1023]
theorem vernierlaw03_PartSquare.tab3 : rtab .any (opsOf Try.f14 3) = vernierlaw03_PartSquare.T3 := by kernel_rfl
theorem vernierlaw03_PartSquare.bits3 : waitsOk vernierlaw03_PartSquare.T3.2 vernierlaw03_PartSquare.B3 = true := by kernel_rfl
set_option maxHeartbeats 8000000 in
set_option maxRecDepth 100000 in
theorem vernierlaw03_PartSquare.calls (k : Nat) (a0_0 : Int) (a0_1 : Int) (a1 : Int) (r : Bool) (w : World) (h : vernierlaw03_PartSquare.f k a0_0 a0_1 a1 = some r) :
    Calls Try.prog 14 #[.agg #[.int .u64 a0_0, .int .u64 a0_1], .int .u64 a1] w fun e w' => e = .returned (.bool r) ∧ Below w.heap.size w w' := by
  have hu55 := Try.underlying55
  have hu25 := Try.underlying25
  have hu33 := Try.underlying33
  have HB := aM (Below.refl w.heap.size w)
  have H : ((vernierlaw03_up.f k).bind fun t741 => ((part_Root.f k a0_0 a0_1).bind fun bt742 => ((twin_Mul.f bt742.1 bt742.1).bind fun bt746 => ((twin_Add.f bt746.1 bt746.2 bt742.2.1 bt742.2.2).bind fun bt748 => ((twin_Shl.f k 0 bt742.1 1).bind fun bt752 => ((twin_Mul.f a1 a1).bind fun bt757 => ((part_Root.f k bt757.1 bt757.2).bind fun bt759 => (if t741 = true then (if bt748.2.2 = true then (some false) else (if (bt748.1 == a0_0 && (bt748.2.1 == a0_1)) = true then (if bt752.2.2.2.isNone = true then ((twin_Cmp.f bt742.2.1 bt742.2.2 bt752.1 bt752.2.1).bind fun t764 => (if t764 ≤ 0 then (if bt759.1 = a1 then (some (bt759.2.1 == 0 && (bt759.2.2 == 0))) else (some false)) else (some false))) else (some false)) else (some false))) else (some false))))))))) = some r := h
  clear h
  replace H := Option.bind_eq_some_iff.mp H
  obtain ⟨t741, A30, H⟩ := H
  replace H : ((part_Root.f k a0_0 a0_1).bind fun bt742 => ((twin_Mul.f bt742.1 bt742.1).bind fun bt746 => ((twin_Add.f bt746.1 bt746.2 bt742.2.1 bt742.2.2).bind fun bt748 => ((twin_Shl.f k 0 bt742.1 1).bind fun bt752 => ((twin_Mul.f a1 a1).bind fun bt757 => ((part_Root.f k bt757.1 bt757.2).bind fun bt759 => (if t741 = true then (if bt748.2.2 = true then (some false) else (if (bt748.1 == a0_0 && (bt748.2.1 == a0_1)) = true then (if bt752.2.2.2.isNone = true then ((twin_Cmp.f bt742.2.1 bt742.2.2 bt752.1 bt752.2.1).bind fun t764 => (if t764 ≤ 0 then (if bt759.1 = a1 then (some (bt759.2.1 == 0 && (bt759.2.2 == 0))) else (some false)) else (some false))) else (some false)) else (some false))) else (some false)))))))) = some r := H
  have A3 := aM A30
  clear A30
  replace H := Option.bind_eq_some_iff.mp H
  obtain ⟨⟨t742, t743, t744⟩, A40, H⟩ := H
  replace H : ((twin_Mul.f t742 t742).bind fun bt746 => ((twin_Add.f bt746.1 bt746.2 t743 t744).bind fun bt748 => ((twin_Shl.f k 0 t742 1).bind fun bt752 => ((twin_Mul.f a1 a1).bind fun bt757 => ((part_Root.f k bt757.1 bt757.2).bind fun bt759 => (if t741 = true then (if bt748.2.2 = true then (some false) else (if (bt748.1 == a0_0 && (bt748.2.1 == a0_1)) = true then (if bt752.2.2.2.isNone = true then ((twin_Cmp.f t743 t744 bt752.1 bt752.2.1).bind fun t764 => (if t764 ≤ 0 then (if bt759.1 = a1 then (some (bt759.2.1 == 0 && (bt759.2.2 == 0))) else (some false)) else (some false))) else (some false)) else (some false))) else (some false))))))) = some r := H
  have A4 := aM A40
  clear A40
  replace H := Option.bind_eq_some_iff.mp H
  obtain ⟨⟨t746, t747⟩, A50, H⟩ := H
  replace H : ((twin_Add.f t746 t747 t743 t744).bind fun bt748 => ((twin_Shl.f k 0 t742 1).bind fun bt752 => ((twin_Mul.f a1 a1).bind fun bt757 => ((part_Root.f k bt757.1 bt757.2).bind fun bt759 => (if t741 = true then (if bt748.2.2 = true then (some false) else (if (bt748.1 == a0_0 && (bt748.2.1 == a0_1)) = true then (if bt752.2.2.2.isNone = true then ((twin_Cmp.f t743 t744 bt752.1 bt752.2.1).bind fun t764 => (if t764 ≤ 0 then (if bt759.1 = a1 then (some (bt759.2.1 == 0 && (bt759.2.2 == 0))) else (some false)) else (some false))) else (some false)) else (some false))) else (some false)))))) = some r := H
  have A5 := aM A50
  clear A50
  replace H := Option.bind_eq_some_iff.mp H
  obtain ⟨⟨t748, t749, t750⟩, A60, H⟩ := H
  replace H : ((twin_Shl.f k 0 t742 1).bind fun bt752 => ((twin_Mul.f a1 a1).bind fun bt757 => ((part_Root.f k bt757.1 bt757.2).bind fun bt759 => (if t741 = true then (if t750 = true then (some false) else (if (t748 == a0_0 && (t749 == a0_1)) = true then (if bt752.2.2.2.isNone = true then ((twin_Cmp.f t743 t744 bt752.1 bt752.2.1).bind fun t764 => (if t764 ≤ 0 then (if bt759.1 = a1 then (some (bt759.2.1 == 0 && (bt759.2.2 == 0))) else (some false)) else (some false))) else (some false)) else (some false))) else (some false))))) = some r := H
  have A6 := aM A60
  clear A60
  replace H := Option.bind_eq_some_iff.mp H
  obtain ⟨⟨t752, t753, t754, t755⟩, A70, H⟩ := H
  replace H : ((twin_Mul.f a1 a1).bind fun bt757 => ((part_Root.f k bt757.1 bt757.2).bind fun bt759 => (if t741 = true then (if t750 = true then (some false) else (if (t748 == a0_0 && (t749 == a0_1)) = true then (if t755.isNone = true then ((twin_Cmp.f t743 t744 t752 t753).bind fun t764 => (if t764 ≤ 0 then (if bt759.1 = a1 then (some (bt759.2.1 == 0 && (bt759.2.2 == 0))) else (some false)) else (some false))) else (some false)) else (some false))) else (some false)))) = some r := H
  have A7 := aM A70
  clear A70
  replace H := Option.bind_eq_some_iff.mp H
  obtain ⟨⟨t757, t758⟩, A80, H⟩ := H
  replace H : ((part_Root.f k t757 t758).bind fun bt759 => (if t741 = true then (if t750 = true then (some false) else (if (t748 == a0_0 && (t749 == a0_1)) = true then (if t755.isNone = true then ((twin_Cmp.f t743 t744 t752 t753).bind fun t764 => (if t764 ≤ 0 then (if bt759.1 = a1 then (some (bt759.2.1 == 0 && (bt759.2.2 == 0))) else (some false)) else (some false))) else (some false)) else (some false))) else (some false))) = some r := H
  have A8 := aM A80
  clear A80
  replace H := Option.bind_eq_some_iff.mp H
  obtain ⟨⟨t759, t760, t761⟩, A90, H⟩ := H
  replace H : (if t741 = true then (if t750 = true then (some false) else (if (t748 == a0_0 && (t749 == a0_1)) = true then (if t755.isNone = true then ((twin_Cmp.f t743 t744 t752 t753).bind fun t764 => (if t764 ≤ 0 then (if t759 = a1 then (some (t760 == 0 && (t761 == 0))) else (some false)) else (some false))) else (some false)) else (some false))) else (some false)) = some r := H
  have A9 := aM A90
  clear A90
  by_cases c10 : t741 = true
  · subst c10
    have H1 : (if t750 = true then (some false) else (if (t748 == a0_0 && (t749 == a0_1)) = true then (if t755.isNone = true then ((twin_Cmp.f t743 t744 t752 t753).bind fun t764 => (if t764 ≤ 0 then (if t759 = a1 then (some (t760 == 0 && (t761 == 0))) else (some false)) else (some false))) else (some false)) else (some false))) = some r := by rw [if_pos rfl] at H; exact H
    clear H
    have H := H1
    clear H1
    by_cases c11 : t750 = true
    · subst c11
      have H1 : (some false) = some r := by rw [if_pos rfl] at H; exact H
      clear H
      have H := H1
      clear H1
      obtain rfl := Option.some.inj H
      go_enter Try.func14, Try.ntmps14
      try go_wp2_with (first | ((with_reducible refine gD (N := 2) rfl ?_); refine bE3 2 #[.int .u64 a0_0, .int .u64 a0_1] 55 ?hr ?_; (case hr => first | (go_simp; done) | (go_simp; rfl)); intro gb740 hg w12 hbox hb; have n0_ := aM (bS3 HB.out hb); have n1_ := aM (hbox); have n2_ := aM ((bZ3 hg HB.out)); have n3_ := aM ((bZ3 hg HB.out)); clear HB; have HB := n0_; have BK740 := n1_; have GW740 := n2_; have GE740 := n3_; clear n0_ n1_ n2_ n3_; clear hb hbox hg) | ((with_reducible refine gC (f := 43) rfl ?_); refine gY (some 15) Try.func43 #[] ?_; (with_reducible refine (vernierlaw03_up.calls k  true _ A3.out).mono ?_); rintro e w13 ⟨rfl, hb⟩; refine ⟨_, rfl, ?_⟩; have n0_ := aM (bB3 BK740.out hb); have n1_ := aM (bS3 HB.out hb); clear BK740; clear HB; have BK740 := n0_; have HB := n1_; clear n0_ n1_; (try clear hb); have hcz14_0 : w13.cell? ⟨gb740, 0, none⟩ = some (.int .u64 a0_0) := (bC BK740.out 0).trans rfl; have hcz14_1 : w13.cell? ⟨gb740, 1, none⟩ = some (.int .u64 a0_1) := (bC BK740.out 1).trans rfl; have hfz14_0 := bF BK740.out 0; have hfz14_1 := bF BK740.out 1) | ((with_reducible refine gC (f := 46) rfl ?_); refine gY (some 18) Try.func46 #[.agg #[.int .u64 a0_0, .int .u64 a0_1]] ?_; (with_reducible refine (part_Root.calls k a0_0 a0_1 t742 t743 t744 _ A4.out).mono ?_); rintro e w15 ⟨rfl, hb⟩; refine ⟨_, rfl, ?_⟩; have n0_ := aM (bB3 BK740.out hb); have n1_ := aM (bS3 HB.out hb); clear BK740; clear HB; have BK740 := n0_; have HB := n1_; clear n0_ n1_; (try clear hb)) | ((with_reducible refine gD (N := 7) rfl ?_); refine bE3 7 #[.int .u64 0, .int .u64 0] 55 ?hr ?_; (case hr => first | (go_simp; done) | (go_simp; rfl)); intro gb745 hg w16 hbox hb; have n0_ := aM (bB3 BK740.out hb); have n1_ := aM (bS3 HB.out hb); have n2_ := aM (hbox); have n3_ := aM ((bZ3 hg HB.out)); have n4_ := aM ((bZ3 hg HB.out)); have n5_ := aM ((bL3 hg BK740.out)); have n6_ := aM ((bG3 hg BK740.out)); clear BK740; clear HB; have BK740 := n0_; have HB := n1_; have BK745 := n2_; have GW745 := n3_; have GE745 := n4_; have NB740_745 := n5_; have NB745_740 := n6_; clear n0_ n1_ n2_ n3_ n4_ n5_ n6_; clear hb hbox hg; have hnb17 := NB745_740.out; have hnc17 := NB740_745.out; have hcz18_0 : w16.cell? ⟨gb745, 0, none⟩ = some (.int .u64 0) := (bC BK745.out 0).trans rfl; have hcz18_1 : w16.cell? ⟨gb745, 1, none⟩ = some (.int .u64 0) := (bC BK745.out 1).trans rfl; have hfz18_0 := bF BK745.out 0; have hfz18_1 := bF BK745.out 1))
      have n0_ : Aside0 (((w16.setCell ⟨gb745, 0, none⟩ (.int .u64 t743)).setCell ⟨gb745, 1, none⟩ (.int .u64 t744)).heap[gb740]? = some (.cells #[.int .u64 a0_0, .int .u64 a0_1] 55 (0, 0))) := ⟨by (with_reducible repeat (first | refine bN ?_ _ | refine bD ?_ | refine bA ?_ _)); refine blk_far ?_ NB740_745.out _; (with_reducible repeat (first | refine bN ?_ _ | refine bD ?_ | refine bA ?_ _)); refine blk_far ?_ NB740_745.out _; (with_reducible repeat (first | refine bN ?_ _ | refine bD ?_ | refine bA ?_ _)); exact BK740.out⟩
      have n1_ : Aside0 (((w16.setCell ⟨gb745, 0, none⟩ (.int .u64 t743)).setCell ⟨gb745, 1, none⟩ (.int .u64 t744)).heap[gb745]? = some (.cells #[.int .u64 t743, .int .u64 t744] 55 (0, 0))) := ⟨by (with_reducible repeat (first | refine bN ?_ _ | refine bD ?_ | refine bA ?_ _)); refine blk_put (cs := #[.int .u64 t743, .int .u64 0]) ?_ 1 _ rfl; (with_reducible repeat (first | refine bN ?_ _ | refine bD ?_ | refine bA ?_ _)); refine blk_put (cs := #[.int .u64 0, .int .u64 0]) ?_ 0 _ rfl; (with_reducible repeat (first | refine bN ?_ _ | refine bD ?_ | refine bA ?_ _)); exact BK745.out⟩
      have n2_ : Aside0 (Below w.heap.size w ((w16.setCell ⟨gb745, 0, none⟩ (.int .u64 t743)).setCell ⟨gb745, 1, none⟩ (.int .u64 t744))) := ⟨by repeat (first | (with_reducible first | exact HB.out | apply pA | apply pN | apply p1 | refine pS ?_ GE740.out | refine pS ?_ GE745.out) | exact HB.out)⟩
      (try clear BK740)
      (try clear BK745)
      (try clear HB)
      generalize ((w16.setCell ⟨gb745, 0, none⟩ (.int .u64 t743)).setCell ⟨gb745, 1, none⟩ (.int .u64 t744)) = w19 at n0_ n1_ n2_ ⊢
      have BK740 := n0_
      have BK745 := n1_
      have HB := n2_
      clear n0_ n1_ n2_
      have n0_ := aM (bD BK740.out)
      have n1_ := aM (bD BK745.out)
      have n2_ := aM (p1 HB.out)
      clear BK740
      clear BK745
      clear HB
      have BK740 := n0_
      have BK745 := n1_
      have HB := n2_
      clear n0_ n1_ n2_
      refine start_ (n := 11) (S := fun w' => w'.cell? ⟨gb745, 0, none⟩ = some (.int .u64 t743) ∧ w'.cell? ⟨gb745, 1, none⟩ = some (.int .u64 t744)) (ds := []) #[false, false, false, false, false, false, false, false, false, false, false] (by kernel_rfl) rfl rfl ⟨(bC BK745.out 0).trans rfl, (bC BK745.out 1).trans rfl⟩ (fun hHeld => ?_); refine with_tabW vernierlaw03_PartSquare.tab3 vernierlaw03_PartSquare.bits3 (fun HT_ HW_ => ?_)
      generalize w19.drew = w20 at BK740 BK745 HB hHeld ⊢
      refine pure_ (i := 0) (N := some 22) (v := ?_) (a' := ?_) #[true, false, false, false, false, false, false, false, false, false, false] rfl rfl (any_of HT_.out (by kernel_rfl)) (fun _ _ _ h => h) (Or.inl ⟨by rfl, ?_⟩) ?_ ?_
      rotate_left
      · intro w'
        go_simp
        with_reducible rfl
      rotate_left
      · simp only [Act.put, lS, lZ, lC, i64_w, i32_w]
        rfl
      refine pure_ (i := 1) (N := some 23) (v := ?_) (a' := ?_) #[true, true, false, false, false, false, false, false, false, false, false] rfl rfl (any_of HT_.out (by kernel_rfl)) (fun _ _ _ h => h) (Or.inl ⟨by rfl, ?_⟩) ?_ ?_
      rotate_left
      · intro w'
        go_simp
        with_reducible rfl
      rotate_left
      · simp only [Act.put, lS, lZ, lC, i64_w, i32_w]
        rfl
      refine take_ (i := 3) (N := some 25) (v := ?_) (a' := ?_) #[true, true, false, true, false, false, false, false, false, false, false] rfl rfl (take_ofW HT_.out HW_.out (by kernel_rfl)) (fun _ _ _ h => h) (Or.inl ⟨by rfl, ?_⟩) hHeld ?_ ?_
      rotate_left
      · rintro w' ⟨s0, s1⟩
        go_simp
        with_reducible rfl
      rotate_left
      · simp only [Act.put, lS, lZ, lC, i64_w, i32_w]
        rfl
      refine join_ (σ := Nat) 2 #[true, true, true, true, true, true, true, true, true, false, false] (fun s_ => [(24, .agg #[.int .u64 t746, .int .u64 t747]), (26, .tuple #[.agg #[.int .u64 t748, .int .u64 t749], .bool true]), (8, .pointer (some ⟨s_, 0, none⟩)), (21, .tuple #[.agg #[.int .u64 t748, .int .u64 t749], .bool true]), (27, .agg #[.int .u64 t748, .int .u64 t749]), (28, .bool true)]) (fun s_ w' => (w'.cell? ⟨gb745, 0, none⟩ = some (.int .u64 t743) ∧ w'.cell? ⟨gb745, 1, none⟩ = some (.int .u64 t744)) ∧ (w'.heap[gb740]? = some (.cells #[.int .u64 a0_0, .int .u64 a0_1] 55 (0, 0))) ∧ (w'.heap[gb745]? = some (.cells #[.int .u64 t743, .int .u64 t744] 55 (0, 0))) ∧ (w'.heap[s_]? = some (.cells #[.int .u64 0, .int .u64 0] 55 (0, 0))) ∧ (w.heap.size ≤ s_) ∧ (w.heap.size ≤ s_) ∧ (gb740 ≠ s_) ∧ (s_ ≠ gb740) ∧ (gb745 ≠ s_) ∧ (s_ ≠ gb745) ∧ (Below w.heap.size w w')) ?_ ?_
      rotate_left
      · intro hCont
        refine two_ (i := 2) (j := 8) (Ni := some 24) (Nj := some 8) #[true, true, true, true, false, false, false, false, false, false, false] #[true, true, false, true, false, false, false, false, true, false, false] rfl rfl rfl rfl (two_of HT_.out (by kernel_rfl)) (by decide) (by decide) (fun K hK => ?_) (fun K hK => ?_)
        · skip
          refine goes_ Try.func51 (by kernel_rfl) rfl #[.int .u64 t742, .int .u64 t742] (by rfl) rfl rfl (by (try simp only [List.map_toArray, List.map_cons, List.map_nil]); first | done | rfl | (simp only [List.length_drop, List.length_take]; rfl)) ?_
          with_reducible refine (twin_Mul.calls t742 t742 t746 t747 _ A5.out).mono ?_
          rintro e w21 ⟨rfl, hb⟩
          refine ⟨_, rfl, ?_⟩
          have n0_ := aM (bB3 BK740.out hb)
          have n1_ := aM (bB3 BK745.out hb)
          have n2_ := aM (bS3 HB.out hb)
          clear BK740
          clear BK745
          clear HB
          have BK740 := n0_
          have BK745 := n1_
          have HB := n2_
          clear n0_ n1_ n2_
          (try clear hb)
          (try clear hb2)
          (try clear hk)
          (try clear hi)
          refine hK.out _ _ ⟨(bC BK745.out 0).trans rfl, (bC BK745.out 1).trans rfl⟩ (fun hHeld => ?_)
          clear hK K
          refine norm_ (a' := ?_) ?_ ?_
          rotate_left
          · show Act.put _ (some 24) _ = _
            simp only [Act.put, lS, lZ, lC, i64_w, i32_w]
            rfl
          refine two_ (i := 4) (j := 8) (Ni := some 26) (Nj := some 8) #[true, true, true, true, true, false, false, false, false, false, false] #[true, true, true, true, false, false, false, false, true, false, false] rfl rfl rfl rfl (two_of HT_.out (by kernel_rfl)) (by decide) (by decide) (fun K hK => ?_) (fun K hK => ?_)
          · skip
            refine goes_ Try.func50 (by kernel_rfl) rfl #[.agg #[.int .u64 t746, .int .u64 t747], .agg #[.int .u64 t743, .int .u64 t744]] (by rfl) rfl rfl (by (try simp only [List.map_toArray, List.map_cons, List.map_nil]); first | done | rfl | (simp only [List.length_drop, List.length_take]; rfl)) ?_
            with_reducible refine (twin_Add.calls t746 t747 t743 t744 t748 t749 true _ A6.out).mono ?_
            rintro e w22 ⟨rfl, hb⟩
            refine ⟨_, rfl, ?_⟩
            have n0_ := aM (bB3 BK740.out hb)
            have n1_ := aM (bB3 BK745.out hb)
            have n2_ := aM (bS3 HB.out hb)
            clear BK740
            clear BK745
            clear HB
            have BK740 := n0_
            have BK745 := n1_
            have HB := n2_
            clear n0_ n1_ n2_
            (try clear hb)
            (try clear hb2)
            (try clear hk)
            (try clear hi)
            refine hK.out _ _ ⟨(bC BK745.out 0).trans rfl, (bC BK745.out 1).trans rfl⟩ (fun hHeld => ?_)
            clear hK K
            refine norm_ (a' := ?_) ?_ ?_
            rotate_left
            · show Act.put _ (some 26) _ = _
              simp only [Act.put, lS, lZ, lC, i64_w, i32_w]
              rfl
            refine pure_ (i := 5) (N := some 21) (v := ?_) (a' := ?_) #[true, true, true, true, true, true, false, false, false, false, false] rfl rfl (any_of HT_.out (by kernel_rfl)) (fun _ _ _ h => h) (Or.inl ⟨by rfl, ?_⟩) ?_ ?_
            rotate_left
            · intro w'
              go_simp
              with_reducible rfl
            rotate_left
            · simp only [Act.put, lS, lZ, lC, i64_w, i32_w]
              rfl
            refine pure_ (i := 6) (N := some 27) (v := ?_) (a' := ?_) #[true, true, true, true, true, true, true, false, false, false, false] rfl rfl (any_of HT_.out (by kernel_rfl)) (fun _ _ _ h => h) (Or.inl ⟨by rfl, ?_⟩) ?_ ?_
            rotate_left
            · intro w'
              go_simp
              with_reducible rfl
            rotate_left
            · simp only [Act.put, lS, lZ, lC, i64_w, i32_w]
              rfl
            refine pure_ (i := 7) (N := some 28) (v := ?_) (a' := ?_) #[true, true, true, true, true, true, true, true, false, false, false] rfl rfl (any_of HT_.out (by kernel_rfl)) (fun _ _ _ h => h) (Or.inl ⟨by rfl, ?_⟩) ?_ ?_
            rotate_left
            · intro w'
              go_simp
              with_reducible rfl
            rotate_left
            · simp only [Act.put, lS, lZ, lC, i64_w, i32_w]
              rfl
            refine one_ (i := 8) (N := some 8) #[true, true, true, true, true, true, true, true, true, false, false] rfl rfl (one_of HT_.out (by kernel_rfl)) (by decide) (fun K hK => ?_)
            refine box_step ?hg (N := 8) ?hd (cs := #[.int .u64 0, .int .u64 0]) (t := 55) ?hr ?_; (case hd => rfl); (case hg => rfl); (case hr => first | (go_simp; done) | (go_simp; rfl))
            intro gb751 hg w23 hbox hb
            have n0_ := aM (bB3 BK740.out hb)
            have n1_ := aM (bB3 BK745.out hb)
            have n2_ := aM (bS3 HB.out hb)
            have n3_ := aM (hbox)
            have n4_ := aM ((bZ3 hg HB.out))
            have n5_ := aM ((bZ3 hg HB.out))
            have n6_ := aM ((bL3 hg BK740.out))
            have n7_ := aM ((bG3 hg BK740.out))
            have n8_ := aM ((bL3 hg BK745.out))
            have n9_ := aM ((bG3 hg BK745.out))
            clear BK740
            clear BK745
            clear HB
            have BK740 := n0_
            have BK745 := n1_
            have HB := n2_
            have BK751 := n3_
            have GW751 := n4_
            have GE751 := n5_
            have NB740_751 := n6_
            have NB751_740 := n7_
            have NB745_751 := n8_
            have NB751_745 := n9_
            clear n0_ n1_ n2_ n3_ n4_ n5_ n6_ n7_ n8_ n9_
            clear hb hbox hg
            refine hK.out _ _ ⟨(bC BK745.out 0).trans rfl, (bC BK745.out 1).trans rfl⟩ (fun hHeld => ?_)
            clear hK K
            refine norm_ (a' := ?_) ?_ ?_
            rotate_left
            · show Act.put _ (some 8) _ = _
              simp only [Act.put, lS, lZ, lC, i64_w, i32_w]
              rfl
            exact norm_ (by simp only [putAll, Act.put, lS, lZ, lC]) (hCont (gb751) _ ⟨hHeld, (by (with_reducible repeat (first | refine bN ?_ _ | refine bD ?_ | refine bA ?_ _)); exact BK740.out), (by (with_reducible repeat (first | refine bN ?_ _ | refine bD ?_ | refine bA ?_ _)); exact BK745.out), (by (with_reducible repeat (first | refine bN ?_ _ | refine bD ?_ | refine bA ?_ _)); exact BK751.out), GW751.out, GE751.out, NB740_751.out, NB751_740.out, NB745_751.out, NB751_745.out, (by repeat (first | (with_reducible first | exact HB.out | apply pA | apply pN | apply p1 | refine pS ?_ GE740.out | refine pS ?_ GE745.out | refine pS ?_ GE751.out) | exact HB.out))⟩)
          · skip
            refine box_step ?hg (N := 8) ?hd (cs := #[.int .u64 0, .int .u64 0]) (t := 55) ?hr ?_; (case hd => rfl); (case hg => rfl); (case hr => first | (go_simp; done) | (go_simp; rfl))
            intro gb751 hg w22 hbox hb
            have n0_ := aM (bB3 BK740.out hb)
            have n1_ := aM (bB3 BK745.out hb)
            have n2_ := aM (bS3 HB.out hb)
            have n3_ := aM (hbox)
            have n4_ := aM ((bZ3 hg HB.out))
            have n5_ := aM ((bZ3 hg HB.out))
            have n6_ := aM ((bL3 hg BK740.out))
            have n7_ := aM ((bG3 hg BK740.out))
            have n8_ := aM ((bL3 hg BK745.out))
            have n9_ := aM ((bG3 hg BK745.out))
            clear BK740
            clear BK745
            clear HB
            have BK740 := n0_
            have BK745 := n1_
            have HB := n2_
            have BK751 := n3_
            have GW751 := n4_
            have GE751 := n5_
            have NB740_751 := n6_
            have NB751_740 := n7_
            have NB745_751 := n8_
            have NB751_745 := n9_
            clear n0_ n1_ n2_ n3_ n4_ n5_ n6_ n7_ n8_ n9_
            clear hb hbox hg
            refine hK.out _ _ ⟨(bC BK745.out 0).trans rfl, (bC BK745.out 1).trans rfl⟩ (fun hHeld => ?_)
            clear hK K
            refine norm_ (a' := ?_) ?_ ?_
            rotate_left
            · show Act.put _ (some 8) _ = _
              simp only [Act.put, lS, lZ, lC, i64_w, i32_w]
              rfl
            refine one_ (i := 4) (N := some 26) #[true, true, true, true, true, false, false, false, true, false, false] rfl rfl (one_of HT_.out (by kernel_rfl)) (by decide) (fun K hK => ?_)
            refine goes_ Try.func50 (by kernel_rfl) rfl #[.agg #[.int .u64 t746, .int .u64 t747], .agg #[.int .u64 t743, .int .u64 t744]] (by rfl) rfl rfl (by (try simp only [List.map_toArray, List.map_cons, List.map_nil]); first | done | rfl | (simp only [List.length_drop, List.length_take]; rfl)) ?_
            with_reducible refine (twin_Add.calls t746 t747 t743 t744 t748 t749 true _ A6.out).mono ?_
            rintro e w23 ⟨rfl, hb⟩
            refine ⟨_, rfl, ?_⟩
            have n0_ := aM (bB3 BK740.out hb)
            have n1_ := aM (bB3 BK745.out hb)
            have n2_ := aM (bB3 BK751.out hb)
            have n3_ := aM (bS3 HB.out hb)
            clear BK740
            clear BK745
            clear BK751
            clear HB
            have BK740 := n0_
            have BK745 := n1_
            have BK751 := n2_
            have HB := n3_
            clear n0_ n1_ n2_ n3_
            (try clear hb)
            (try clear hb2)
            (try clear hk)
            (try clear hi)
            refine hK.out _ _ ⟨(bC BK745.out 0).trans rfl, (bC BK745.out 1).trans rfl⟩ (fun hHeld => ?_)
            clear hK K
            refine norm_ (a' := ?_) ?_ ?_
            rotate_left
            · show Act.put _ (some 26) _ = _
              simp only [Act.put, lS, lZ, lC, i64_w, i32_w]
              rfl
            refine pure_ (i := 5) (N := some 21) (v := ?_) (a' := ?_) #[true, true, true, true, true, true, false, false, true, false, false] rfl rfl (any_of HT_.out (by kernel_rfl)) (fun _ _ _ h => h) (Or.inl ⟨by rfl, ?_⟩) ?_ ?_
            rotate_left
            · intro w'
              go_simp
              with_reducible rfl
            rotate_left
            · simp only [Act.put, lS, lZ, lC, i64_w, i32_w]
              rfl
            refine pure_ (i := 6) (N := some 27) (v := ?_) (a' := ?_) #[true, true, true, true, true, true, true, false, true, false, false] rfl rfl (any_of HT_.out (by kernel_rfl)) (fun _ _ _ h => h) (Or.inl ⟨by rfl, ?_⟩) ?_ ?_
            rotate_left
            · intro w'
              go_simp
              with_reducible rfl
            rotate_left
            · simp only [Act.put, lS, lZ, lC, i64_w, i32_w]
              rfl
            refine pure_ (i := 7) (N := some 28) (v := ?_) (a' := ?_) #[true, true, true, true, true, true, true, true, true, false, false] rfl rfl (any_of HT_.out (by kernel_rfl)) (fun _ _ _ h => h) (Or.inl ⟨by rfl, ?_⟩) ?_ ?_
            rotate_left
            · intro w'
              go_simp
              with_reducible rfl
            rotate_left
            · simp only [Act.put, lS, lZ, lC, i64_w, i32_w]
              rfl
            exact norm_ (by simp only [putAll, Act.put, lS, lZ, lC]) (hCont (gb751) _ ⟨hHeld, (by (with_reducible repeat (first | refine bN ?_ _ | refine bD ?_ | refine bA ?_ _)); exact BK740.out), (by (with_reducible repeat (first | refine bN ?_ _ | refine bD ?_ | refine bA ?_ _)); exact BK745.out), (by (with_reducible repeat (first | refine bN ?_ _ | refine bD ?_ | refine bA ?_ _)); exact BK751.out), GW751.out, GE751.out, NB740_751.out, NB751_740.out, NB745_751.out, NB751_745.out, (by repeat (first | (with_reducible first | exact HB.out | apply pA | apply pN | apply p1 | refine pS ?_ GE740.out | refine pS ?_ GE745.out | refine pS ?_ GE751.out) | exact HB.out))⟩)
        · skip
          refine box_step ?hg (N := 8) ?hd (cs := #[.int .u64 0, .int .u64 0]) (t := 55) ?hr ?_; (case hd => rfl); (case hg => rfl); (case hr => first | (go_simp; done) | (go_simp; rfl))
          intro gb751 hg w21 hbox hb
          have n0_ := aM (bB3 BK740.out hb)
          have n1_ := aM (bB3 BK745.out hb)
          have n2_ := aM (bS3 HB.out hb)
          have n3_ := aM (hbox)
          have n4_ := aM ((bZ3 hg HB.out))
          have n5_ := aM ((bZ3 hg HB.out))
          have n6_ := aM ((bL3 hg BK740.out))
          have n7_ := aM ((bG3 hg BK740.out))
          have n8_ := aM ((bL3 hg BK745.out))
          have n9_ := aM ((bG3 hg BK745.out))
          clear BK740
          clear BK745
          clear HB
          have BK740 := n0_
          have BK745 := n1_
          have HB := n2_
          have BK751 := n3_
          have GW751 := n4_
          have GE751 := n5_
          have NB740_751 := n6_
          have NB751_740 := n7_
          have NB745_751 := n8_
          have NB751_745 := n9_
          clear n0_ n1_ n2_ n3_ n4_ n5_ n6_ n7_ n8_ n9_
          clear hb hbox hg
          refine hK.out _ _ ⟨(bC BK745.out 0).trans rfl, (bC BK745.out 1).trans rfl⟩ (fun hHeld => ?_)
          clear hK K
          refine norm_ (a' := ?_) ?_ ?_
          rotate_left
          · show Act.put _ (some 8) _ = _
            simp only [Act.put, lS, lZ, lC, i64_w, i32_w]
            rfl
          refine one_ (i := 2) (N := some 24) #[true, true, true, true, false, false, false, false, true, false, false] rfl rfl (one_of HT_.out (by kernel_rfl)) (by decide) (fun K hK => ?_)
          refine goes_ Try.func51 (by kernel_rfl) rfl #[.int .u64 t742, .int .u64 t742] (by rfl) rfl rfl (by (try simp only [List.map_toArray, List.map_cons, List.map_nil]); first | done | rfl | (simp only [List.length_drop, List.length_take]; rfl)) ?_
          with_reducible refine (twin_Mul.calls t742 t742 t746 t747 _ A5.out).mono ?_
          rintro e w22 ⟨rfl, hb⟩
          refine ⟨_, rfl, ?_⟩
          have n0_ := aM (bB3 BK740.out hb)
          have n1_ := aM (bB3 BK745.out hb)
          have n2_ := aM (bB3 BK751.out hb)
          have n3_ := aM (bS3 HB.out hb)
          clear BK740
          clear BK745
          clear BK751
          clear HB
          have BK740 := n0_
          have BK745 := n1_
          have BK751 := n2_
          have HB := n3_
          clear n0_ n1_ n2_ n3_
          (try clear hb)
          (try clear hb2)
          (try clear hk)
          (try clear hi)
          refine hK.out _ _ ⟨(bC BK745.out 0).trans rfl, (bC BK745.out 1).trans rfl⟩ (fun hHeld => ?_)
          clear hK K
          refine norm_ (a' := ?_) ?_ ?_
          rotate_left
          · show Act.put _ (some 24) _ = _
            simp only [Act.put, lS, lZ, lC, i64_w, i32_w]
            rfl
          refine one_ (i := 4) (N := some 26) #[true, true, true, true, true, false, false, false, true, false, false] rfl rfl (one_of HT_.out (by kernel_rfl)) (by decide) (fun K hK => ?_)
          refine goes_ Try.func50 (by kernel_rfl) rfl #[.agg #[.int .u64 t746, .int .u64 t747], .agg #[.int .u64 t743, .int .u64 t744]] (by rfl) rfl rfl (by (try simp only [List.map_toArray, List.map_cons, List.map_nil]); first | done | rfl | (simp only [List.length_drop, List.length_take]; rfl)) ?_
          with_reducible refine (twin_Add.calls t746 t747 t743 t744 t748 t749 true _ A6.out).mono ?_
          rintro e w23 ⟨rfl, hb⟩
          refine ⟨_, rfl, ?_⟩
          have n0_ := aM (bB3 BK740.out hb)
          have n1_ := aM (bB3 BK745.out hb)
          have n2_ := aM (bB3 BK751.out hb)
          have n3_ := aM (bS3 HB.out hb)
          clear BK740
          clear BK745
          clear BK751
          clear HB
          have BK740 := n0_
          have BK745 := n1_
          have BK751 := n2_
          have HB := n3_
          clear n0_ n1_ n2_ n3_
          (try clear hb)
          (try clear hb2)
          (try clear hk)
          (try clear hi)
          refine hK.out _ _ ⟨(bC BK745.out 0).trans rfl, (bC BK745.out 1).trans rfl⟩ (fun hHeld => ?_)
          clear hK K
          refine norm_ (a' := ?_) ?_ ?_
          rotate_left
          · show Act.put _ (some 26) _ = _
            simp only [Act.put, lS, lZ, lC, i64_w, i32_w]
            rfl
          refine pure_ (i := 5) (N := some 21) (v := ?_) (a' := ?_) #[true, true, true, true, true, true, false, false, true, false, false] rfl rfl (any_of HT_.out (by kernel_rfl)) (fun _ _ _ h => h) (Or.inl ⟨by rfl, ?_⟩) ?_ ?_
          rotate_left
          · intro w'
            go_simp
            with_reducible rfl
          rotate_left
          · simp only [Act.put, lS, lZ, lC, i64_w, i32_w]
            rfl
          refine pure_ (i := 6) (N := some 27) (v := ?_) (a' := ?_) #[true, true, true, true, true, true, true, false, true, false, false] rfl rfl (any_of HT_.out (by kernel_rfl)) (fun _ _ _ h => h) (Or.inl ⟨by rfl, ?_⟩) ?_ ?_
          rotate_left
          · intro w'
            go_simp
            with_reducible rfl
          rotate_left
          · simp only [Act.put, lS, lZ, lC, i64_w, i32_w]
            rfl
          refine pure_ (i := 7) (N := some 28) (v := ?_) (a' := ?_) #[true, true, true, true, true, true, true, true, true, false, false] rfl rfl (any_of HT_.out (by kernel_rfl)) (fun _ _ _ h => h) (Or.inl ⟨by rfl, ?_⟩) ?_ ?_
          rotate_left
          · intro w'
            go_simp
            with_reducible rfl
          rotate_left
          · simp only [Act.put, lS, lZ, lC, i64_w, i32_w]
            rfl
          exact norm_ (by simp only [putAll, Act.put, lS, lZ, lC]) (hCont (gb751) _ ⟨hHeld, (by (with_reducible repeat (first | refine bN ?_ _ | refine bD ?_ | refine bA ?_ _)); exact BK740.out), (by (with_reducible repeat (first | refine bN ?_ _ | refine bD ?_ | refine bA ?_ _)); exact BK745.out), (by (with_reducible repeat (first | refine bN ?_ _ | refine bD ?_ | refine bA ?_ _)); exact BK751.out), GW751.out, GE751.out, NB740_751.out, NB751_740.out, NB745_751.out, NB751_745.out, (by repeat (first | (with_reducible first | exact HB.out | apply pA | apply pN | apply p1 | refine pS ?_ GE740.out | refine pS ?_ GE745.out | refine pS ?_ GE751.out) | exact HB.out))⟩)
      rintro gb751 w24 ⟨hS_, h0_, h1_, h2_, h3_, h4_, h5_, h6_, h7_, h8_, h9_⟩
      have n0_ : Aside0 (w24.heap[gb740]? = some (.cells #[.int .u64 a0_0, .int .u64 a0_1] 55 (0, 0))) := ⟨h0_⟩
      have n1_ : Aside0 (w24.heap[gb745]? = some (.cells #[.int .u64 t743, .int .u64 t744] 55 (0, 0))) := ⟨h1_⟩
      have n2_ : Aside0 (w24.heap[gb751]? = some (.cells #[.int .u64 0, .int .u64 0] 55 (0, 0))) := ⟨h2_⟩
      have n3_ : Aside0 (w.heap.size ≤ gb751) := ⟨h3_⟩
      have n4_ : Aside0 (w.heap.size ≤ gb751) := ⟨h4_⟩
      have n5_ : Aside0 (gb740 ≠ gb751) := ⟨h5_⟩
      have n6_ : Aside0 (gb751 ≠ gb740) := ⟨h6_⟩
      have n7_ : Aside0 (gb745 ≠ gb751) := ⟨h7_⟩
      have n8_ : Aside0 (gb751 ≠ gb745) := ⟨h8_⟩
      have n9_ : Aside0 (Below w.heap.size w w24) := ⟨h9_⟩
      clear BK740
      clear BK745
      clear HB
      clear h0_ h1_ h2_ h3_ h4_ h5_ h6_ h7_ h8_ h9_
      have BK740 := n0_
      have BK745 := n1_
      have BK751 := n2_
      have GW751 := n3_
      have GE751 := n4_
      have NB740_751 := n5_
      have NB751_740 := n6_
      have NB745_751 := n7_
      have NB751_745 := n8_
      have HB := n9_
      clear n0_ n1_ n2_ n3_ n4_ n5_ n6_ n7_ n8_ n9_
      have hHeld : w24.cell? ⟨gb745, 0, none⟩ = some (.int .u64 t743) ∧ w24.cell? ⟨gb745, 1, none⟩ = some (.int .u64 t744) := hS_
      refine norm_ (a' := ?_) ?_ ?_
      rotate_left
      · simp only [putAll, Act.put, lS, lZ, lC]
        rfl
      refine one_ (i := 9) (N := none) #[true, true, true, true, true, true, true, true, true, true, false] rfl rfl (one_of HT_.out (by kernel_rfl)) (by decide) (fun K hK => ?_)
      have hs25 : w24.cell? ⟨gb751, 0, none⟩ = some (.int .u64 0) := (bC BK751.out 0).trans rfl
      have hfs25 := bF BK751.out 0
      have hns25_0 := NB740_751.out
      have hns25_1 := NB745_751.out
      have hms25_0 := NB751_740.out
      have hms25_1 := NB751_745.out
      have hs26 : w24.cell? ⟨gb751, 1, none⟩ = some (.int .u64 0) := (bC BK751.out 1).trans rfl
      have hfs26 := bF BK751.out 1
      have hns26_0 := NB740_751.out
      have hns26_1 := NB745_751.out
      have hms26_0 := NB751_740.out
      have hms26_1 := NB751_745.out
      refine skip_ (w1 := ?_) (by rfl) rfl ?_ ?_
      rotate_left
      · go_simp
        rfl
      refine hK.out _ _ ⟨((cell_far (p := ⟨gb751, _, none⟩) NB745_751.out _).trans (((cell_far (p := ⟨gb751, _, none⟩) NB745_751.out _).trans (hHeld.1)))), ((cell_far (p := ⟨gb751, _, none⟩) NB745_751.out _).trans (((cell_far (p := ⟨gb751, _, none⟩) NB745_751.out _).trans (hHeld.2))))⟩ (fun hHeld => ?_)
      clear hK K
      refine pure_ (i := 10) (N := some 9) (v := ?_) (a' := ?_) #[true, true, true, true, true, true, true, true, true, true, true] rfl rfl (any_of HT_.out (by kernel_rfl)) (fun _ _ _ h => h) (Or.inl ⟨by rfl, ?_⟩) ?_ ?_
      rotate_left
      · intro w'
        go_simp
        with_reducible rfl
      rotate_left
      · simp only [Act.put, lS, lZ, lC, i64_w, i32_w]
        rfl
      refine done_ (done_of HT_.out (by kernel_rfl)) ?_
      try go_wp2_with (first | ((with_reducible refine gC (f := 52) rfl ?_); refine gY (some 32) Try.func52 #[.agg #[.int .u64 0, .int .u64 t742], .int .i64 1] ?_; (with_reducible refine (twin_Shl.calls k 0 t742 1 t752 t753 t754 t755 _ A7.out).mono ?_); rintro e w27 ⟨rfl, hb⟩; refine ⟨_, rfl, ?_⟩; have n0_ := aM (bB (g := gb740) (o := .cells #[.int .u64 a0_0, .int .u64 a0_1] 55 (0, 0)) (by (with_reducible repeat (first | refine bN ?_ _ | refine bD ?_ | refine bA ?_ _)); refine blk_far ?_ NB740_751.out _; (with_reducible repeat (first | refine bN ?_ _ | refine bD ?_ | refine bA ?_ _)); refine blk_far ?_ NB740_751.out _; (with_reducible repeat (first | refine bN ?_ _ | refine bD ?_ | refine bA ?_ _)); exact BK740.out) hb); have n1_ := aM (bB (g := gb745) (o := .cells #[.int .u64 t743, .int .u64 t744] 55 (0, 0)) (by (with_reducible repeat (first | refine bN ?_ _ | refine bD ?_ | refine bA ?_ _)); refine blk_far ?_ NB745_751.out _; (with_reducible repeat (first | refine bN ?_ _ | refine bD ?_ | refine bA ?_ _)); refine blk_far ?_ NB745_751.out _; (with_reducible repeat (first | refine bN ?_ _ | refine bD ?_ | refine bA ?_ _)); exact BK745.out) hb); have n2_ := aM (bB (g := gb751) (o := .cells #[.int .u64 t748, .int .u64 t749] 55 (0, 0)) (by (with_reducible repeat (first | refine bN ?_ _ | refine bD ?_ | refine bA ?_ _)); refine blk_put (cs := #[.int .u64 t748, .int .u64 0]) ?_ 1 _ rfl; (with_reducible repeat (first | refine bN ?_ _ | refine bD ?_ | refine bA ?_ _)); refine blk_put (cs := #[.int .u64 0, .int .u64 0]) ?_ 0 _ rfl; (with_reducible repeat (first | refine bN ?_ _ | refine bD ?_ | refine bA ?_ _)); exact BK751.out) hb); have n3_ := aM (bS3 HB.out hb); clear BK740; clear BK745; clear BK751; clear HB; have BK740 := n0_; have BK745 := n1_; have BK751 := n2_; have HB := n3_; clear n0_ n1_ n2_ n3_; (try clear hb); (try simp only [errW_none, errW_some])) | ((with_reducible refine gD (N := 10) rfl ?_); refine bE3 10 #[.int .u64 0, .int .u64 0] 55 ?hr ?_; (case hr => first | (go_simp; done) | (go_simp; rfl)); intro gb756 hg w28 hbox hb; have n0_ := aM (bB3 BK740.out hb); have n1_ := aM (bB3 BK745.out hb); have n2_ := aM (bB3 BK751.out hb); have n3_ := aM (bS3 HB.out hb); have n4_ := aM (hbox); have n5_ := aM ((bZ3 hg HB.out)); have n6_ := aM ((bZ3 hg HB.out)); have n7_ := aM ((bL3 hg BK740.out)); have n8_ := aM ((bG3 hg BK740.out)); have n9_ := aM ((bL3 hg BK745.out)); have n10_ := aM ((bG3 hg BK745.out)); have n11_ := aM ((bL3 hg BK751.out)); have n12_ := aM ((bG3 hg BK751.out)); clear BK740; clear BK745; clear BK751; clear HB; have BK740 := n0_; have BK745 := n1_; have BK751 := n2_; have HB := n3_; have BK756 := n4_; have GW756 := n5_; have GE756 := n6_; have NB740_756 := n7_; have NB756_740 := n8_; have NB745_756 := n9_; have NB756_745 := n10_; have NB751_756 := n11_; have NB756_751 := n12_; clear n0_ n1_ n2_ n3_ n4_ n5_ n6_ n7_ n8_ n9_ n10_ n11_ n12_; clear hb hbox hg; have hnb29 := NB756_740.out; have hnc29 := NB740_756.out; have hnb30 := NB756_745.out; have hnc30 := NB745_756.out; have hnb31 := NB756_751.out; have hnc31 := NB751_756.out; have hcz32_0 : w28.cell? ⟨gb756, 0, none⟩ = some (.int .u64 0) := (bC BK756.out 0).trans rfl; have hcz32_1 : w28.cell? ⟨gb756, 1, none⟩ = some (.int .u64 0) := (bC BK756.out 1).trans rfl; have hfz32_0 := bF BK756.out 0; have hfz32_1 := bF BK756.out 1) | ((with_reducible refine gC (f := 51) rfl ?_); refine gY (some 39) Try.func51 #[.int .u64 a1, .int .u64 a1] ?_; (with_reducible refine (twin_Mul.calls a1 a1 t757 t758 _ A8.out).mono ?_); rintro e w33 ⟨rfl, hb⟩; refine ⟨_, rfl, ?_⟩; have n0_ := aM (bB (g := gb740) (o := .cells #[.int .u64 a0_0, .int .u64 a0_1] 55 (0, 0)) (by (with_reducible repeat (first | refine bN ?_ _ | refine bD ?_ | refine bA ?_ _)); refine blk_far ?_ NB740_756.out _; (with_reducible repeat (first | refine bN ?_ _ | refine bD ?_ | refine bA ?_ _)); refine blk_far ?_ NB740_756.out _; (with_reducible repeat (first | refine bN ?_ _ | refine bD ?_ | refine bA ?_ _)); exact BK740.out) hb); have n1_ := aM (bB (g := gb745) (o := .cells #[.int .u64 t743, .int .u64 t744] 55 (0, 0)) (by (with_reducible repeat (first | refine bN ?_ _ | refine bD ?_ | refine bA ?_ _)); refine blk_far ?_ NB745_756.out _; (with_reducible repeat (first | refine bN ?_ _ | refine bD ?_ | refine bA ?_ _)); refine blk_far ?_ NB745_756.out _; (with_reducible repeat (first | refine bN ?_ _ | refine bD ?_ | refine bA ?_ _)); exact BK745.out) hb); have n2_ := aM (bB (g := gb751) (o := .cells #[.int .u64 t748, .int .u64 t749] 55 (0, 0)) (by (with_reducible repeat (first | refine bN ?_ _ | refine bD ?_ | refine bA ?_ _)); refine blk_far ?_ NB751_756.out _; (with_reducible repeat (first | refine bN ?_ _ | refine bD ?_ | refine bA ?_ _)); refine blk_far ?_ NB751_756.out _; (with_reducible repeat (first | refine bN ?_ _ | refine bD ?_ | refine bA ?_ _)); exact BK751.out) hb); have n3_ := aM (bB (g := gb756) (o := .cells #[.int .u64 t752, .int .u64 t753] 55 (0, 0)) (by (with_reducible repeat (first | refine bN ?_ _ | refine bD ?_ | refine bA ?_ _)); refine blk_put (cs := #[.int .u64 t752, .int .u64 0]) ?_ 1 _ rfl; (with_reducible repeat (first | refine bN ?_ _ | refine bD ?_ | refine bA ?_ _)); refine blk_put (cs := #[.int .u64 0, .int .u64 0]) ?_ 0 _ rfl; (with_reducible repeat (first | refine bN ?_ _ | refine bD ?_ | refine bA ?_ _)); exact BK756.out) hb); have n4_ := aM (bS3 HB.out hb); clear BK740; clear BK745; clear BK751; clear BK756; clear HB; have BK740 := n0_; have BK745 := n1_; have BK751 := n2_; have BK756 := n3_; have HB := n4_; clear n0_ n1_ n2_ n3_ n4_; (try clear hb)) | ((with_reducible refine gC (f := 46) rfl ?_); refine gY (some 40) Try.func46 #[.agg #[.int .u64 t757, .int .u64 t758]] ?_; (with_reducible refine (part_Root.calls k t757 t758 t759 t760 t761 _ A9.out).mono ?_); rintro e w34 ⟨rfl, hb⟩; refine ⟨_, rfl, ?_⟩; have n0_ := aM (bB3 BK740.out hb); have n1_ := aM (bB3 BK745.out hb); have n2_ := aM (bB3 BK751.out hb); have n3_ := aM (bB3 BK756.out hb); have n4_ := aM (bS3 HB.out hb); clear BK740; clear BK745; clear BK751; clear BK756; clear HB; have BK740 := n0_; have BK745 := n1_; have BK751 := n2_; have BK756 := n3_; have HB := n4_; clear n0_ n1_ n2_ n3_ n4_; (try clear hb)) | ((with_reducible refine gD (N := 14) rfl ?_); refine bE3 14 #[.int .u64 0, .int .u64 0] 55 ?hr ?_; (case hr => first | (go_simp; done) | (go_simp; rfl)); intro gb762 hg w35 hbox hb; have n0_ := aM (bB3 BK740.out hb); have n1_ := aM (bB3 BK745.out hb); have n2_ := aM (bB3 BK751.out hb); have n3_ := aM (bB3 BK756.out hb); have n4_ := aM (bS3 HB.out hb); have n5_ := aM (hbox); have n6_ := aM ((bZ3 hg HB.out)); have n7_ := aM ((bZ3 hg HB.out)); have n8_ := aM ((bL3 hg BK740.out)); have n9_ := aM ((bG3 hg BK740.out)); have n10_ := aM ((bL3 hg BK745.out)); have n11_ := aM ((bG3 hg BK745.out)); have n12_ := aM ((bL3 hg BK751.out)); have n13_ := aM ((bG3 hg BK751.out)); have n14_ := aM ((bL3 hg BK756.out)); have n15_ := aM ((bG3 hg BK756.out)); clear BK740; clear BK745; clear BK751; clear BK756; clear HB; have BK740 := n0_; have BK745 := n1_; have BK751 := n2_; have BK756 := n3_; have HB := n4_; have BK762 := n5_; have GW762 := n6_; have GE762 := n7_; have NB740_762 := n8_; have NB762_740 := n9_; have NB745_762 := n10_; have NB762_745 := n11_; have NB751_762 := n12_; have NB762_751 := n13_; have NB756_762 := n14_; have NB762_756 := n15_; clear n0_ n1_ n2_ n3_ n4_ n5_ n6_ n7_ n8_ n9_ n10_ n11_ n12_ n13_ n14_ n15_; clear hb hbox hg; have hnb36 := NB762_740.out; have hnc36 := NB740_762.out; have hnb37 := NB762_745.out; have hnc37 := NB745_762.out; have hnb38 := NB762_751.out; have hnc38 := NB751_762.out; have hnb39 := NB762_756.out; have hnc39 := NB756_762.out; have hcz40_0 : w35.cell? ⟨gb762, 0, none⟩ = some (.int .u64 0) := (bC BK762.out 0).trans rfl; have hcz40_1 : w35.cell? ⟨gb762, 1, none⟩ = some (.int .u64 0) := (bC BK762.out 1).trans rfl; have hfz40_0 := bF BK762.out 0; have hfz40_1 := bF BK762.out 1))
      go_ret
      exact ⟨by first | rfl | (simp [errW_none, errW_some] <;> rfl) | (simp [*, errW_none, errW_some] <;> rfl), by repeat (first | (with_reducible first | exact HB.out | apply pA | apply pN | apply p1 | refine pS ?_ GE740.out | refine pS ?_ GE745.out | refine pS ?_ GE751.out | refine pS ?_ GE756.out | refine pS ?_ GE762.out) | exact HB.out)⟩
    · replace c11 := Bool.eq_false_iff.mpr c11
      subst c11
      have H1 : (if (t748 == a0_0 && (t749 == a0_1)) = true then (if t755.isNone = true then ((twin_Cmp.f t743 t744 t752 t753).bind fun t764 => (if t764 ≤ 0 then (if t759 = a1 then (some (t760 == 0 && (t761 == 0))) else (some false)) else (some false))) else (some false)) else (some false)) = some r := by rw [if_neg (show ¬ (false = true) by decide)] at H; exact H
      clear H
      have H := H1
      clear H1
      by_cases c41 : (t748 == a0_0 && (t749 == a0_1)) = true
      · rw [if_pos c41] at H
        have c41b0 : (t748 == a0_0 && (t749 == a0_1)) = true := c41
        (try (have c41b1 : decide (t748 = a0_0 && (t749 == a0_1)) = true := by simpa using c41))
        (try (have c41b2 : (t748 == a0_0 && (t749 == a0_1)) = true := by simpa using c41))
        clear c41
        rcases t755 with _ | q763
        · have H1 : ((twin_Cmp.f t743 t744 t752 t753).bind fun t764 => (if t764 ≤ 0 then (if t759 = a1 then (some (t760 == 0 && (t761 == 0))) else (some false)) else (some false))) = some r := by rw [if_pos (show (none : Option Int).isNone = true by rfl)] at H; exact H
          clear H
          have H := H1
          clear H1
          try simp only [errW_none, errW_some]
          replace H := Option.bind_eq_some_iff.mp H
          obtain ⟨t764, A420, H⟩ := H
          replace H : (if t764 ≤ 0 then (if t759 = a1 then (some (t760 == 0 && (t761 == 0))) else (some false)) else (some false)) = some r := H
          have A42 := aM A420
          clear A420
          by_cases c43 : t764 ≤ 0
          · rw [if_pos c43] at H
            have c43b0 : decide (t764 ≤ 0) = true := decide_eq_true c43
            clear c43
            by_cases c44 : t759 = a1
            · rw [if_pos c44] at H
              have c44b0 : (t759 == a1) = true := beq_iff_eq.mpr c44
              have c44b1 : (t759 != a1) = false := bne_eq_false_iff_eq.mpr c44
              clear c44
              obtain rfl := Option.some.inj H
              go_enter Try.func14, Try.ntmps14
              try go_wp2_with (first | ((with_reducible refine gD (N := 2) rfl ?_); refine bE3 2 #[.int .u64 a0_0, .int .u64 a0_1] 55 ?hr ?_; (case hr => first | (go_simp; done) | (go_simp; rfl)); intro gb740 hg w45 hbox hb; have n0_ := aM (bS3 HB.out hb); have n1_ := aM (hbox); have n2_ := aM ((bZ3 hg HB.out)); have n3_ := aM ((bZ3 hg HB.out)); clear HB; have HB := n0_; have BK740 := n1_; have GW740 := n2_; have GE740 := n3_; clear n0_ n1_ n2_ n3_; clear hb hbox hg) | ((with_reducible refine gC (f := 43) rfl ?_); refine gY (some 15) Try.func43 #[] ?_; (with_reducible refine (vernierlaw03_up.calls k  true _ A3.out).mono ?_); rintro e w46 ⟨rfl, hb⟩; refine ⟨_, rfl, ?_⟩; have n0_ := aM (bB3 BK740.out hb); have n1_ := aM (bS3 HB.out hb); clear BK740; clear HB; have BK740 := n0_; have HB := n1_; clear n0_ n1_; (try clear hb); have hcz47_0 : w46.cell? ⟨gb740, 0, none⟩ = some (.int .u64 a0_0) := (bC BK740.out 0).trans rfl; have hcz47_1 : w46.cell? ⟨gb740, 1, none⟩ = some (.int .u64 a0_1) := (bC BK740.out 1).trans rfl; have hfz47_0 := bF BK740.out 0; have hfz47_1 := bF BK740.out 1) | ((with_reducible refine gC (f := 46) rfl ?_); refine gY (some 18) Try.func46 #[.agg #[.int .u64 a0_0, .int .u64 a0_1]] ?_; (with_reducible refine (part_Root.calls k a0_0 a0_1 t742 t743 t744 _ A4.out).mono ?_); rintro e w48 ⟨rfl, hb⟩; refine ⟨_, rfl, ?_⟩; have n0_ := aM (bB3 BK740.out hb); have n1_ := aM (bS3 HB.out hb); clear BK740; clear HB; have BK740 := n0_; have HB := n1_; clear n0_ n1_; (try clear hb)) | ((with_reducible refine gD (N := 7) rfl ?_); refine bE3 7 #[.int .u64 0, .int .u64 0] 55 ?hr ?_; (case hr => first | (go_simp; done) | (go_simp; rfl)); intro gb745 hg w49 hbox hb; have n0_ := aM (bB3 BK740.out hb); have n1_ := aM (bS3 HB.out hb); have n2_ := aM (hbox); have n3_ := aM ((bZ3 hg HB.out)); have n4_ := aM ((bZ3 hg HB.out)); have n5_ := aM ((bL3 hg BK740.out)); have n6_ := aM ((bG3 hg BK740.out)); clear BK740; clear HB; have BK740 := n0_; have HB := n1_; have BK745 := n2_; have GW745 := n3_; have GE745 := n4_; have NB740_745 := n5_; have NB745_740 := n6_; clear n0_ n1_ n2_ n3_ n4_ n5_ n6_; clear hb hbox hg; have hnb50 := NB745_740.out; have hnc50 := NB740_745.out; have hcz51_0 : w49.cell? ⟨gb745, 0, none⟩ = some (.int .u64 0) := (bC BK745.out 0).trans rfl; have hcz51_1 : w49.cell? ⟨gb745, 1, none⟩ = some (.int .u64 0) := (bC BK745.out 1).trans rfl; have hfz51_0 := bF BK745.out 0; have hfz51_1 := bF BK745.out 1))
              have n0_ : Aside0 (((w49.setCell ⟨gb745, 0, none⟩ (.int .u64 t743)).setCell ⟨gb745, 1, none⟩ (.int .u64 t744)).heap[gb740]? = some (.cells #[.int .u64 a0_0, .int .u64 a0_1] 55 (0, 0))) := ⟨by (with_reducible repeat (first | refine bN ?_ _ | refine bD ?_ | refine bA ?_ _)); refine blk_far ?_ NB740_745.out _; (with_reducible repeat (first | refine bN ?_ _ | refine bD ?_ | refine bA ?_ _)); refine blk_far ?_ NB740_745.out _; (with_reducible repeat (first | refine bN ?_ _ | refine bD ?_ | refine bA ?_ _)); exact BK740.out⟩
              have n1_ : Aside0 (((w49.setCell ⟨gb745, 0, none⟩ (.int .u64 t743)).setCell ⟨gb745, 1, none⟩ (.int .u64 t744)).heap[gb745]? = some (.cells #[.int .u64 t743, .int .u64 t744] 55 (0, 0))) := ⟨by (with_reducible repeat (first | refine bN ?_ _ | refine bD ?_ | refine bA ?_ _)); refine blk_put (cs := #[.int .u64 t743, .int .u64 0]) ?_ 1 _ rfl; (with_reducible repeat (first | refine bN ?_ _ | refine bD ?_ | refine bA ?_ _)); refine blk_put (cs := #[.int .u64 0, .int .u64 0]) ?_ 0 _ rfl; (with_reducible repeat (first | refine bN ?_ _ | refine bD ?_ | refine bA ?_ _)); exact BK745.out⟩
              have n2_ : Aside0 (Below w.heap.size w ((w49.setCell ⟨gb745, 0, none⟩ (.int .u64 t743)).setCell ⟨gb745, 1, none⟩ (.int .u64 t744))) := ⟨by repeat (first | (with_reducible first | exact HB.out | apply pA | apply pN | apply p1 | refine pS ?_ GE740.out | refine pS ?_ GE745.out) | exact HB.out)⟩
              (try clear BK740)
              (try clear BK745)
              (try clear HB)
              generalize ((w49.setCell ⟨gb745, 0, none⟩ (.int .u64 t743)).setCell ⟨gb745, 1, none⟩ (.int .u64 t744)) = w52 at n0_ n1_ n2_ ⊢
              have BK740 := n0_
              have BK745 := n1_
              have HB := n2_
              clear n0_ n1_ n2_
              have n0_ := aM (bD BK740.out)
              have n1_ := aM (bD BK745.out)
              have n2_ := aM (p1 HB.out)
              clear BK740
              clear BK745
              clear HB
              have BK740 := n0_
              have BK745 := n1_
              have HB := n2_
              clear n0_ n1_ n2_
              refine start_ (n := 11) (S := fun w' => w'.cell? ⟨gb745, 0, none⟩ = some (.int .u64 t743) ∧ w'.cell? ⟨gb745, 1, none⟩ = some (.int .u64 t744)) (ds := []) #[false, false, false, false, false, false, false, false, false, false, false] (by kernel_rfl) rfl rfl ⟨(bC BK745.out 0).trans rfl, (bC BK745.out 1).trans rfl⟩ (fun hHeld => ?_); refine with_tabW vernierlaw03_PartSquare.tab3 vernierlaw03_PartSquare.bits3 (fun HT_ HW_ => ?_)
              generalize w52.drew = w53 at BK740 BK745 HB hHeld ⊢
              refine pure_ (i := 0) (N := some 22) (v := ?_) (a' := ?_) #[true, false, false, false, false, false, false, false, false, false, false] rfl rfl (any_of HT_.out (by kernel_rfl)) (fun _ _ _ h => h) (Or.inl ⟨by rfl, ?_⟩) ?_ ?_
              rotate_left
              · intro w'
                go_simp
                with_reducible rfl
              rotate_left
              · simp only [Act.put, lS, lZ, lC, i64_w, i32_w]
                rfl
              refine pure_ (i := 1) (N := some 23) (v := ?_) (a' := ?_) #[true, true, false, false, false, false, false, false, false, false, false] rfl rfl (any_of HT_.out (by kernel_rfl)) (fun _ _ _ h => h) (Or.inl ⟨by rfl, ?_⟩) ?_ ?_
              rotate_left
              · intro w'
                go_simp
                with_reducible rfl
              rotate_left
              · simp only [Act.put, lS, lZ, lC, i64_w, i32_w]
                rfl
              refine take_ (i := 3) (N := some 25) (v := ?_) (a' := ?_) #[true, true, false, true, false, false, false, false, false, false, false] rfl rfl (take_ofW HT_.out HW_.out (by kernel_rfl)) (fun _ _ _ h => h) (Or.inl ⟨by rfl, ?_⟩) hHeld ?_ ?_
              rotate_left
              · rintro w' ⟨s0, s1⟩
                go_simp
                with_reducible rfl
              rotate_left
              · simp only [Act.put, lS, lZ, lC, i64_w, i32_w]
                rfl
              refine join_ (σ := Nat) 2 #[true, true, true, true, true, true, true, true, true, false, false] (fun s_ => [(24, .agg #[.int .u64 t746, .int .u64 t747]), (26, .tuple #[.agg #[.int .u64 t748, .int .u64 t749], .bool false]), (8, .pointer (some ⟨s_, 0, none⟩)), (21, .tuple #[.agg #[.int .u64 t748, .int .u64 t749], .bool false]), (27, .agg #[.int .u64 t748, .int .u64 t749]), (28, .bool false)]) (fun s_ w' => (w'.cell? ⟨gb745, 0, none⟩ = some (.int .u64 t743) ∧ w'.cell? ⟨gb745, 1, none⟩ = some (.int .u64 t744)) ∧ (w'.heap[gb740]? = some (.cells #[.int .u64 a0_0, .int .u64 a0_1] 55 (0, 0))) ∧ (w'.heap[gb745]? = some (.cells #[.int .u64 t743, .int .u64 t744] 55 (0, 0))) ∧ (w'.heap[s_]? = some (.cells #[.int .u64 0, .int .u64 0] 55 (0, 0))) ∧ (w.heap.size ≤ s_) ∧ (w.heap.size ≤ s_) ∧ (gb740 ≠ s_) ∧ (s_ ≠ gb740) ∧ (gb745 ≠ s_) ∧ (s_ ≠ gb745) ∧ (Below w.heap.size w w')) ?_ ?_
              rotate_left
              · intro hCont
                refine two_ (i := 2) (j := 8) (Ni := some 24) (Nj := some 8) #[true, true, true, true, false, false, false, false, false, false, false] #[true, true, false, true, false, false, false, false, true, false, false] rfl rfl rfl rfl (two_of HT_.out (by kernel_rfl)) (by decide) (by decide) (fun K hK => ?_) (fun K hK => ?_)
                · skip
                  refine goes_ Try.func51 (by kernel_rfl) rfl #[.int .u64 t742, .int .u64 t742] (by rfl) rfl rfl (by (try simp only [List.map_toArray, List.map_cons, List.map_nil]); first | done | rfl | (simp only [List.length_drop, List.length_take]; rfl)) ?_
                  with_reducible refine (twin_Mul.calls t742 t742 t746 t747 _ A5.out).mono ?_
                  rintro e w54 ⟨rfl, hb⟩
                  refine ⟨_, rfl, ?_⟩
                  have n0_ := aM (bB3 BK740.out hb)
                  have n1_ := aM (bB3 BK745.out hb)
                  have n2_ := aM (bS3 HB.out hb)
                  clear BK740
                  clear BK745
                  clear HB
                  have BK740 := n0_
                  have BK745 := n1_
                  have HB := n2_
                  clear n0_ n1_ n2_
                  (try clear hb)
                  (try clear hb2)
                  (try clear hk)
                  (try clear hi)
                  refine hK.out _ _ ⟨(bC BK745.out 0).trans rfl, (bC BK745.out 1).trans rfl⟩ (fun hHeld => ?_)
                  clear hK K
                  refine norm_ (a' := ?_) ?_ ?_
                  rotate_left
                  · show Act.put _ (some 24) _ = _
                    simp only [Act.put, lS, lZ, lC, i64_w, i32_w]
                    rfl
                  refine two_ (i := 4) (j := 8) (Ni := some 26) (Nj := some 8) #[true, true, true, true, true, false, false, false, false, false, false] #[true, true, true, true, false, false, false, false, true, false, false] rfl rfl rfl rfl (two_of HT_.out (by kernel_rfl)) (by decide) (by decide) (fun K hK => ?_) (fun K hK => ?_)
                  · skip
                    refine goes_ Try.func50 (by kernel_rfl) rfl #[.agg #[.int .u64 t746, .int .u64 t747], .agg #[.int .u64 t743, .int .u64 t744]] (by rfl) rfl rfl (by (try simp only [List.map_toArray, List.map_cons, List.map_nil]); first | done | rfl | (simp only [List.length_drop, List.length_take]; rfl)) ?_
                    with_reducible refine (twin_Add.calls t746 t747 t743 t744 t748 t749 false _ A6.out).mono ?_
                    rintro e w55 ⟨rfl, hb⟩
                    refine ⟨_, rfl, ?_⟩
                    have n0_ := aM (bB3 BK740.out hb)
                    have n1_ := aM (bB3 BK745.out hb)
                    have n2_ := aM (bS3 HB.out hb)
                    clear BK740
                    clear BK745
                    clear HB
                    have BK740 := n0_
                    have BK745 := n1_
                    have HB := n2_
                    clear n0_ n1_ n2_
                    (try clear hb)
                    (try clear hb2)
                    (try clear hk)
                    (try clear hi)
                    refine hK.out _ _ ⟨(bC BK745.out 0).trans rfl, (bC BK745.out 1).trans rfl⟩ (fun hHeld => ?_)
                    clear hK K
                    refine norm_ (a' := ?_) ?_ ?_
                    rotate_left
                    · show Act.put _ (some 26) _ = _
                      simp only [Act.put, lS, lZ, lC, i64_w, i32_w]
                      rfl
                    refine pure_ (i := 5) (N := some 21) (v := ?_) (a' := ?_) #[true, true, true, true, true, true, false, false, false, false, false] rfl rfl (any_of HT_.out (by kernel_rfl)) (fun _ _ _ h => h) (Or.inl ⟨by rfl, ?_⟩) ?_ ?_
                    rotate_left
                    · intro w'
                      go_simp
                      with_reducible rfl
                    rotate_left
                    · simp only [Act.put, lS, lZ, lC, i64_w, i32_w]
                      rfl
                    refine pure_ (i := 6) (N := some 27) (v := ?_) (a' := ?_) #[true, true, true, true, true, true, true, false, false, false, false] rfl rfl (any_of HT_.out (by kernel_rfl)) (fun _ _ _ h => h) (Or.inl ⟨by rfl, ?_⟩) ?_ ?_
                    rotate_left
                    · intro w'
                      go_simp
                      with_reducible rfl
                    rotate_left
                    · simp only [Act.put, lS, lZ, lC, i64_w, i32_w]
                      rfl
                    refine pure_ (i := 7) (N := some 28) (v := ?_) (a' := ?_) #[true, true, true, true, true, true, true, true, false, false, false] rfl rfl (any_of HT_.out (by kernel_rfl)) (fun _ _ _ h => h) (Or.inl ⟨by rfl, ?_⟩) ?_ ?_
                    rotate_left
                    · intro w'
                      go_simp
                      with_reducible rfl
                    rotate_left
                    · simp only [Act.put, lS, lZ, lC, i64_w, i32_w]
                      rfl
                    refine one_ (i := 8) (N := some 8) #[true, true, true, true, true, true, true, true, true, false, false] rfl rfl (one_of HT_.out (by kernel_rfl)) (by decide) (fun K hK => ?_)
                    refine box_step ?hg (N := 8) ?hd (cs := #[.int .u64 0, .int .u64 0]) (t := 55) ?hr ?_; (case hd => rfl); (case hg => rfl); (case hr => first | (go_simp; done) | (go_simp; rfl))
                    intro gb751 hg w56 hbox hb
                    have n0_ := aM (bB3 BK740.out hb)
                    have n1_ := aM (bB3 BK745.out hb)
                    have n2_ := aM (bS3 HB.out hb)
                    have n3_ := aM (hbox)
                    have n4_ := aM ((bZ3 hg HB.out))
                    have n5_ := aM ((bZ3 hg HB.out))
                    have n6_ := aM ((bL3 hg BK740.out))
                    have n7_ := aM ((bG3 hg BK740.out))
                    have n8_ := aM ((bL3 hg BK745.out))
                    have n9_ := aM ((bG3 hg BK745.out))
                    clear BK740
                    clear BK745
                    clear HB
                    have BK740 := n0_
                    have BK745 := n1_
                    have HB := n2_
                    have BK751 := n3_
                    have GW751 := n4_
                    have GE751 := n5_
                    have NB740_751 := n6_
                    have NB751_740 := n7_
                    have NB745_751 := n8_
                    have NB751_745 := n9_
                    clear n0_ n1_ n2_ n3_ n4_ n5_ n6_ n7_ n8_ n9_
                    clear hb hbox hg
                    refine hK.out _ _ ⟨(bC BK745.out 0).trans rfl, (bC BK745.out 1).trans rfl⟩ (fun hHeld => ?_)
                    clear hK K
                    refine norm_ (a' := ?_) ?_ ?_
                    rotate_left
                    · show Act.put _ (some 8) _ = _
                      simp only [Act.put, lS, lZ, lC, i64_w, i32_w]
                      rfl
                    exact norm_ (by simp only [putAll, Act.put, lS, lZ, lC]) (hCont (gb751) _ ⟨hHeld, (by (with_reducible repeat (first | refine bN ?_ _ | refine bD ?_ | refine bA ?_ _)); exact BK740.out), (by (with_reducible repeat (first | refine bN ?_ _ | refine bD ?_ | refine bA ?_ _)); exact BK745.out), (by (with_reducible repeat (first | refine bN ?_ _ | refine bD ?_ | refine bA ?_ _)); exact BK751.out), GW751.out, GE751.out, NB740_751.out, NB751_740.out, NB745_751.out, NB751_745.out, (by repeat (first | (with_reducible first | exact HB.out | apply pA | apply pN | apply p1 | refine pS ?_ GE740.out | refine pS ?_ GE745.out | refine pS ?_ GE751.out) | exact HB.out))⟩)
                  · skip
                    refine box_step ?hg (N := 8) ?hd (cs := #[.int .u64 0, .int .u64 0]) (t := 55) ?hr ?_; (case hd => rfl); (case hg => rfl); (case hr => first | (go_simp; done) | (go_simp; rfl))
                    intro gb751 hg w55 hbox hb
                    have n0_ := aM (bB3 BK740.out hb)
                    have n1_ := aM (bB3 BK745.out hb)
                    have n2_ := aM (bS3 HB.out hb)
                    have n3_ := aM (hbox)
                    have n4_ := aM ((bZ3 hg HB.out))
                    have n5_ := aM ((bZ3 hg HB.out))
                    have n6_ := aM ((bL3 hg BK740.out))
                    have n7_ := aM ((bG3 hg BK740.out))
                    have n8_ := aM ((bL3 hg BK745.out))
                    have n9_ := aM ((bG3 hg BK745.out))
                    clear BK740
                    clear BK745
                    clear HB
                    have BK740 := n0_
                    have BK745 := n1_
                    have HB := n2_
                    have BK751 := n3_
                    have GW751 := n4_
                    have GE751 := n5_
                    have NB740_751 := n6_
                    have NB751_740 := n7_
                    have NB745_751 := n8_
                    have NB751_745 := n9_
                    clear n0_ n1_ n2_ n3_ n4_ n5_ n6_ n7_ n8_ n9_
                    clear hb hbox hg
                    refine hK.out _ _ ⟨(bC BK745.out 0).trans rfl, (bC BK745.out 1).trans rfl⟩ (fun hHeld => ?_)
                    clear hK K
                    refine norm_ (a' := ?_) ?_ ?_
                    rotate_left
                    · show Act.put _ (some 8) _ = _
                      simp only [Act.put, lS, lZ, lC, i64_w, i32_w]
                      rfl
                    refine one_ (i := 4) (N := some 26) #[true, true, true, true, true, false, false, false, true, false, false] rfl rfl (one_of HT_.out (by kernel_rfl)) (by decide) (fun K hK => ?_)
                    refine goes_ Try.func50 (by kernel_rfl) rfl #[.agg #[.int .u64 t746, .int .u64 t747], .agg #[.int .u64 t743, .int .u64 t744]] (by rfl) rfl rfl (by (try simp only [List.map_toArray, List.map_cons, List.map_nil]); first | done | rfl | (simp only [List.length_drop, List.length_take]; rfl)) ?_
                    with_reducible refine (twin_Add.calls t746 t747 t743 t744 t748 t749 false _ A6.out).mono ?_
                    rintro e w56 ⟨rfl, hb⟩
                    refine ⟨_, rfl, ?_⟩
                    have n0_ := aM (bB3 BK740.out hb)
                    have n1_ := aM (bB3 BK745.out hb)
                    have n2_ := aM (bB3 BK751.out hb)
                    have n3_ := aM (bS3 HB.out hb)
                    clear BK740
                    clear BK745
                    clear BK751
                    clear HB
                    have BK740 := n0_
                    have BK745 := n1_
                    have BK751 := n2_
                    have HB := n3_
                    clear n0_ n1_ n2_ n3_
                    (try clear hb)
                    (try clear hb2)
                    (try clear hk)
                    (try clear hi)
                    refine hK.out _ _ ⟨(bC BK745.out 0).trans rfl, (bC BK745.out 1).trans rfl⟩ (fun hHeld => ?_)
                    clear hK K
                    refine norm_ (a' := ?_) ?_ ?_
                    rotate_left
                    · show Act.put _ (some 26) _ = _
                      simp only [Act.put, lS, lZ, lC, i64_w, i32_w]
                      rfl
                    refine pure_ (i := 5) (N := some 21) (v := ?_) (a' := ?_) #[true, true, true, true, true, true, false, false, true, false, false] rfl rfl (any_of HT_.out (by kernel_rfl)) (fun _ _ _ h => h) (Or.inl ⟨by rfl, ?_⟩) ?_ ?_
                    rotate_left
                    · intro w'
                      go_simp
                      with_reducible rfl
                    rotate_left
                    · simp only [Act.put, lS, lZ, lC, i64_w, i32_w]
                      rfl
                    refine pure_ (i := 6) (N := some 27) (v := ?_) (a' := ?_) #[true, true, true, true, true, true, true, false, true, false, false] rfl rfl (any_of HT_.out (by kernel_rfl)) (fun _ _ _ h => h) (Or.inl ⟨by rfl, ?_⟩) ?_ ?_
                    rotate_left
                    · intro w'
                      go_simp
                      with_reducible rfl
                    rotate_left
                    · simp only [Act.put, lS, lZ, lC, i64_w, i32_w]
                      rfl
                    refine pure_ (i := 7) (N := some 28) (v := ?_) (a' := ?_) #[true, true, true, true, true, true, true, true, true, false, false] rfl rfl (any_of HT_.out (by kernel_rfl)) (fun _ _ _ h => h) (Or.inl ⟨by rfl, ?_⟩) ?_ ?_
                    rotate_left
                    · intro w'
                      go_simp
                      with_reducible rfl
                    rotate_left
                    · simp only [Act.put, lS, lZ, lC, i64_w, i32_w]
                      rfl
                    exact norm_ (by simp only [putAll, Act.put, lS, lZ, lC]) (hCont (gb751) _ ⟨hHeld, (by (with_reducible repeat (first | refine bN ?_ _ | refine bD ?_ | refine bA ?_ _)); exact BK740.out), (by (with_reducible repeat (first | refine bN ?_ _ | refine bD ?_ | refine bA ?_ _)); exact BK745.out), (by (with_reducible repeat (first | refine bN ?_ _ | refine bD ?_ | refine bA ?_ _)); exact BK751.out), GW751.out, GE751.out, NB740_751.out, NB751_740.out, NB745_751.out, NB751_745.out, (by repeat (first | (with_reducible first | exact HB.out | apply pA | apply pN | apply p1 | refine pS ?_ GE740.out | refine pS ?_ GE745.out | refine pS ?_ GE751.out) | exact HB.out))⟩)
                · skip
                  refine box_step ?hg (N := 8) ?hd (cs := #[.int .u64 0, .int .u64 0]) (t := 55) ?hr ?_; (case hd => rfl); (case hg => rfl); (case hr => first | (go_simp; done) | (go_simp; rfl))
                  intro gb751 hg w54 hbox hb
                  have n0_ := aM (bB3 BK740.out hb)
                  have n1_ := aM (bB3 BK745.out hb)
                  have n2_ := aM (bS3 HB.out hb)
                  have n3_ := aM (hbox)
                  have n4_ := aM ((bZ3 hg HB.out))
                  have n5_ := aM ((bZ3 hg HB.out))
                  have n6_ := aM ((bL3 hg BK740.out))
                  have n7_ := aM ((bG3 hg BK740.out))
                  have n8_ := aM ((bL3 hg BK745.out))
                  have n9_ := aM ((bG3 hg BK745.out))
                  clear BK740
                  clear BK745
                  clear HB
                  have BK740 := n0_
                  have BK745 := n1_
                  have HB := n2_
                  have BK751 := n3_
                  have GW751 := n4_
                  have GE751 := n5_
                  have NB740_751 := n6_
                  have NB751_740 := n7_
                  have NB745_751 := n8_
                  have NB751_745 := n9_
                  clear n0_ n1_ n2_ n3_ n4_ n5_ n6_ n7_ n8_ n9_
                  clear hb hbox hg
                  refine hK.out _ _ ⟨(bC BK745.out 0).trans rfl, (bC BK745.out 1).trans rfl⟩ (fun hHeld => ?_)
                  clear hK K
                  refine norm_ (a' := ?_) ?_ ?_
                  rotate_left
                  · show Act.put _ (some 8) _ = _
                    simp only [Act.put, lS, lZ, lC, i64_w, i32_w]
                    rfl
                  refine one_ (i := 2) (N := some 24) #[true, true, true, true, false, false, false, false, true, false, false] rfl rfl (one_of HT_.out (by kernel_rfl)) (by decide) (fun K hK => ?_)
                  refine goes_ Try.func51 (by kernel_rfl) rfl #[.int .u64 t742, .int .u64 t742] (by rfl) rfl rfl (by (try simp only [List.map_toArray, List.map_cons, List.map_nil]); first | done | rfl | (simp only [List.length_drop, List.length_take]; rfl)) ?_
                  with_reducible refine (twin_Mul.calls t742 t742 t746 t747 _ A5.out).mono ?_
                  rintro e w55 ⟨rfl, hb⟩
                  refine ⟨_, rfl, ?_⟩
                  have n0_ := aM (bB3 BK740.out hb)
                  have n1_ := aM (bB3 BK745.out hb)
                  have n2_ := aM (bB3 BK751.out hb)
                  have n3_ := aM (bS3 HB.out hb)
                  clear BK740
                  clear BK745
                  clear BK751
                  clear HB
                  have BK740 := n0_
                  have BK745 := n1_
                  have BK751 := n2_
                  have HB := n3_
                  clear n0_ n1_ n2_ n3_
                  (try clear hb)
                  (try clear hb2)
                  (try clear hk)
                  (try clear hi)
                  refine hK.out _ _ ⟨(bC BK745.out 0).trans rfl, (bC BK745.out 1).trans rfl⟩ (fun hHeld => ?_)
                  clear hK K
                  refine norm_ (a' := ?_) ?_ ?_
                  rotate_left
                  · show Act.put _ (some 24) _ = _
                    simp only [Act.put, lS, lZ, lC, i64_w, i32_w]
                    rfl
                  refine one_ (i := 4) (N := some 26) #[true, true, true, true, true, false, false, false, true, false, false] rfl rfl (one_of HT_.out (by kernel_rfl)) (by decide) (fun K hK => ?_)
                  refine goes_ Try.func50 (by kernel_rfl) rfl #[.agg #[.int .u64 t746, .int .u64 t747], .agg #[.int .u64 t743, .int .u64 t744]] (by rfl) rfl rfl (by (try simp only [List.map_toArray, List.map_cons, List.map_nil]); first | done | rfl | (simp only [List.length_drop, List.length_take]; rfl)) ?_
                  with_reducible refine (twin_Add.calls t746 t747 t743 t744 t748 t749 false _ A6.out).mono ?_
                  rintro e w56 ⟨rfl, hb⟩
                  refine ⟨_, rfl, ?_⟩
                  have n0_ := aM (bB3 BK740.out hb)
                  have n1_ := aM (bB3 BK745.out hb)
                  have n2_ := aM (bB3 BK751.out hb)
                  have n3_ := aM (bS3 HB.out hb)
                  clear BK740
                  clear BK745
                  clear BK751
                  clear HB
                  have BK740 := n0_
                  have BK745 := n1_
                  have BK751 := n2_
                  have HB := n3_
                  clear n0_ n1_ n2_ n3_
                  (try clear hb)
                  (try clear hb2)
                  (try clear hk)
                  (try clear hi)
                  refine hK.out _ _ ⟨(bC BK745.out 0).trans rfl, (bC BK745.out 1).trans rfl⟩ (fun hHeld => ?_)
                  clear hK K
                  refine norm_ (a' := ?_) ?_ ?_
                  rotate_left
                  · show Act.put _ (some 26) _ = _
                    simp only [Act.put, lS, lZ, lC, i64_w, i32_w]
                    rfl
                  refine pure_ (i := 5) (N := some 21) (v := ?_) (a' := ?_) #[true, true, true, true, true, true, false, false, true, false, false] rfl rfl (any_of HT_.out (by kernel_rfl)) (fun _ _ _ h => h) (Or.inl ⟨by rfl, ?_⟩) ?_ ?_
                  rotate_left
                  · intro w'
                    go_simp
                    with_reducible rfl
                  rotate_left
                  · simp only [Act.put, lS, lZ, lC, i64_w, i32_w]
                    rfl
                  refine pure_ (i := 6) (N := some 27) (v := ?_) (a' := ?_) #[true, true, true, true, true, true, true, false, true, false, false] rfl rfl (any_of HT_.out (by kernel_rfl)) (fun _ _ _ h => h) (Or.inl ⟨by rfl, ?_⟩) ?_ ?_
                  rotate_left
                  · intro w'
                    go_simp
                    with_reducible rfl
                  rotate_left
                  · simp only [Act.put, lS, lZ, lC, i64_w, i32_w]
                    rfl
                  refine pure_ (i := 7) (N := some 28) (v := ?_) (a' := ?_) #[true, true, true, true, true, true, true, true, true, false, false] rfl rfl (any_of HT_.out (by kernel_rfl)) (fun _ _ _ h => h) (Or.inl ⟨by rfl, ?_⟩) ?_ ?_
                  rotate_left
                  · intro w'
                    go_simp
                    with_reducible rfl
                  rotate_left
                  · simp only [Act.put, lS, lZ, lC, i64_w, i32_w]
                    rfl
                  exact norm_ (by simp only [putAll, Act.put, lS, lZ, lC]) (hCont (gb751) _ ⟨hHeld, (by (with_reducible repeat (first | refine bN ?_ _ | refine bD ?_ | refine bA ?_ _)); exact BK740.out), (by (with_reducible repeat (first | refine bN ?_ _ | refine bD ?_ | refine bA ?_ _)); exact BK745.out), (by (with_reducible repeat (first | refine bN ?_ _ | refine bD ?_ | refine bA ?_ _)); exact BK751.out), GW751.out, GE751.out, NB740_751.out, NB751_740.out, NB745_751.out, NB751_745.out, (by repeat (first | (with_reducible first | exact HB.out | apply pA | apply pN | apply p1 | refine pS ?_ GE740.out | refine pS ?_ GE745.out | refine pS ?_ GE751.out) | exact HB.out))⟩)
              rintro gb751 w57 ⟨hS_, h0_, h1_, h2_, h3_, h4_, h5_, h6_, h7_, h8_, h9_⟩
              have n0_ : Aside0 (w57.heap[gb740]? = some (.cells #[.int .u64 a0_0, .int .u64 a0_1] 55 (0, 0))) := ⟨h0_⟩
              have n1_ : Aside0 (w57.heap[gb745]? = some (.cells #[.int .u64 t743, .int .u64 t744] 55 (0, 0))) := ⟨h1_⟩
              have n2_ : Aside0 (w57.heap[gb751]? = some (.cells #[.int .u64 0, .int .u64 0] 55 (0, 0))) := ⟨h2_⟩
              have n3_ : Aside0 (w.heap.size ≤ gb751) := ⟨h3_⟩
              have n4_ : Aside0 (w.heap.size ≤ gb751) := ⟨h4_⟩
              have n5_ : Aside0 (gb740 ≠ gb751) := ⟨h5_⟩
              have n6_ : Aside0 (gb751 ≠ gb740) := ⟨h6_⟩
              have n7_ : Aside0 (gb745 ≠ gb751) := ⟨h7_⟩
              have n8_ : Aside0 (gb751 ≠ gb745) := ⟨h8_⟩
              have n9_ : Aside0 (Below w.heap.size w w57) := ⟨h9_⟩
              clear BK740
              clear BK745
              clear HB
              clear h0_ h1_ h2_ h3_ h4_ h5_ h6_ h7_ h8_ h9_
              have BK740 := n0_
              have BK745 := n1_
              have BK751 := n2_
              have GW751 := n3_
              have GE751 := n4_
              have NB740_751 := n5_
              have NB751_740 := n6_
              have NB745_751 := n7_
              have NB751_745 := n8_
              have HB := n9_
              clear n0_ n1_ n2_ n3_ n4_ n5_ n6_ n7_ n8_ n9_
              have hHeld : w57.cell? ⟨gb745, 0, none⟩ = some (.int .u64 t743) ∧ w57.cell? ⟨gb745, 1, none⟩ = some (.int .u64 t744) := hS_
              refine norm_ (a' := ?_) ?_ ?_
              rotate_left
              · simp only [putAll, Act.put, lS, lZ, lC]
                rfl
              refine one_ (i := 9) (N := none) #[true, true, true, true, true, true, true, true, true, true, false] rfl rfl (one_of HT_.out (by kernel_rfl)) (by decide) (fun K hK => ?_)
              have hs58 : w57.cell? ⟨gb751, 0, none⟩ = some (.int .u64 0) := (bC BK751.out 0).trans rfl
              have hfs58 := bF BK751.out 0
              have hns58_0 := NB740_751.out
              have hns58_1 := NB745_751.out
              have hms58_0 := NB751_740.out
              have hms58_1 := NB751_745.out
              have hs59 : w57.cell? ⟨gb751, 1, none⟩ = some (.int .u64 0) := (bC BK751.out 1).trans rfl
              have hfs59 := bF BK751.out 1
              have hns59_0 := NB740_751.out
              have hns59_1 := NB745_751.out
              have hms59_0 := NB751_740.out
              have hms59_1 := NB751_745.out
              refine skip_ (w1 := ?_) (by rfl) rfl ?_ ?_
              rotate_left
              · go_simp
                rfl
              refine hK.out _ _ ⟨((cell_far (p := ⟨gb751, _, none⟩) NB745_751.out _).trans (((cell_far (p := ⟨gb751, _, none⟩) NB745_751.out _).trans (hHeld.1)))), ((cell_far (p := ⟨gb751, _, none⟩) NB745_751.out _).trans (((cell_far (p := ⟨gb751, _, none⟩) NB745_751.out _).trans (hHeld.2))))⟩ (fun hHeld => ?_)
              clear hK K
              refine pure_ (i := 10) (N := some 9) (v := ?_) (a' := ?_) #[true, true, true, true, true, true, true, true, true, true, true] rfl rfl (any_of HT_.out (by kernel_rfl)) (fun _ _ _ h => h) (Or.inl ⟨by rfl, ?_⟩) ?_ ?_
              rotate_left
              · intro w'
                go_simp
                with_reducible rfl
              rotate_left
              · simp only [Act.put, lS, lZ, lC, i64_w, i32_w]
                rfl
              refine done_ (done_of HT_.out (by kernel_rfl)) ?_
              try go_wp2_with (first | ((with_reducible refine gC (f := 52) rfl ?_); refine gY (some 32) Try.func52 #[.agg #[.int .u64 0, .int .u64 t742], .int .i64 1] ?_; (with_reducible refine (twin_Shl.calls k 0 t742 1 t752 t753 t754 none _ A7.out).mono ?_); rintro e w60 ⟨rfl, hb⟩; refine ⟨_, rfl, ?_⟩; have n0_ := aM (bB (g := gb740) (o := .cells #[.int .u64 a0_0, .int .u64 a0_1] 55 (0, 0)) (by (with_reducible repeat (first | refine bN ?_ _ | refine bD ?_ | refine bA ?_ _)); refine blk_far ?_ NB740_751.out _; (with_reducible repeat (first | refine bN ?_ _ | refine bD ?_ | refine bA ?_ _)); refine blk_far ?_ NB740_751.out _; (with_reducible repeat (first | refine bN ?_ _ | refine bD ?_ | refine bA ?_ _)); exact BK740.out) hb); have n1_ := aM (bB (g := gb745) (o := .cells #[.int .u64 t743, .int .u64 t744] 55 (0, 0)) (by (with_reducible repeat (first | refine bN ?_ _ | refine bD ?_ | refine bA ?_ _)); refine blk_far ?_ NB745_751.out _; (with_reducible repeat (first | refine bN ?_ _ | refine bD ?_ | refine bA ?_ _)); refine blk_far ?_ NB745_751.out _; (with_reducible repeat (first | refine bN ?_ _ | refine bD ?_ | refine bA ?_ _)); exact BK745.out) hb); have n2_ := aM (bB (g := gb751) (o := .cells #[.int .u64 t748, .int .u64 t749] 55 (0, 0)) (by (with_reducible repeat (first | refine bN ?_ _ | refine bD ?_ | refine bA ?_ _)); refine blk_put (cs := #[.int .u64 t748, .int .u64 0]) ?_ 1 _ rfl; (with_reducible repeat (first | refine bN ?_ _ | refine bD ?_ | refine bA ?_ _)); refine blk_put (cs := #[.int .u64 0, .int .u64 0]) ?_ 0 _ rfl; (with_reducible repeat (first | refine bN ?_ _ | refine bD ?_ | refine bA ?_ _)); exact BK751.out) hb); have n3_ := aM (bS3 HB.out hb); clear BK740; clear BK745; clear BK751; clear HB; have BK740 := n0_; have BK745 := n1_; have BK751 := n2_; have HB := n3_; clear n0_ n1_ n2_ n3_; (try clear hb); (try simp only [errW_none, errW_some])) | ((with_reducible refine gD (N := 10) rfl ?_); refine bE3 10 #[.int .u64 0, .int .u64 0] 55 ?hr ?_; (case hr => first | (go_simp; done) | (go_simp; rfl)); intro gb756 hg w61 hbox hb; have n0_ := aM (bB3 BK740.out hb); have n1_ := aM (bB3 BK745.out hb); have n2_ := aM (bB3 BK751.out hb); have n3_ := aM (bS3 HB.out hb); have n4_ := aM (hbox); have n5_ := aM ((bZ3 hg HB.out)); have n6_ := aM ((bZ3 hg HB.out)); have n7_ := aM ((bL3 hg BK740.out)); have n8_ := aM ((bG3 hg BK740.out)); have n9_ := aM ((bL3 hg BK745.out)); have n10_ := aM ((bG3 hg BK745.out)); have n11_ := aM ((bL3 hg BK751.out)); have n12_ := aM ((bG3 hg BK751.out)); clear BK740; clear BK745; clear BK751; clear HB; have BK740 := n0_; have BK745 := n1_; have BK751 := n2_; have HB := n3_; have BK756 := n4_; have GW756 := n5_; have GE756 := n6_; have NB740_756 := n7_; have NB756_740 := n8_; have NB745_756 := n9_; have NB756_745 := n10_; have NB751_756 := n11_; have NB756_751 := n12_; clear n0_ n1_ n2_ n3_ n4_ n5_ n6_ n7_ n8_ n9_ n10_ n11_ n12_; clear hb hbox hg; have hnb62 := NB756_740.out; have hnc62 := NB740_756.out; have hnb63 := NB756_745.out; have hnc63 := NB745_756.out; have hnb64 := NB756_751.out; have hnc64 := NB751_756.out; have hcz65_0 : w61.cell? ⟨gb756, 0, none⟩ = some (.int .u64 0) := (bC BK756.out 0).trans rfl; have hcz65_1 : w61.cell? ⟨gb756, 1, none⟩ = some (.int .u64 0) := (bC BK756.out 1).trans rfl; have hfz65_0 := bF BK756.out 0; have hfz65_1 := bF BK756.out 1) | ((with_reducible refine gC (f := 51) rfl ?_); refine gY (some 39) Try.func51 #[.int .u64 a1, .int .u64 a1] ?_; (with_reducible refine (twin_Mul.calls a1 a1 t757 t758 _ A8.out).mono ?_); rintro e w66 ⟨rfl, hb⟩; refine ⟨_, rfl, ?_⟩; have n0_ := aM (bB (g := gb740) (o := .cells #[.int .u64 a0_0, .int .u64 a0_1] 55 (0, 0)) (by (with_reducible repeat (first | refine bN ?_ _ | refine bD ?_ | refine bA ?_ _)); refine blk_far ?_ NB740_756.out _; (with_reducible repeat (first | refine bN ?_ _ | refine bD ?_ | refine bA ?_ _)); refine blk_far ?_ NB740_756.out _; (with_reducible repeat (first | refine bN ?_ _ | refine bD ?_ | refine bA ?_ _)); exact BK740.out) hb); have n1_ := aM (bB (g := gb745) (o := .cells #[.int .u64 t743, .int .u64 t744] 55 (0, 0)) (by (with_reducible repeat (first | refine bN ?_ _ | refine bD ?_ | refine bA ?_ _)); refine blk_far ?_ NB745_756.out _; (with_reducible repeat (first | refine bN ?_ _ | refine bD ?_ | refine bA ?_ _)); refine blk_far ?_ NB745_756.out _; (with_reducible repeat (first | refine bN ?_ _ | refine bD ?_ | refine bA ?_ _)); exact BK745.out) hb); have n2_ := aM (bB (g := gb751) (o := .cells #[.int .u64 t748, .int .u64 t749] 55 (0, 0)) (by (with_reducible repeat (first | refine bN ?_ _ | refine bD ?_ | refine bA ?_ _)); refine blk_far ?_ NB751_756.out _; (with_reducible repeat (first | refine bN ?_ _ | refine bD ?_ | refine bA ?_ _)); refine blk_far ?_ NB751_756.out _; (with_reducible repeat (first | refine bN ?_ _ | refine bD ?_ | refine bA ?_ _)); exact BK751.out) hb); have n3_ := aM (bB (g := gb756) (o := .cells #[.int .u64 t752, .int .u64 t753] 55 (0, 0)) (by (with_reducible repeat (first | refine bN ?_ _ | refine bD ?_ | refine bA ?_ _)); refine blk_put (cs := #[.int .u64 t752, .int .u64 0]) ?_ 1 _ rfl; (with_reducible repeat (first | refine bN ?_ _ | refine bD ?_ | refine bA ?_ _)); refine blk_put (cs := #[.int .u64 0, .int .u64 0]) ?_ 0 _ rfl; (with_reducible repeat (first | refine bN ?_ _ | refine bD ?_ | refine bA ?_ _)); exact BK756.out) hb); have n4_ := aM (bS3 HB.out hb); clear BK740; clear BK745; clear BK751; clear BK756; clear HB; have BK740 := n0_; have BK745 := n1_; have BK751 := n2_; have BK756 := n3_; have HB := n4_; clear n0_ n1_ n2_ n3_ n4_; (try clear hb)) | ((with_reducible refine gC (f := 46) rfl ?_); refine gY (some 40) Try.func46 #[.agg #[.int .u64 t757, .int .u64 t758]] ?_; (with_reducible refine (part_Root.calls k t757 t758 t759 t760 t761 _ A9.out).mono ?_); rintro e w67 ⟨rfl, hb⟩; refine ⟨_, rfl, ?_⟩; have n0_ := aM (bB3 BK740.out hb); have n1_ := aM (bB3 BK745.out hb); have n2_ := aM (bB3 BK751.out hb); have n3_ := aM (bB3 BK756.out hb); have n4_ := aM (bS3 HB.out hb); clear BK740; clear BK745; clear BK751; clear BK756; clear HB; have BK740 := n0_; have BK745 := n1_; have BK751 := n2_; have BK756 := n3_; have HB := n4_; clear n0_ n1_ n2_ n3_ n4_; (try clear hb)) | ((with_reducible refine gD (N := 14) rfl ?_); refine bE3 14 #[.int .u64 0, .int .u64 0] 55 ?hr ?_; (case hr => first | (go_simp; done) | (go_simp; rfl)); intro gb762 hg w68 hbox hb; have n0_ := aM (bB3 BK740.out hb); have n1_ := aM (bB3 BK745.out hb); have n2_ := aM (bB3 BK751.out hb); have n3_ := aM (bB3 BK756.out hb); have n4_ := aM (bS3 HB.out hb); have n5_ := aM (hbox); have n6_ := aM ((bZ3 hg HB.out)); have n7_ := aM ((bZ3 hg HB.out)); have n8_ := aM ((bL3 hg BK740.out)); have n9_ := aM ((bG3 hg BK740.out)); have n10_ := aM ((bL3 hg BK745.out)); have n11_ := aM ((bG3 hg BK745.out)); have n12_ := aM ((bL3 hg BK751.out)); have n13_ := aM ((bG3 hg BK751.out)); have n14_ := aM ((bL3 hg BK756.out)); have n15_ := aM ((bG3 hg BK756.out)); clear BK740; clear BK745; clear BK751; clear BK756; clear HB; have BK740 := n0_; have BK745 := n1_; have BK751 := n2_; have BK756 := n3_; have HB := n4_; have BK762 := n5_; have GW762 := n6_; have GE762 := n7_; have NB740_762 := n8_; have NB762_740 := n9_; have NB745_762 := n10_; have NB762_745 := n11_; have NB751_762 := n12_; have NB762_751 := n13_; have NB756_762 := n14_; have NB762_756 := n15_; clear n0_ n1_ n2_ n3_ n4_ n5_ n6_ n7_ n8_ n9_ n10_ n11_ n12_ n13_ n14_ n15_; clear hb hbox hg; have hnb69 := NB762_740.out; have hnc69 := NB740_762.out; have hnb70 := NB762_745.out; have hnc70 := NB745_762.out; have hnb71 := NB762_751.out; have hnc71 := NB751_762.out; have hnb72 := NB762_756.out; have hnc72 := NB756_762.out; have hcz73_0 : w68.cell? ⟨gb762, 0, none⟩ = some (.int .u64 0) := (bC BK762.out 0).trans rfl; have hcz73_1 : w68.cell? ⟨gb762, 1, none⟩ = some (.int .u64 0) := (bC BK762.out 1).trans rfl; have hfz73_0 := bF BK762.out 0; have hfz73_1 := bF BK762.out 1; have hnb74 := NB751_740.out; have hnc74 := NB740_751.out; have hnb75 := NB751_745.out; have hnc75 := NB745_751.out; have hcz76_0 : w68.cell? ⟨gb751, 0, none⟩ = some (.int .u64 t748) := (bC BK751.out 0).trans rfl; have hcz76_1 : w68.cell? ⟨gb751, 1, none⟩ = some (.int .u64 t749) := (bC BK751.out 1).trans rfl; have hfz76_0 := bF BK751.out 0; have hfz76_1 := bF BK751.out 1; have hcz77_0 : w68.cell? ⟨gb740, 0, none⟩ = some (.int .u64 a0_0) := (bC BK740.out 0).trans rfl; have hcz77_1 : w68.cell? ⟨gb740, 1, none⟩ = some (.int .u64 a0_1) := (bC BK740.out 1).trans rfl; have hfz77_0 := bF BK740.out 0; have hfz77_1 := bF BK740.out 1; have hcz78_0 : w68.cell? ⟨gb745, 0, none⟩ = some (.int .u64 t743) := (bC BK745.out 0).trans rfl; have hcz78_1 : w68.cell? ⟨gb745, 1, none⟩ = some (.int .u64 t744) := (bC BK745.out 1).trans rfl; have hfz78_0 := bF BK745.out 0; have hfz78_1 := bF BK745.out 1; have hcz79_0 : w68.cell? ⟨gb756, 0, none⟩ = some (.int .u64 t752) := (bC BK756.out 0).trans rfl; have hcz79_1 : w68.cell? ⟨gb756, 1, none⟩ = some (.int .u64 t753) := (bC BK756.out 1).trans rfl; have hfz79_0 := bF BK756.out 0; have hfz79_1 := bF BK756.out 1) | (go_at_call 53; (with_reducible refine (twin_Cmp.calls t743 t744 t752 t753 t764 _ A42.out).mono ?_); rintro e w80 ⟨rfl, hb⟩; have n0_ := aM (bB (g := gb740) (o := .cells #[.int .u64 a0_0, .int .u64 a0_1] 55 (0, 0)) (by (with_reducible repeat (first | refine bN ?_ _ | refine bD ?_ | refine bA ?_ _)); refine blk_far ?_ NB740_762.out _; (with_reducible repeat (first | refine bN ?_ _ | refine bD ?_ | refine bA ?_ _)); refine blk_far ?_ NB740_762.out _; (with_reducible repeat (first | refine bN ?_ _ | refine bD ?_ | refine bA ?_ _)); exact BK740.out) hb); have n1_ := aM (bB (g := gb745) (o := .cells #[.int .u64 t743, .int .u64 t744] 55 (0, 0)) (by (with_reducible repeat (first | refine bN ?_ _ | refine bD ?_ | refine bA ?_ _)); refine blk_far ?_ NB745_762.out _; (with_reducible repeat (first | refine bN ?_ _ | refine bD ?_ | refine bA ?_ _)); refine blk_far ?_ NB745_762.out _; (with_reducible repeat (first | refine bN ?_ _ | refine bD ?_ | refine bA ?_ _)); exact BK745.out) hb); have n2_ := aM (bB (g := gb751) (o := .cells #[.int .u64 t748, .int .u64 t749] 55 (0, 0)) (by (with_reducible repeat (first | refine bN ?_ _ | refine bD ?_ | refine bA ?_ _)); refine blk_far ?_ NB751_762.out _; (with_reducible repeat (first | refine bN ?_ _ | refine bD ?_ | refine bA ?_ _)); refine blk_far ?_ NB751_762.out _; (with_reducible repeat (first | refine bN ?_ _ | refine bD ?_ | refine bA ?_ _)); exact BK751.out) hb); have n3_ := aM (bB (g := gb756) (o := .cells #[.int .u64 t752, .int .u64 t753] 55 (0, 0)) (by (with_reducible repeat (first | refine bN ?_ _ | refine bD ?_ | refine bA ?_ _)); refine blk_far ?_ NB756_762.out _; (with_reducible repeat (first | refine bN ?_ _ | refine bD ?_ | refine bA ?_ _)); refine blk_far ?_ NB756_762.out _; (with_reducible repeat (first | refine bN ?_ _ | refine bD ?_ | refine bA ?_ _)); exact BK756.out) hb); have n4_ := aM (bB (g := gb762) (o := .cells #[.int .u64 t760, .int .u64 t761] 55 (0, 0)) (by (with_reducible repeat (first | refine bN ?_ _ | refine bD ?_ | refine bA ?_ _)); refine blk_put (cs := #[.int .u64 t760, .int .u64 0]) ?_ 1 _ rfl; (with_reducible repeat (first | refine bN ?_ _ | refine bD ?_ | refine bA ?_ _)); refine blk_put (cs := #[.int .u64 0, .int .u64 0]) ?_ 0 _ rfl; (with_reducible repeat (first | refine bN ?_ _ | refine bD ?_ | refine bA ?_ _)); exact BK762.out) hb); have n5_ := aM (bS3 HB.out hb); clear BK740; clear BK745; clear BK751; clear BK756; clear BK762; clear HB; have BK740 := n0_; have BK745 := n1_; have BK751 := n2_; have BK756 := n3_; have BK762 := n4_; have HB := n5_; clear n0_ n1_ n2_ n3_ n4_ n5_; (try clear hb); have hcz81_0 : w80.cell? ⟨gb762, 0, none⟩ = some (.int .u64 t760) := (bC BK762.out 0).trans rfl; have hcz81_1 : w80.cell? ⟨gb762, 1, none⟩ = some (.int .u64 t761) := (bC BK762.out 1).trans rfl; have hfz81_0 := bF BK762.out 0; have hfz81_1 := bF BK762.out 1))
              go_ret
              exact ⟨by first | rfl | (simp [errW_none, errW_some] <;> rfl) | (simp [*, errW_none, errW_some] <;> rfl), by repeat (first | (with_reducible first | exact HB.out | apply pA | apply pN | apply p1 | refine pS ?_ GE740.out | refine pS ?_ GE745.out | refine pS ?_ GE751.out | refine pS ?_ GE756.out | refine pS ?_ GE762.out) | exact HB.out)⟩
            · rw [if_neg c44] at H
              have c44b0 : (t759 == a1) = false := beq_eq_false_iff_ne.mpr c44
              have c44b1 : (t759 != a1) = true := bne_iff_ne.mpr c44
              obtain rfl := Option.some.inj H
              go_enter Try.func14, Try.ntmps14
              try go_wp2_with (first | ((with_reducible refine gD (N := 2) rfl ?_); refine bE3 2 #[.int .u64 a0_0, .int .u64 a0_1] 55 ?hr ?_; (case hr => first | (go_simp; done) | (go_simp; rfl)); intro gb740 hg w82 hbox hb; have n0_ := aM (bS3 HB.out hb); have n1_ := aM (hbox); have n2_ := aM ((bZ3 hg HB.out)); have n3_ := aM ((bZ3 hg HB.out)); clear HB; have HB := n0_; have BK740 := n1_; have GW740 := n2_; have GE740 := n3_; clear n0_ n1_ n2_ n3_; clear hb hbox hg) | ((with_reducible refine gC (f := 43) rfl ?_); refine gY (some 15) Try.func43 #[] ?_; (with_reducible refine (vernierlaw03_up.calls k  true _ A3.out).mono ?_); rintro e w83 ⟨rfl, hb⟩; refine ⟨_, rfl, ?_⟩; have n0_ := aM (bB3 BK740.out hb); have n1_ := aM (bS3 HB.out hb); clear BK740; clear HB; have BK740 := n0_; have HB := n1_; clear n0_ n1_; (try clear hb); have hcz84_0 : w83.cell? ⟨gb740, 0, none⟩ = some (.int .u64 a0_0) := (bC BK740.out 0).trans rfl; have hcz84_1 : w83.cell? ⟨gb740, 1, none⟩ = some (.int .u64 a0_1) := (bC BK740.out 1).trans rfl; have hfz84_0 := bF BK740.out 0; have hfz84_1 := bF BK740.out 1) | ((with_reducible refine gC (f := 46) rfl ?_); refine gY (some 18) Try.func46 #[.agg #[.int .u64 a0_0, .int .u64 a0_1]] ?_; (with_reducible refine (part_Root.calls k a0_0 a0_1 t742 t743 t744 _ A4.out).mono ?_); rintro e w85 ⟨rfl, hb⟩; refine ⟨_, rfl, ?_⟩; have n0_ := aM (bB3 BK740.out hb); have n1_ := aM (bS3 HB.out hb); clear BK740; clear HB; have BK740 := n0_; have HB := n1_; clear n0_ n1_; (try clear hb)) | ((with_reducible refine gD (N := 7) rfl ?_); refine bE3 7 #[.int .u64 0, .int .u64 0] 55 ?hr ?_; (case hr => first | (go_simp; done) | (go_simp; rfl)); intro gb745 hg w86 hbox hb; have n0_ := aM (bB3 BK740.out hb); have n1_ := aM (bS3 HB.out hb); have n2_ := aM (hbox); have n3_ := aM ((bZ3 hg HB.out)); have n4_ := aM ((bZ3 hg HB.out)); have n5_ := aM ((bL3 hg BK740.out)); have n6_ := aM ((bG3 hg BK740.out)); clear BK740; clear HB; have BK740 := n0_; have HB := n1_; have BK745 := n2_; have GW745 := n3_; have GE745 := n4_; have NB740_745 := n5_; have NB745_740 := n6_; clear n0_ n1_ n2_ n3_ n4_ n5_ n6_; clear hb hbox hg; have hnb87 := NB745_740.out; have hnc87 := NB740_745.out; have hcz88_0 : w86.cell? ⟨gb745, 0, none⟩ = some (.int .u64 0) := (bC BK745.out 0).trans rfl; have hcz88_1 : w86.cell? ⟨gb745, 1, none⟩ = some (.int .u64 0) := (bC BK745.out 1).trans rfl; have hfz88_0 := bF BK745.out 0; have hfz88_1 := bF BK745.out 1))
              have n0_ : Aside0 (((w86.setCell ⟨gb745, 0, none⟩ (.int .u64 t743)).setCell ⟨gb745, 1, none⟩ (.int .u64 t744)).heap[gb740]? = some (.cells #[.int .u64 a0_0, .int .u64 a0_1] 55 (0, 0))) := ⟨by (with_reducible repeat (first | refine bN ?_ _ | refine bD ?_ | refine bA ?_ _)); refine blk_far ?_ NB740_745.out _; (with_reducible repeat (first | refine bN ?_ _ | refine bD ?_ | refine bA ?_ _)); refine blk_far ?_ NB740_745.out _; (with_reducible repeat (first | refine bN ?_ _ | refine bD ?_ | refine bA ?_ _)); exact BK740.out⟩
              have n1_ : Aside0 (((w86.setCell ⟨gb745, 0, none⟩ (.int .u64 t743)).setCell ⟨gb745, 1, none⟩ (.int .u64 t744)).heap[gb745]? = some (.cells #[.int .u64 t743, .int .u64 t744] 55 (0, 0))) := ⟨by (with_reducible repeat (first | refine bN ?_ _ | refine bD ?_ | refine bA ?_ _)); refine blk_put (cs := #[.int .u64 t743, .int .u64 0]) ?_ 1 _ rfl; (with_reducible repeat (first | refine bN ?_ _ | refine bD ?_ | refine bA ?_ _)); refine blk_put (cs := #[.int .u64 0, .int .u64 0]) ?_ 0 _ rfl; (with_reducible repeat (first | refine bN ?_ _ | refine bD ?_ | refine bA ?_ _)); exact BK745.out⟩
              have n2_ : Aside0 (Below w.heap.size w ((w86.setCell ⟨gb745, 0, none⟩ (.int .u64 t743)).setCell ⟨gb745, 1, none⟩ (.int .u64 t744))) := ⟨by repeat (first | (with_reducible first | exact HB.out | apply pA | apply pN | apply p1 | refine pS ?_ GE740.out | refine pS ?_ GE745.out) | exact HB.out)⟩
              (try clear BK740)
              (try clear BK745)
              (try clear HB)
              generalize ((w86.setCell ⟨gb745, 0, none⟩ (.int .u64 t743)).setCell ⟨gb745, 1, none⟩ (.int .u64 t744)) = w89 at n0_ n1_ n2_ ⊢
              have BK740 := n0_
              have BK745 := n1_
              have HB := n2_
              clear n0_ n1_ n2_
              have n0_ := aM (bD BK740.out)
              have n1_ := aM (bD BK745.out)
              have n2_ := aM (p1 HB.out)
              clear BK740
              clear BK745
              clear HB
              have BK740 := n0_
              have BK745 := n1_
              have HB := n2_
              clear n0_ n1_ n2_
              refine start_ (n := 11) (S := fun w' => w'.cell? ⟨gb745, 0, none⟩ = some (.int .u64 t743) ∧ w'.cell? ⟨gb745, 1, none⟩ = some (.int .u64 t744)) (ds := []) #[false, false, false, false, false, false, false, false, false, false, false] (by kernel_rfl) rfl rfl ⟨(bC BK745.out 0).trans rfl, (bC BK745.out 1).trans rfl⟩ (fun hHeld => ?_); refine with_tabW vernierlaw03_PartSquare.tab3 vernierlaw03_PartSquare.bits3 (fun HT_ HW_ => ?_)
              generalize w89.drew = w90 at BK740 BK745 HB hHeld ⊢
              refine pure_ (i := 0) (N := some 22) (v := ?_) (a' := ?_) #[true, false, false, false, false, false, false, false, false, false, false] rfl rfl (any_of HT_.out (by kernel_rfl)) (fun _ _ _ h => h) (Or.inl ⟨by rfl, ?_⟩) ?_ ?_
              rotate_left
              · intro w'
                go_simp
                with_reducible rfl
              rotate_left
              · simp only [Act.put, lS, lZ, lC, i64_w, i32_w]
                rfl
              refine pure_ (i := 1) (N := some 23) (v := ?_) (a' := ?_) #[true, true, false, false, false, false, false, false, false, false, false] rfl rfl (any_of HT_.out (by kernel_rfl)) (fun _ _ _ h => h) (Or.inl ⟨by rfl, ?_⟩) ?_ ?_
              rotate_left
              · intro w'
                go_simp
                with_reducible rfl
              rotate_left
              · simp only [Act.put, lS, lZ, lC, i64_w, i32_w]
                rfl
              refine take_ (i := 3) (N := some 25) (v := ?_) (a' := ?_) #[true, true, false, true, false, false, false, false, false, false, false] rfl rfl (take_ofW HT_.out HW_.out (by kernel_rfl)) (fun _ _ _ h => h) (Or.inl ⟨by rfl, ?_⟩) hHeld ?_ ?_
              rotate_left
              · rintro w' ⟨s0, s1⟩
                go_simp
                with_reducible rfl
              rotate_left
              · simp only [Act.put, lS, lZ, lC, i64_w, i32_w]
                rfl
              refine join_ (σ := Nat) 2 #[true, true, true, true, true, true, true, true, true, false, false] (fun s_ => [(24, .agg #[.int .u64 t746, .int .u64 t747]), (26, .tuple #[.agg #[.int .u64 t748, .int .u64 t749], .bool false]), (8, .pointer (some ⟨s_, 0, none⟩)), (21, .tuple #[.agg #[.int .u64 t748, .int .u64 t749], .bool false]), (27, .agg #[.int .u64 t748, .int .u64 t749]), (28, .bool false)]) (fun s_ w' => (w'.cell? ⟨gb745, 0, none⟩ = some (.int .u64 t743) ∧ w'.cell? ⟨gb745, 1, none⟩ = some (.int .u64 t744)) ∧ (w'.heap[gb740]? = some (.cells #[.int .u64 a0_0, .int .u64 a0_1] 55 (0, 0))) ∧ (w'.heap[gb745]? = some (.cells #[.int .u64 t743, .int .u64 t744] 55 (0, 0))) ∧ (w'.heap[s_]? = some (.cells #[.int .u64 0, .int .u64 0] 55 (0, 0))) ∧ (w.heap.size ≤ s_) ∧ (w.heap.size ≤ s_) ∧ (gb740 ≠ s_) ∧ (s_ ≠ gb740) ∧ (gb745 ≠ s_) ∧ (s_ ≠ gb745) ∧ (Below w.heap.size w w')) ?_ ?_
              rotate_left
              · intro hCont
                refine two_ (i := 2) (j := 8) (Ni := some 24) (Nj := some 8) #[true, true, true, true, false, false, false, false, false, false, false] #[true, true, false, true, false, false, false, false, true, false, false] rfl rfl rfl rfl (two_of HT_.out (by kernel_rfl)) (by decide) (by decide) (fun K hK => ?_) (fun K hK => ?_)
                · skip
                  refine goes_ Try.func51 (by kernel_rfl) rfl #[.int .u64 t742, .int .u64 t742] (by rfl) rfl rfl (by (try simp only [List.map_toArray, List.map_cons, List.map_nil]); first | done | rfl | (simp only [List.length_drop, List.length_take]; rfl)) ?_
                  with_reducible refine (twin_Mul.calls t742 t742 t746 t747 _ A5.out).mono ?_
                  rintro e w91 ⟨rfl, hb⟩
                  refine ⟨_, rfl, ?_⟩
                  have n0_ := aM (bB3 BK740.out hb)
                  have n1_ := aM (bB3 BK745.out hb)
                  have n2_ := aM (bS3 HB.out hb)
                  clear BK740
                  clear BK745
                  clear HB
                  have BK740 := n0_
                  have BK745 := n1_
                  have HB := n2_
                  clear n0_ n1_ n2_
                  (try clear hb)
                  (try clear hb2)
                  (try clear hk)
                  (try clear hi)
                  refine hK.out _ _ ⟨(bC BK745.out 0).trans rfl, (bC BK745.out 1).trans rfl⟩ (fun hHeld => ?_)
                  clear hK K
                  refine norm_ (a' := ?_) ?_ ?_
                  rotate_left
                  · show Act.put _ (some 24) _ = _
                    simp only [Act.put, lS, lZ, lC, i64_w, i32_w]
                    rfl
                  refine two_ (i := 4) (j := 8) (Ni := some 26) (Nj := some 8) #[true, true, true, true, true, false, false, false, false, false, false] #[true, true, true, true, false, false, false, false, true, false, false] rfl rfl rfl rfl (two_of HT_.out (by kernel_rfl)) (by decide) (by decide) (fun K hK => ?_) (fun K hK => ?_)
                  · skip
                    refine goes_ Try.func50 (by kernel_rfl) rfl #[.agg #[.int .u64 t746, .int .u64 t747], .agg #[.int .u64 t743, .int .u64 t744]] (by rfl) rfl rfl (by (try simp only [List.map_toArray, List.map_cons, List.map_nil]); first | done | rfl | (simp only [List.length_drop, List.length_take]; rfl)) ?_
                    with_reducible refine (twin_Add.calls t746 t747 t743 t744 t748 t749 false _ A6.out).mono ?_
                    rintro e w92 ⟨rfl, hb⟩
                    refine ⟨_, rfl, ?_⟩
                    have n0_ := aM (bB3 BK740.out hb)
                    have n1_ := aM (bB3 BK745.out hb)
                    have n2_ := aM (bS3 HB.out hb)
                    clear BK740
                    clear BK745
                    clear HB
                    have BK740 := n0_
                    have BK745 := n1_
                    have HB := n2_
                    clear n0_ n1_ n2_
                    (try clear hb)
                    (try clear hb2)
                    (try clear hk)
                    (try clear hi)
                    refine hK.out _ _ ⟨(bC BK745.out 0).trans rfl, (bC BK745.out 1).trans rfl⟩ (fun hHeld => ?_)
                    clear hK K
                    refine norm_ (a' := ?_) ?_ ?_
                    rotate_left
                    · show Act.put _ (some 26) _ = _
                      simp only [Act.put, lS, lZ, lC, i64_w, i32_w]
                      rfl
                    refine pure_ (i := 5) (N := some 21) (v := ?_) (a' := ?_) #[true, true, true, true, true, true, false, false, false, false, false] rfl rfl (any_of HT_.out (by kernel_rfl)) (fun _ _ _ h => h) (Or.inl ⟨by rfl, ?_⟩) ?_ ?_
                    rotate_left
                    · intro w'
                      go_simp
                      with_reducible rfl
                    rotate_left
                    · simp only [Act.put, lS, lZ, lC, i64_w, i32_w]
                      rfl
                    refine pure_ (i := 6) (N := some 27) (v := ?_) (a' := ?_) #[true, true, true, true, true, true, true, false, false, false, false] rfl rfl (any_of HT_.out (by kernel_rfl)) (fun _ _ _ h => h) (Or.inl ⟨by rfl, ?_⟩) ?_ ?_
                    rotate_left
                    · intro w'
                      go_simp
                      with_reducible rfl
                    rotate_left
                    · simp only [Act.put, lS, lZ, lC, i64_w, i32_w]
                      rfl
                    refine pure_ (i := 7) (N := some 28) (v := ?_) (a' := ?_) #[true, true, true, true, true, true, true, true, false, false, false] rfl rfl (any_of HT_.out (by kernel_rfl)) (fun _ _ _ h => h) (Or.inl ⟨by rfl, ?_⟩) ?_ ?_
                    rotate_left
                    · intro w'
                      go_simp
                      with_reducible rfl
                    rotate_left
                    · simp only [Act.put, lS, lZ, lC, i64_w, i32_w]
                      rfl
                    refine one_ (i := 8) (N := some 8) #[true, true, true, true, true, true, true, true, true, false, false] rfl rfl (one_of HT_.out (by kernel_rfl)) (by decide) (fun K hK => ?_)
                    refine box_step ?hg (N := 8) ?hd (cs := #[.int .u64 0, .int .u64 0]) (t := 55) ?hr ?_; (case hd => rfl); (case hg => rfl); (case hr => first | (go_simp; done) | (go_simp; rfl))
                    intro gb751 hg w93 hbox hb
                    have n0_ := aM (bB3 BK740.out hb)
                    have n1_ := aM (bB3 BK745.out hb)
                    have n2_ := aM (bS3 HB.out hb)
                    have n3_ := aM (hbox)
                    have n4_ := aM ((bZ3 hg HB.out))
                    have n5_ := aM ((bZ3 hg HB.out))
                    have n6_ := aM ((bL3 hg BK740.out))
                    have n7_ := aM ((bG3 hg BK740.out))
                    have n8_ := aM ((bL3 hg BK745.out))
                    have n9_ := aM ((bG3 hg BK745.out))
                    clear BK740
                    clear BK745
                    clear HB
                    have BK740 := n0_
                    have BK745 := n1_
                    have HB := n2_
                    have BK751 := n3_
                    have GW751 := n4_
                    have GE751 := n5_
                    have NB740_751 := n6_
                    have NB751_740 := n7_
                    have NB745_751 := n8_
                    have NB751_745 := n9_
                    clear n0_ n1_ n2_ n3_ n4_ n5_ n6_ n7_ n8_ n9_
                    clear hb hbox hg
                    refine hK.out _ _ ⟨(bC BK745.out 0).trans rfl, (bC BK745.out 1).trans rfl⟩ (fun hHeld => ?_)
                    clear hK K
                    refine norm_ (a' := ?_) ?_ ?_
                    rotate_left
                    · show Act.put _ (some 8) _ = _
                      simp only [Act.put, lS, lZ, lC, i64_w, i32_w]
                      rfl
                    exact norm_ (by simp only [putAll, Act.put, lS, lZ, lC]) (hCont (gb751) _ ⟨hHeld, (by (with_reducible repeat (first | refine bN ?_ _ | refine bD ?_ | refine bA ?_ _)); exact BK740.out), (by (with_reducible repeat (first | refine bN ?_ _ | refine bD ?_ | refine bA ?_ _)); exact BK745.out), (by (with_reducible repeat (first | refine bN ?_ _ | refine bD ?_ | refine bA ?_ _)); exact BK751.out), GW751.out, GE751.out, NB740_751.out, NB751_740.out, NB745_751.out, NB751_745.out, (by repeat (first | (with_reducible first | exact HB.out | apply pA | apply pN | apply p1 | refine pS ?_ GE740.out | refine pS ?_ GE745.out | refine pS ?_ GE751.out) | exact HB.out))⟩)
                  · skip
                    refine box_step ?hg (N := 8) ?hd (cs := #[.int .u64 0, .int .u64 0]) (t := 55) ?hr ?_; (case hd => rfl); (case hg => rfl); (case hr => first | (go_simp; done) | (go_simp; rfl))
                    intro gb751 hg w92 hbox hb
                    have n0_ := aM (bB3 BK740.out hb)
                    have n1_ := aM (bB3 BK745.out hb)
                    have n2_ := aM (bS3 HB.out hb)
                    have n3_ := aM (hbox)
                    have n4_ := aM ((bZ3 hg HB.out))
                    have n5_ := aM ((bZ3 hg HB.out))
                    have n6_ := aM ((bL3 hg BK740.out))
                    have n7_ := aM ((bG3 hg BK740.out))
                    have n8_ := aM ((bL3 hg BK745.out))
                    have n9_ := aM ((bG3 hg BK745.out))
                    clear BK740
                    clear BK745
                    clear HB
                    have BK740 := n0_
                    have BK745 := n1_
                    have HB := n2_
                    have BK751 := n3_
                    have GW751 := n4_
                    have GE751 := n5_
                    have NB740_751 := n6_
                    have NB751_740 := n7_
                    have NB745_751 := n8_
                    have NB751_745 := n9_
                    clear n0_ n1_ n2_ n3_ n4_ n5_ n6_ n7_ n8_ n9_
                    clear hb hbox hg
                    refine hK.out _ _ ⟨(bC BK745.out 0).trans rfl, (bC BK745.out 1).trans rfl⟩ (fun hHeld => ?_)
                    clear hK K
                    refine norm_ (a' := ?_) ?_ ?_
                    rotate_left
                    · show Act.put _ (some 8) _ = _
                      simp only [Act.put, lS, lZ, lC, i64_w, i32_w]
                      rfl
                    refine one_ (i := 4) (N := some 26) #[true, true, true, true, true, false, false, false, true, false, false] rfl rfl (one_of HT_.out (by kernel_rfl)) (by decide) (fun K hK => ?_)
                    refine goes_ Try.func50 (by kernel_rfl) rfl #[.agg #[.int .u64 t746, .int .u64 t747], .agg #[.int .u64 t743, .int .u64 t744]] (by rfl) rfl rfl (by (try simp only [List.map_toArray, List.map_cons, List.map_nil]); first | done | rfl | (simp only [List.length_drop, List.length_take]; rfl)) ?_
                    with_reducible refine (twin_Add.calls t746 t747 t743 t744 t748 t749 false _ A6.out).mono ?_
                    rintro e w93 ⟨rfl, hb⟩
                    refine ⟨_, rfl, ?_⟩
                    have n0_ := aM (bB3 BK740.out hb)
                    have n1_ := aM (bB3 BK745.out hb)
                    have n2_ := aM (bB3 BK751.out hb)
                    have n3_ := aM (bS3 HB.out hb)
                    clear BK740
                    clear BK745
                    clear BK751
                    clear HB
                    have BK740 := n0_
                    have BK745 := n1_
                    have BK751 := n2_
                    have HB := n3_
                    clear n0_ n1_ n2_ n3_
                    (try clear hb)
                    (try clear hb2)
                    (try clear hk)
                    (try clear hi)
                    refine hK.out _ _ ⟨(bC BK745.out 0).trans rfl, (bC BK745.out 1).trans rfl⟩ (fun hHeld => ?_)
                    clear hK K
                    refine norm_ (a' := ?_) ?_ ?_
                    rotate_left
                    · show Act.put _ (some 26) _ = _
                      simp only [Act.put, lS, lZ, lC, i64_w, i32_w]
                      rfl
                    refine pure_ (i := 5) (N := some 21) (v := ?_) (a' := ?_) #[true, true, true, true, true, true, false, false, true, false, false] rfl rfl (any_of HT_.out (by kernel_rfl)) (fun _ _ _ h => h) (Or.inl ⟨by rfl, ?_⟩) ?_ ?_
                    rotate_left
                    · intro w'
                      go_simp
                      with_reducible rfl
                    rotate_left
                    · simp only [Act.put, lS, lZ, lC, i64_w, i32_w]
                      rfl
                    refine pure_ (i := 6) (N := some 27) (v := ?_) (a' := ?_) #[true, true, true, true, true, true, true, false, true, false, false] rfl rfl (any_of HT_.out (by kernel_rfl)) (fun _ _ _ h => h) (Or.inl ⟨by rfl, ?_⟩) ?_ ?_
                    rotate_left
                    · intro w'
                      go_simp
                      with_reducible rfl
                    rotate_left
                    · simp only [Act.put, lS, lZ, lC, i64_w, i32_w]
                      rfl
                    refine pure_ (i := 7) (N := some 28) (v := ?_) (a' := ?_) #[true, true, true, true, true, true, true, true, true, false, false] rfl rfl (any_of HT_.out (by kernel_rfl)) (fun _ _ _ h => h) (Or.inl ⟨by rfl, ?_⟩) ?_ ?_
                    rotate_left
                    · intro w'
                      go_simp
                      with_reducible rfl
                    rotate_left
                    · simp only [Act.put, lS, lZ, lC, i64_w, i32_w]
                      rfl
                    exact norm_ (by simp only [putAll, Act.put, lS, lZ, lC]) (hCont (gb751) _ ⟨hHeld, (by (with_reducible repeat (first | refine bN ?_ _ | refine bD ?_ | refine bA ?_ _)); exact BK740.out), (by (with_reducible repeat (first | refine bN ?_ _ | refine bD ?_ | refine bA ?_ _)); exact BK745.out), (by (with_reducible repeat (first | refine bN ?_ _ | refine bD ?_ | refine bA ?_ _)); exact BK751.out), GW751.out, GE751.out, NB740_751.out, NB751_740.out, NB745_751.out, NB751_745.out, (by repeat (first | (with_reducible first | exact HB.out | apply pA | apply pN | apply p1 | refine pS ?_ GE740.out | refine pS ?_ GE745.out | refine pS ?_ GE751.out) | exact HB.out))⟩)
                · skip
                  refine box_step ?hg (N := 8) ?hd (cs := #[.int .u64 0, .int .u64 0]) (t := 55) ?hr ?_; (case hd => rfl); (case hg => rfl); (case hr => first | (go_simp; done) | (go_simp; rfl))
                  intro gb751 hg w91 hbox hb
                  have n0_ := aM (bB3 BK740.out hb)
                  have n1_ := aM (bB3 BK745.out hb)
                  have n2_ := aM (bS3 HB.out hb)
                  have n3_ := aM (hbox)
                  have n4_ := aM ((bZ3 hg HB.out))
                  have n5_ := aM ((bZ3 hg HB.out))
                  have n6_ := aM ((bL3 hg BK740.out))
                  have n7_ := aM ((bG3 hg BK740.out))
                  have n8_ := aM ((bL3 hg BK745.out))
                  have n9_ := aM ((bG3 hg BK745.out))
                  clear BK740
                  clear BK745
                  clear HB
                  have BK740 := n0_
                  have BK745 := n1_
                  have HB := n2_
                  have BK751 := n3_
                  have GW751 := n4_
                  have GE751 := n5_
                  have NB740_751 := n6_
                  have NB751_740 := n7_
                  have NB745_751 := n8_
                  have NB751_745 := n9_
                  clear n0_ n1_ n2_ n3_ n4_ n5_ n6_ n7_ n8_ n9_
                  clear hb hbox hg
                  refine hK.out _ _ ⟨(bC BK745.out 0).trans rfl, (bC BK745.out 1).trans rfl⟩ (fun hHeld => ?_)
                  clear hK K
                  refine norm_ (a' := ?_) ?_ ?_
                  rotate_left
                  · show Act.put _ (some 8) _ = _
                    simp only [Act.put, lS, lZ, lC, i64_w, i32_w]
                    rfl
                  refine one_ (i := 2) (N := some 24) #[true, true, true, true, false, false, false, false, true, false, false] rfl rfl (one_of HT_.out (by kernel_rfl)) (by decide) (fun K hK => ?_)
                  refine goes_ Try.func51 (by kernel_rfl) rfl #[.int .u64 t742, .int .u64 t742] (by rfl) rfl rfl (by (try simp only [List.map_toArray, List.map_cons, List.map_nil]); first | done | rfl | (simp only [List.length_drop, List.length_take]; rfl)) ?_
                  with_reducible refine (twin_Mul.calls t742 t742 t746 t747 _ A5.out).mono ?_
                  rintro e w92 ⟨rfl, hb⟩
                  refine ⟨_, rfl, ?_⟩
                  have n0_ := aM (bB3 BK740.out hb)
                  have n1_ := aM (bB3 BK745.out hb)
                  have n2_ := aM (bB3 BK751.out hb)
                  have n3_ := aM (bS3 HB.out hb)
                  clear BK740
                  clear BK745
                  clear BK751
                  clear HB
                  have BK740 := n0_
                  have BK745 := n1_
                  have BK751 := n2_
                  have HB := n3_
                  clear n0_ n1_ n2_ n3_
                  (try clear hb)
                  (try clear hb2)
                  (try clear hk)
                  (try clear hi)
                  refine hK.out _ _ ⟨(bC BK745.out 0).trans rfl, (bC BK745.out 1).trans rfl⟩ (fun hHeld => ?_)
                  clear hK K
                  refine norm_ (a' := ?_) ?_ ?_
                  rotate_left
                  · show Act.put _ (some 24) _ = _
                    simp only [Act.put, lS, lZ, lC, i64_w, i32_w]
                    rfl
                  refine one_ (i := 4) (N := some 26) #[true, true, true, true, true, false, false, false, true, false, false] rfl rfl (one_of HT_.out (by kernel_rfl)) (by decide) (fun K hK => ?_)
                  refine goes_ Try.func50 (by kernel_rfl) rfl #[.agg #[.int .u64 t746, .int .u64 t747], .agg #[.int .u64 t743, .int .u64 t744]] (by rfl) rfl rfl (by (try simp only [List.map_toArray, List.map_cons, List.map_nil]); first | done | rfl | (simp only [List.length_drop, List.length_take]; rfl)) ?_
                  with_reducible refine (twin_Add.calls t746 t747 t743 t744 t748 t749 false _ A6.out).mono ?_
                  rintro e w93 ⟨rfl, hb⟩
                  refine ⟨_, rfl, ?_⟩
                  have n0_ := aM (bB3 BK740.out hb)
                  have n1_ := aM (bB3 BK745.out hb)
                  have n2_ := aM (bB3 BK751.out hb)
                  have n3_ := aM (bS3 HB.out hb)
                  clear BK740
                  clear BK745
                  clear BK751
                  clear HB
                  have BK740 := n0_
                  have BK745 := n1_
                  have BK751 := n2_
                  have HB := n3_
                  clear n0_ n1_ n2_ n3_
                  (try clear hb)
                  (try clear hb2)
                  (try clear hk)
                  (try clear hi)
                  refine hK.out _ _ ⟨(bC BK745.out 0).trans rfl, (bC BK745.out 1).trans rfl⟩ (fun hHeld => ?_)
                  clear hK K
                  refine norm_ (a' := ?_) ?_ ?_
                  rotate_left
                  · show Act.put _ (some 26) _ = _
                    simp only [Act.put, lS, lZ, lC, i64_w, i32_w]
                    rfl
                  refine pure_ (i := 5) (N := some 21) (v := ?_) (a' := ?_) #[true, true, true, true, true, true, false, false, true, false, false] rfl rfl (any_of HT_.out (by kernel_rfl)) (fun _ _ _ h => h) (Or.inl ⟨by rfl, ?_⟩) ?_ ?_
                  rotate_left
                  · intro w'
                    go_simp
                    with_reducible rfl
                  rotate_left
                  · simp only [Act.put, lS, lZ, lC, i64_w, i32_w]
                    rfl
                  refine pure_ (i := 6) (N := some 27) (v := ?_) (a' := ?_) #[true, true, true, true, true, true, true, false, true, false, false] rfl rfl (any_of HT_.out (by kernel_rfl)) (fun _ _ _ h => h) (Or.inl ⟨by rfl, ?_⟩) ?_ ?_
                  rotate_left
                  · intro w'
                    go_simp
                    with_reducible rfl
                  rotate_left
                  · simp only [Act.put, lS, lZ, lC, i64_w, i32_w]
                    rfl
                  refine pure_ (i := 7) (N := some 28) (v := ?_) (a' := ?_) #[true, true, true, true, true, true, true, true, true, false, false] rfl rfl (any_of HT_.out (by kernel_rfl)) (fun _ _ _ h => h) (Or.inl ⟨by rfl, ?_⟩) ?_ ?_
                  rotate_left
                  · intro w'
                    go_simp
                    with_reducible rfl
                  rotate_left
                  · simp only [Act.put, lS, lZ, lC, i64_w, i32_w]
                    rfl
                  exact norm_ (by simp only [putAll, Act.put, lS, lZ, lC]) (hCont (gb751) _ ⟨hHeld, (by (with_reducible repeat (first | refine bN ?_ _ | refine bD ?_ | refine bA ?_ _)); exact BK740.out), (by (with_reducible repeat (first | refine bN ?_ _ | refine bD ?_ | refine bA ?_ _)); exact BK745.out), (by (with_reducible repeat (first | refine bN ?_ _ | refine bD ?_ | refine bA ?_ _)); exact BK751.out), GW751.out, GE751.out, NB740_751.out, NB751_740.out, NB745_751.out, NB751_745.out, (by repeat (first | (with_reducible first | exact HB.out | apply pA | apply pN | apply p1 | refine pS ?_ GE740.out | refine pS ?_ GE745.out | refine pS ?_ GE751.out) | exact HB.out))⟩)
              rintro gb751 w94 ⟨hS_, h0_, h1_, h2_, h3_, h4_, h5_, h6_, h7_, h8_, h9_⟩
              have n0_ : Aside0 (w94.heap[gb740]? = some (.cells #[.int .u64 a0_0, .int .u64 a0_1] 55 (0, 0))) := ⟨h0_⟩
              have n1_ : Aside0 (w94.heap[gb745]? = some (.cells #[.int .u64 t743, .int .u64 t744] 55 (0, 0))) := ⟨h1_⟩
              have n2_ : Aside0 (w94.heap[gb751]? = some (.cells #[.int .u64 0, .int .u64 0] 55 (0, 0))) := ⟨h2_⟩
              have n3_ : Aside0 (w.heap.size ≤ gb751) := ⟨h3_⟩
              have n4_ : Aside0 (w.heap.size ≤ gb751) := ⟨h4_⟩
              have n5_ : Aside0 (gb740 ≠ gb751) := ⟨h5_⟩
              have n6_ : Aside0 (gb751 ≠ gb740) := ⟨h6_⟩
              have n7_ : Aside0 (gb745 ≠ gb751) := ⟨h7_⟩
              have n8_ : Aside0 (gb751 ≠ gb745) := ⟨h8_⟩
              have n9_ : Aside0 (Below w.heap.size w w94) := ⟨h9_⟩
              clear BK740
              clear BK745
              clear HB
              clear h0_ h1_ h2_ h3_ h4_ h5_ h6_ h7_ h8_ h9_
              have BK740 := n0_
              have BK745 := n1_
              have BK751 := n2_
              have GW751 := n3_
              have GE751 := n4_
              have NB740_751 := n5_
              have NB751_740 := n6_
              have NB745_751 := n7_
              have NB751_745 := n8_
              have HB := n9_
              clear n0_ n1_ n2_ n3_ n4_ n5_ n6_ n7_ n8_ n9_
              have hHeld : w94.cell? ⟨gb745, 0, none⟩ = some (.int .u64 t743) ∧ w94.cell? ⟨gb745, 1, none⟩ = some (.int .u64 t744) := hS_
              refine norm_ (a' := ?_) ?_ ?_
              rotate_left
              · simp only [putAll, Act.put, lS, lZ, lC]
                rfl
              refine one_ (i := 9) (N := none) #[true, true, true, true, true, true, true, true, true, true, false] rfl rfl (one_of HT_.out (by kernel_rfl)) (by decide) (fun K hK => ?_)
              have hs95 : w94.cell? ⟨gb751, 0, none⟩ = some (.int .u64 0) := (bC BK751.out 0).trans rfl
              have hfs95 := bF BK751.out 0
              have hns95_0 := NB740_751.out
              have hns95_1 := NB745_751.out
              have hms95_0 := NB751_740.out
              have hms95_1 := NB751_745.out
              have hs96 : w94.cell? ⟨gb751, 1, none⟩ = some (.int .u64 0) := (bC BK751.out 1).trans rfl
              have hfs96 := bF BK751.out 1
              have hns96_0 := NB740_751.out
              have hns96_1 := NB745_751.out
              have hms96_0 := NB751_740.out
              have hms96_1 := NB751_745.out
              refine skip_ (w1 := ?_) (by rfl) rfl ?_ ?_
              rotate_left
              · go_simp
                rfl
              refine hK.out _ _ ⟨((cell_far (p := ⟨gb751, _, none⟩) NB745_751.out _).trans (((cell_far (p := ⟨gb751, _, none⟩) NB745_751.out _).trans (hHeld.1)))), ((cell_far (p := ⟨gb751, _, none⟩) NB745_751.out _).trans (((cell_far (p := ⟨gb751, _, none⟩) NB745_751.out _).trans (hHeld.2))))⟩ (fun hHeld => ?_)
              clear hK K
              refine pure_ (i := 10) (N := some 9) (v := ?_) (a' := ?_) #[true, true, true, true, true, true, true, true, true, true, true] rfl rfl (any_of HT_.out (by kernel_rfl)) (fun _ _ _ h => h) (Or.inl ⟨by rfl, ?_⟩) ?_ ?_
              rotate_left
              · intro w'
                go_simp
                with_reducible rfl
              rotate_left
              · simp only [Act.put, lS, lZ, lC, i64_w, i32_w]
                rfl
              refine done_ (done_of HT_.out (by kernel_rfl)) ?_
              try go_wp2_with (first | ((with_reducible refine gC (f := 52) rfl ?_); refine gY (some 32) Try.func52 #[.agg #[.int .u64 0, .int .u64 t742], .int .i64 1] ?_; (with_reducible refine (twin_Shl.calls k 0 t742 1 t752 t753 t754 none _ A7.out).mono ?_); rintro e w97 ⟨rfl, hb⟩; refine ⟨_, rfl, ?_⟩; have n0_ := aM (bB (g := gb740) (o := .cells #[.int .u64 a0_0, .int .u64 a0_1] 55 (0, 0)) (by (with_reducible repeat (first | refine bN ?_ _ | refine bD ?_ | refine bA ?_ _)); refine blk_far ?_ NB740_751.out _; (with_reducible repeat (first | refine bN ?_ _ | refine bD ?_ | refine bA ?_ _)); refine blk_far ?_ NB740_751.out _; (with_reducible repeat (first | refine bN ?_ _ | refine bD ?_ | refine bA ?_ _)); exact BK740.out) hb); have n1_ := aM (bB (g := gb745) (o := .cells #[.int .u64 t743, .int .u64 t744] 55 (0, 0)) (by (with_reducible repeat (first | refine bN ?_ _ | refine bD ?_ | refine bA ?_ _)); refine blk_far ?_ NB745_751.out _; (with_reducible repeat (first | refine bN ?_ _ | refine bD ?_ | refine bA ?_ _)); refine blk_far ?_ NB745_751.out _; (with_reducible repeat (first | refine bN ?_ _ | refine bD ?_ | refine bA ?_ _)); exact BK745.out) hb); have n2_ := aM (bB (g := gb751) (o := .cells #[.int .u64 t748, .int .u64 t749] 55 (0, 0)) (by (with_reducible repeat (first | refine bN ?_ _ | refine bD ?_ | refine bA ?_ _)); refine blk_put (cs := #[.int .u64 t748, .int .u64 0]) ?_ 1 _ rfl; (with_reducible repeat (first | refine bN ?_ _ | refine bD ?_ | refine bA ?_ _)); refine blk_put (cs := #[.int .u64 0, .int .u64 0]) ?_ 0 _ rfl; (with_reducible repeat (first | refine bN ?_ _ | refine bD ?_ | refine bA ?_ _)); exact BK751.out) hb); have n3_ := aM (bS3 HB.out hb); clear BK740; clear BK745; clear BK751; clear HB; have BK740 := n0_; have BK745 := n1_; have BK751 := n2_; have HB := n3_; clear n0_ n1_ n2_ n3_; (try clear hb); (try simp only [errW_none, errW_some])) | ((with_reducible refine gD (N := 10) rfl ?_); refine bE3 10 #[.int .u64 0, .int .u64 0] 55 ?hr ?_; (case hr => first | (go_simp; done) | (go_simp; rfl)); intro gb756 hg w98 hbox hb; have n0_ := aM (bB3 BK740.out hb); have n1_ := aM (bB3 BK745.out hb); have n2_ := aM (bB3 BK751.out hb); have n3_ := aM (bS3 HB.out hb); have n4_ := aM (hbox); have n5_ := aM ((bZ3 hg HB.out)); have n6_ := aM ((bZ3 hg HB.out)); have n7_ := aM ((bL3 hg BK740.out)); have n8_ := aM ((bG3 hg BK740.out)); have n9_ := aM ((bL3 hg BK745.out)); have n10_ := aM ((bG3 hg BK745.out)); have n11_ := aM ((bL3 hg BK751.out)); have n12_ := aM ((bG3 hg BK751.out)); clear BK740; clear BK745; clear BK751; clear HB; have BK740 := n0_; have BK745 := n1_; have BK751 := n2_; have HB := n3_; have BK756 := n4_; have GW756 := n5_; have GE756 := n6_; have NB740_756 := n7_; have NB756_740 := n8_; have NB745_756 := n9_; have NB756_745 := n10_; have NB751_756 := n11_; have NB756_751 := n12_; clear n0_ n1_ n2_ n3_ n4_ n5_ n6_ n7_ n8_ n9_ n10_ n11_ n12_; clear hb hbox hg; have hnb99 := NB756_740.out; have hnc99 := NB740_756.out; have hnb100 := NB756_745.out; have hnc100 := NB745_756.out; have hnb101 := NB756_751.out; have hnc101 := NB751_756.out; have hcz102_0 : w98.cell? ⟨gb756, 0, none⟩ = some (.int .u64 0) := (bC BK756.out 0).trans rfl; have hcz102_1 : w98.cell? ⟨gb756, 1, none⟩ = some (.int .u64 0) := (bC BK756.out 1).trans rfl; have hfz102_0 := bF BK756.out 0; have hfz102_1 := bF BK756.out 1) | ((with_reducible refine gC (f := 51) rfl ?_); refine gY (some 39) Try.func51 #[.int .u64 a1, .int .u64 a1] ?_; (with_reducible refine (twin_Mul.calls a1 a1 t757 t758 _ A8.out).mono ?_); rintro e w103 ⟨rfl, hb⟩; refine ⟨_, rfl, ?_⟩; have n0_ := aM (bB (g := gb740) (o := .cells #[.int .u64 a0_0, .int .u64 a0_1] 55 (0, 0)) (by (with_reducible repeat (first | refine bN ?_ _ | refine bD ?_ | refine bA ?_ _)); refine blk_far ?_ NB740_756.out _; (with_reducible repeat (first | refine bN ?_ _ | refine bD ?_ | refine bA ?_ _)); refine blk_far ?_ NB740_756.out _; (with_reducible repeat (first | refine bN ?_ _ | refine bD ?_ | refine bA ?_ _)); exact BK740.out) hb); have n1_ := aM (bB (g := gb745) (o := .cells #[.int .u64 t743, .int .u64 t744] 55 (0, 0)) (by (with_reducible repeat (first | refine bN ?_ _ | refine bD ?_ | refine bA ?_ _)); refine blk_far ?_ NB745_756.out _; (with_reducible repeat (first | refine bN ?_ _ | refine bD ?_ | refine bA ?_ _)); refine blk_far ?_ NB745_756.out _; (with_reducible repeat (first | refine bN ?_ _ | refine bD ?_ | refine bA ?_ _)); exact BK745.out) hb); have n2_ := aM (bB (g := gb751) (o := .cells #[.int .u64 t748, .int .u64 t749] 55 (0, 0)) (by (with_reducible repeat (first | refine bN ?_ _ | refine bD ?_ | refine bA ?_ _)); refine blk_far ?_ NB751_756.out _; (with_reducible repeat (first | refine bN ?_ _ | refine bD ?_ | refine bA ?_ _)); refine blk_far ?_ NB751_756.out _; (with_reducible repeat (first | refine bN ?_ _ | refine bD ?_ | refine bA ?_ _)); exact BK751.out) hb); have n3_ := aM (bB (g := gb756) (o := .cells #[.int .u64 t752, .int .u64 t753] 55 (0, 0)) (by (with_reducible repeat (first | refine bN ?_ _ | refine bD ?_ | refine bA ?_ _)); refine blk_put (cs := #[.int .u64 t752, .int .u64 0]) ?_ 1 _ rfl; (with_reducible repeat (first | refine bN ?_ _ | refine bD ?_ | refine bA ?_ _)); refine blk_put (cs := #[.int .u64 0, .int .u64 0]) ?_ 0 _ rfl; (with_reducible repeat (first | refine bN ?_ _ | refine bD ?_ | refine bA ?_ _)); exact BK756.out) hb); have n4_ := aM (bS3 HB.out hb); clear BK740; clear BK745; clear BK751; clear BK756; clear HB; have BK740 := n0_; have BK745 := n1_; have BK751 := n2_; have BK756 := n3_; have HB := n4_; clear n0_ n1_ n2_ n3_ n4_; (try clear hb)) | ((with_reducible refine gC (f := 46) rfl ?_); refine gY (some 40) Try.func46 #[.agg #[.int .u64 t757, .int .u64 t758]] ?_; (with_reducible refine (part_Root.calls k t757 t758 t759 t760 t761 _ A9.out).mono ?_); rintro e w104 ⟨rfl, hb⟩; refine ⟨_, rfl, ?_⟩; have n0_ := aM (bB3 BK740.out hb); have n1_ := aM (bB3 BK745.out hb); have n2_ := aM (bB3 BK751.out hb); have n3_ := aM (bB3 BK756.out hb); have n4_ := aM (bS3 HB.out hb); clear BK740; clear BK745; clear BK751; clear BK756; clear HB; have BK740 := n0_; have BK745 := n1_; have BK751 := n2_; have BK756 := n3_; have HB := n4_; clear n0_ n1_ n2_ n3_ n4_; (try clear hb)) | ((with_reducible refine gD (N := 14) rfl ?_); refine bE3 14 #[.int .u64 0, .int .u64 0] 55 ?hr ?_; (case hr => first | (go_simp; done) | (go_simp; rfl)); intro gb762 hg w105 hbox hb; have n0_ := aM (bB3 BK740.out hb); have n1_ := aM (bB3 BK745.out hb); have n2_ := aM (bB3 BK751.out hb); have n3_ := aM (bB3 BK756.out hb); have n4_ := aM (bS3 HB.out hb); have n5_ := aM (hbox); have n6_ := aM ((bZ3 hg HB.out)); have n7_ := aM ((bZ3 hg HB.out)); have n8_ := aM ((bL3 hg BK740.out)); have n9_ := aM ((bG3 hg BK740.out)); have n10_ := aM ((bL3 hg BK745.out)); have n11_ := aM ((bG3 hg BK745.out)); have n12_ := aM ((bL3 hg BK751.out)); have n13_ := aM ((bG3 hg BK751.out)); have n14_ := aM ((bL3 hg BK756.out)); have n15_ := aM ((bG3 hg BK756.out)); clear BK740; clear BK745; clear BK751; clear BK756; clear HB; have BK740 := n0_; have BK745 := n1_; have BK751 := n2_; have BK756 := n3_; have HB := n4_; have BK762 := n5_; have GW762 := n6_; have GE762 := n7_; have NB740_762 := n8_; have NB762_740 := n9_; have NB745_762 := n10_; have NB762_745 := n11_; have NB751_762 := n12_; have NB762_751 := n13_; have NB756_762 := n14_; have NB762_756 := n15_; clear n0_ n1_ n2_ n3_ n4_ n5_ n6_ n7_ n8_ n9_ n10_ n11_ n12_ n13_ n14_ n15_; clear hb hbox hg; have hnb106 := NB762_740.out; have hnc106 := NB740_762.out; have hnb107 := NB762_745.out; have hnc107 := NB745_762.out; have hnb108 := NB762_751.out; have hnc108 := NB751_762.out; have hnb109 := NB762_756.out; have hnc109 := NB756_762.out; have hcz110_0 : w105.cell? ⟨gb762, 0, none⟩ = some (.int .u64 0) := (bC BK762.out 0).trans rfl; have hcz110_1 : w105.cell? ⟨gb762, 1, none⟩ = some (.int .u64 0) := (bC BK762.out 1).trans rfl; have hfz110_0 := bF BK762.out 0; have hfz110_1 := bF BK762.out 1; have hnb111 := NB751_740.out; have hnc111 := NB740_751.out; have hnb112 := NB751_745.out; have hnc112 := NB745_751.out; have hcz113_0 : w105.cell? ⟨gb751, 0, none⟩ = some (.int .u64 t748) := (bC BK751.out 0).trans rfl; have hcz113_1 : w105.cell? ⟨gb751, 1, none⟩ = some (.int .u64 t749) := (bC BK751.out 1).trans rfl; have hfz113_0 := bF BK751.out 0; have hfz113_1 := bF BK751.out 1; have hcz114_0 : w105.cell? ⟨gb740, 0, none⟩ = some (.int .u64 a0_0) := (bC BK740.out 0).trans rfl; have hcz114_1 : w105.cell? ⟨gb740, 1, none⟩ = some (.int .u64 a0_1) := (bC BK740.out 1).trans rfl; have hfz114_0 := bF BK740.out 0; have hfz114_1 := bF BK740.out 1; have hcz115_0 : w105.cell? ⟨gb745, 0, none⟩ = some (.int .u64 t743) := (bC BK745.out 0).trans rfl; have hcz115_1 : w105.cell? ⟨gb745, 1, none⟩ = some (.int .u64 t744) := (bC BK745.out 1).trans rfl; have hfz115_0 := bF BK745.out 0; have hfz115_1 := bF BK745.out 1; have hcz116_0 : w105.cell? ⟨gb756, 0, none⟩ = some (.int .u64 t752) := (bC BK756.out 0).trans rfl; have hcz116_1 : w105.cell? ⟨gb756, 1, none⟩ = some (.int .u64 t753) := (bC BK756.out 1).trans rfl; have hfz116_0 := bF BK756.out 0; have hfz116_1 := bF BK756.out 1) | (go_at_call 53; (with_reducible refine (twin_Cmp.calls t743 t744 t752 t753 t764 _ A42.out).mono ?_); rintro e w117 ⟨rfl, hb⟩; have n0_ := aM (bB (g := gb740) (o := .cells #[.int .u64 a0_0, .int .u64 a0_1] 55 (0, 0)) (by (with_reducible repeat (first | refine bN ?_ _ | refine bD ?_ | refine bA ?_ _)); refine blk_far ?_ NB740_762.out _; (with_reducible repeat (first | refine bN ?_ _ | refine bD ?_ | refine bA ?_ _)); refine blk_far ?_ NB740_762.out _; (with_reducible repeat (first | refine bN ?_ _ | refine bD ?_ | refine bA ?_ _)); exact BK740.out) hb); have n1_ := aM (bB (g := gb745) (o := .cells #[.int .u64 t743, .int .u64 t744] 55 (0, 0)) (by (with_reducible repeat (first | refine bN ?_ _ | refine bD ?_ | refine bA ?_ _)); refine blk_far ?_ NB745_762.out _; (with_reducible repeat (first | refine bN ?_ _ | refine bD ?_ | refine bA ?_ _)); refine blk_far ?_ NB745_762.out _; (with_reducible repeat (first | refine bN ?_ _ | refine bD ?_ | refine bA ?_ _)); exact BK745.out) hb); have n2_ := aM (bB (g := gb751) (o := .cells #[.int .u64 t748, .int .u64 t749] 55 (0, 0)) (by (with_reducible repeat (first | refine bN ?_ _ | refine bD ?_ | refine bA ?_ _)); refine blk_far ?_ NB751_762.out _; (with_reducible repeat (first | refine bN ?_ _ | refine bD ?_ | refine bA ?_ _)); refine blk_far ?_ NB751_762.out _; (with_reducible repeat (first | refine bN ?_ _ | refine bD ?_ | refine bA ?_ _)); exact BK751.out) hb); have n3_ := aM (bB (g := gb756) (o := .cells #[.int .u64 t752, .int .u64 t753] 55 (0, 0)) (by (with_reducible repeat (first | refine bN ?_ _ | refine bD ?_ | refine bA ?_ _)); refine blk_far ?_ NB756_762.out _; (with_reducible repeat (first | refine bN ?_ _ | refine bD ?_ | refine bA ?_ _)); refine blk_far ?_ NB756_762.out _; (with_reducible repeat (first | refine bN ?_ _ | refine bD ?_ | refine bA ?_ _)); exact BK756.out) hb); have n4_ := aM (bB (g := gb762) (o := .cells #[.int .u64 t760, .int .u64 t761] 55 (0, 0)) (by (with_reducible repeat (first | refine bN ?_ _ | refine bD ?_ | refine bA ?_ _)); refine blk_put (cs := #[.int .u64 t760, .int .u64 0]) ?_ 1 _ rfl; (with_reducible repeat (first | refine bN ?_ _ | refine bD ?_ | refine bA ?_ _)); refine blk_put (cs := #[.int .u64 0, .int .u64 0]) ?_ 0 _ rfl; (with_reducible repeat (first | refine bN ?_ _ | refine bD ?_ | refine bA ?_ _)); exact BK762.out) hb); have n5_ := aM (bS3 HB.out hb); clear BK740; clear BK745; clear BK751; clear BK756; clear BK762; clear HB; have BK740 := n0_; have BK745 := n1_; have BK751 := n2_; have BK756 := n3_; have BK762 := n4_; have HB := n5_; clear n0_ n1_ n2_ n3_ n4_ n5_; (try clear hb)))
              go_ret
              exact ⟨by first | rfl | (simp [errW_none, errW_some] <;> rfl) | (simp [*, errW_none, errW_some] <;> rfl), by repeat (first | (with_reducible first | exact HB.out | apply pA | apply pN | apply p1 | refine pS ?_ GE740.out | refine pS ?_ GE745.out | refine pS ?_ GE751.out | refine pS ?_ GE756.out | refine pS ?_ GE762.out) | exact HB.out)⟩
          · rw [if_neg c43] at H
            have c43b0 : decide (t764 ≤ 0) = false := decide_eq_false c43
            clear c43
            obtain rfl := Option.some.inj H
            go_enter Try.func14, Try.ntmps14
            try go_wp2_with (first | ((with_reducible refine gD (N := 2) rfl ?_); refine bE3 2 #[.int .u64 a0_0, .int .u64 a0_1] 55 ?hr ?_; (case hr => first | (go_simp; done) | (go_simp; rfl)); intro gb740 hg w118 hbox hb; have n0_ := aM (bS3 HB.out hb); have n1_ := aM (hbox); have n2_ := aM ((bZ3 hg HB.out)); have n3_ := aM ((bZ3 hg HB.out)); clear HB; have HB := n0_; have BK740 := n1_; have GW740 := n2_; have GE740 := n3_; clear n0_ n1_ n2_ n3_; clear hb hbox hg) | ((with_reducible refine gC (f := 43) rfl ?_); refine gY (some 15) Try.func43 #[] ?_; (with_reducible refine (vernierlaw03_up.calls k  true _ A3.out).mono ?_); rintro e w119 ⟨rfl, hb⟩; refine ⟨_, rfl, ?_⟩; have n0_ := aM (bB3 BK740.out hb); have n1_ := aM (bS3 HB.out hb); clear BK740; clear HB; have BK740 := n0_; have HB := n1_; clear n0_ n1_; (try clear hb); have hcz120_0 : w119.cell? ⟨gb740, 0, none⟩ = some (.int .u64 a0_0) := (bC BK740.out 0).trans rfl; have hcz120_1 : w119.cell? ⟨gb740, 1, none⟩ = some (.int .u64 a0_1) := (bC BK740.out 1).trans rfl; have hfz120_0 := bF BK740.out 0; have hfz120_1 := bF BK740.out 1) | ((with_reducible refine gC (f := 46) rfl ?_); refine gY (some 18) Try.func46 #[.agg #[.int .u64 a0_0, .int .u64 a0_1]] ?_; (with_reducible refine (part_Root.calls k a0_0 a0_1 t742 t743 t744 _ A4.out).mono ?_); rintro e w121 ⟨rfl, hb⟩; refine ⟨_, rfl, ?_⟩; have n0_ := aM (bB3 BK740.out hb); have n1_ := aM (bS3 HB.out hb); clear BK740; clear HB; have BK740 := n0_; have HB := n1_; clear n0_ n1_; (try clear hb)) | ((with_reducible refine gD (N := 7) rfl ?_); refine bE3 7 #[.int .u64 0, .int .u64 0] 55 ?hr ?_; (case hr => first | (go_simp; done) | (go_simp; rfl)); intro gb745 hg w122 hbox hb; have n0_ := aM (bB3 BK740.out hb); have n1_ := aM (bS3 HB.out hb); have n2_ := aM (hbox); have n3_ := aM ((bZ3 hg HB.out)); have n4_ := aM ((bZ3 hg HB.out)); have n5_ := aM ((bL3 hg BK740.out)); have n6_ := aM ((bG3 hg BK740.out)); clear BK740; clear HB; have BK740 := n0_; have HB := n1_; have BK745 := n2_; have GW745 := n3_; have GE745 := n4_; have NB740_745 := n5_; have NB745_740 := n6_; clear n0_ n1_ n2_ n3_ n4_ n5_ n6_; clear hb hbox hg; have hnb123 := NB745_740.out; have hnc123 := NB740_745.out; have hcz124_0 : w122.cell? ⟨gb745, 0, none⟩ = some (.int .u64 0) := (bC BK745.out 0).trans rfl; have hcz124_1 : w122.cell? ⟨gb745, 1, none⟩ = some (.int .u64 0) := (bC BK745.out 1).trans rfl; have hfz124_0 := bF BK745.out 0; have hfz124_1 := bF BK745.out 1))
            have n0_ : Aside0 (((w122.setCell ⟨gb745, 0, none⟩ (.int .u64 t743)).setCell ⟨gb745, 1, none⟩ (.int .u64 t744)).heap[gb740]? = some (.cells #[.int .u64 a0_0, .int .u64 a0_1] 55 (0, 0))) := ⟨by (with_reducible repeat (first | refine bN ?_ _ | refine bD ?_ | refine bA ?_ _)); refine blk_far ?_ NB740_745.out _; (with_reducible repeat (first | refine bN ?_ _ | refine bD ?_ | refine bA ?_ _)); refine blk_far ?_ NB740_745.out _; (with_reducible repeat (first | refine bN ?_ _ | refine bD ?_ | refine bA ?_ _)); exact BK740.out⟩
            have n1_ : Aside0 (((w122.setCell ⟨gb745, 0, none⟩ (.int .u64 t743)).setCell ⟨gb745, 1, none⟩ (.int .u64 t744)).heap[gb745]? = some (.cells #[.int .u64 t743, .int .u64 t744] 55 (0, 0))) := ⟨by (with_reducible repeat (first | refine bN ?_ _ | refine bD ?_ | refine bA ?_ _)); refine blk_put (cs := #[.int .u64 t743, .int .u64 0]) ?_ 1 _ rfl; (with_reducible repeat (first | refine bN ?_ _ | refine bD ?_ | refine bA ?_ _)); refine blk_put (cs := #[.int .u64 0, .int .u64 0]) ?_ 0 _ rfl; (with_reducible repeat (first | refine bN ?_ _ | refine bD ?_ | refine bA ?_ _)); exact BK745.out⟩
            have n2_ : Aside0 (Below w.heap.size w ((w122.setCell ⟨gb745, 0, none⟩ (.int .u64 t743)).setCell ⟨gb745, 1, none⟩ (.int .u64 t744))) := ⟨by repeat (first | (with_reducible first | exact HB.out | apply pA | apply pN | apply p1 | refine pS ?_ GE740.out | refine pS ?_ GE745.out) | exact HB.out)⟩
            (try clear BK740)
            (try clear BK745)
            (try clear HB)
            generalize ((w122.setCell ⟨gb745, 0, none⟩ (.int .u64 t743)).setCell ⟨gb745, 1, none⟩ (.int .u64 t744)) = w125 at n0_ n1_ n2_ ⊢
            have BK740 := n0_
            have BK745 := n1_
            have HB := n2_
            clear n0_ n1_ n2_
            have n0_ := aM (bD BK740.out)
            have n1_ := aM (bD BK745.out)
            have n2_ := aM (p1 HB.out)
            clear BK740
            clear BK745
            clear HB
            have BK740 := n0_
            have BK745 := n1_
            have HB := n2_
            clear n0_ n1_ n2_
            refine start_ (n := 11) (S := fun w' => w'.cell? ⟨gb745, 0, none⟩ = some (.int .u64 t743) ∧ w'.cell? ⟨gb745, 1, none⟩ = some (.int .u64 t744)) (ds := []) #[false, false, false, false, false, false, false, false, false, false, false] (by kernel_rfl) rfl rfl ⟨(bC BK745.out 0).trans rfl, (bC BK745.out 1).trans rfl⟩ (fun hHeld => ?_); refine with_tabW vernierlaw03_PartSquare.tab3 vernierlaw03_PartSquare.bits3 (fun HT_ HW_ => ?_)
            generalize w125.drew = w126 at BK740 BK745 HB hHeld ⊢
            refine pure_ (i := 0) (N := some 22) (v := ?_) (a' := ?_) #[true, false, false, false, false, false, false, false, false, false, false] rfl rfl (any_of HT_.out (by kernel_rfl)) (fun _ _ _ h => h) (Or.inl ⟨by rfl, ?_⟩) ?_ ?_
            rotate_left
            · intro w'
              go_simp
              with_reducible rfl
            rotate_left
            · simp only [Act.put, lS, lZ, lC, i64_w, i32_w]
              rfl
            refine pure_ (i := 1) (N := some 23) (v := ?_) (a' := ?_) #[true, true, false, false, false, false, false, false, false, false, false] rfl rfl (any_of HT_.out (by kernel_rfl)) (fun _ _ _ h => h) (Or.inl ⟨by rfl, ?_⟩) ?_ ?_
            rotate_left
            · intro w'
              go_simp
              with_reducible rfl
            rotate_left
            · simp only [Act.put, lS, lZ, lC, i64_w, i32_w]
              rfl
            refine take_ (i := 3) (N := some 25) (v := ?_) (a' := ?_) #[true, true, false, true, false, false, false, false, false, false, false] rfl rfl (take_ofW HT_.out HW_.out (by kernel_rfl)) (fun _ _ _ h => h) (Or.inl ⟨by rfl, ?_⟩) hHeld ?_ ?_
            rotate_left
            · rintro w' ⟨s0, s1⟩
              go_simp
              with_reducible rfl
            rotate_left
            · simp only [Act.put, lS, lZ, lC, i64_w, i32_w]
              rfl
            refine join_ (σ := Nat) 2 #[true, true, true, true, true, true, true, true, true, false, false] (fun s_ => [(24, .agg #[.int .u64 t746, .int .u64 t747]), (26, .tuple #[.agg #[.int .u64 t748, .int .u64 t749], .bool false]), (8, .pointer (some ⟨s_, 0, none⟩)), (21, .tuple #[.agg #[.int .u64 t748, .int .u64 t749], .bool false]), (27, .agg #[.int .u64 t748, .int .u64 t749]), (28, .bool false)]) (fun s_ w' => (w'.cell? ⟨gb745, 0, none⟩ = some (.int .u64 t743) ∧ w'.cell? ⟨gb745, 1, none⟩ = some (.int .u64 t744)) ∧ (w'.heap[gb740]? = some (.cells #[.int .u64 a0_0, .int .u64 a0_1] 55 (0, 0))) ∧ (w'.heap[gb745]? = some (.cells #[.int .u64 t743, .int .u64 t744] 55 (0, 0))) ∧ (w'.heap[s_]? = some (.cells #[.int .u64 0, .int .u64 0] 55 (0, 0))) ∧ (w.heap.size ≤ s_) ∧ (w.heap.size ≤ s_) ∧ (gb740 ≠ s_) ∧ (s_ ≠ gb740) ∧ (gb745 ≠ s_) ∧ (s_ ≠ gb745) ∧ (Below w.heap.size w w')) ?_ ?_
            rotate_left
            · intro hCont
              refine two_ (i := 2) (j := 8) (Ni := some 24) (Nj := some 8) #[true, true, true, true, false, false, false, false, false, false, false] #[true, true, false, true, false, false, false, false, true, false, false] rfl rfl rfl rfl (two_of HT_.out (by kernel_rfl)) (by decide) (by decide) (fun K hK => ?_) (fun K hK => ?_)
              · skip
                refine goes_ Try.func51 (by kernel_rfl) rfl #[.int .u64 t742, .int .u64 t742] (by rfl) rfl rfl (by (try simp only [List.map_toArray, List.map_cons, List.map_nil]); first | done | rfl | (simp only [List.length_drop, List.length_take]; rfl)) ?_
                with_reducible refine (twin_Mul.calls t742 t742 t746 t747 _ A5.out).mono ?_
                rintro e w127 ⟨rfl, hb⟩
                refine ⟨_, rfl, ?_⟩
                have n0_ := aM (bB3 BK740.out hb)
                have n1_ := aM (bB3 BK745.out hb)
                have n2_ := aM (bS3 HB.out hb)
                clear BK740
                clear BK745
                clear HB
                have BK740 := n0_
                have BK745 := n1_
                have HB := n2_
                clear n0_ n1_ n2_
                (try clear hb)
                (try clear hb2)
                (try clear hk)
                (try clear hi)
                refine hK.out _ _ ⟨(bC BK745.out 0).trans rfl, (bC BK745.out 1).trans rfl⟩ (fun hHeld => ?_)
                clear hK K
                refine norm_ (a' := ?_) ?_ ?_
                rotate_left
                · show Act.put _ (some 24) _ = _
                  simp only [Act.put, lS, lZ, lC, i64_w, i32_w]
                  rfl
                refine two_ (i := 4) (j := 8) (Ni := some 26) (Nj := some 8) #[true, true, true, true, true, false, false, false, false, false, false] #[true, true, true, true, false, false, false, false, true, false, false] rfl rfl rfl rfl (two_of HT_.out (by kernel_rfl)) (by decide) (by decide) (fun K hK => ?_) (fun K hK => ?_)
                · skip
                  refine goes_ Try.func50 (by kernel_rfl) rfl #[.agg #[.int .u64 t746, .int .u64 t747], .agg #[.int .u64 t743, .int .u64 t744]] (by rfl) rfl rfl (by (try simp only [List.map_toArray, List.map_cons, List.map_nil]); first | done | rfl | (simp only [List.length_drop, List.length_take]; rfl)) ?_
                  with_reducible refine (twin_Add.calls t746 t747 t743 t744 t748 t749 false _ A6.out).mono ?_
                  rintro e w128 ⟨rfl, hb⟩
                  refine ⟨_, rfl, ?_⟩
                  have n0_ := aM (bB3 BK740.out hb)
                  have n1_ := aM (bB3 BK745.out hb)
                  have n2_ := aM (bS3 HB.out hb)
                  clear BK740
                  clear BK745
                  clear HB
                  have BK740 := n0_
                  have BK745 := n1_
                  have HB := n2_
                  clear n0_ n1_ n2_
                  (try clear hb)
                  (try clear hb2)
                  (try clear hk)
                  (try clear hi)
                  refine hK.out _ _ ⟨(bC BK745.out 0).trans rfl, (bC BK745.out 1).trans rfl⟩ (fun hHeld => ?_)
                  clear hK K
                  refine norm_ (a' := ?_) ?_ ?_
                  rotate_left
                  · show Act.put _ (some 26) _ = _
                    simp only [Act.put, lS, lZ, lC, i64_w, i32_w]
                    rfl
                  refine pure_ (i := 5) (N := some 21) (v := ?_) (a' := ?_) #[true, true, true, true, true, true, false, false, false, false, false] rfl rfl (any_of HT_.out (by kernel_rfl)) (fun _ _ _ h => h) (Or.inl ⟨by rfl, ?_⟩) ?_ ?_
                  rotate_left
                  · intro w'
                    go_simp
                    with_reducible rfl
                  rotate_left
                  · simp only [Act.put, lS, lZ, lC, i64_w, i32_w]
                    rfl
                  refine pure_ (i := 6) (N := some 27) (v := ?_) (a' := ?_) #[true, true, true, true, true, true, true, false, false, false, false] rfl rfl (any_of HT_.out (by kernel_rfl)) (fun _ _ _ h => h) (Or.inl ⟨by rfl, ?_⟩) ?_ ?_
                  rotate_left
                  · intro w'
                    go_simp
                    with_reducible rfl
                  rotate_left
                  · simp only [Act.put, lS, lZ, lC, i64_w, i32_w]
                    rfl
                  refine pure_ (i := 7) (N := some 28) (v := ?_) (a' := ?_) #[true, true, true, true, true, true, true, true, false, false, false] rfl rfl (any_of HT_.out (by kernel_rfl)) (fun _ _ _ h => h) (Or.inl ⟨by rfl, ?_⟩) ?_ ?_
                  rotate_left
                  · intro w'
                    go_simp
                    with_reducible rfl
                  rotate_left
                  · simp only [Act.put, lS, lZ, lC, i64_w, i32_w]
                    rfl
                  refine one_ (i := 8) (N := some 8) #[true, true, true, true, true, true, true, true, true, false, false] rfl rfl (one_of HT_.out (by kernel_rfl)) (by decide) (fun K hK => ?_)
                  refine box_step ?hg (N := 8) ?hd (cs := #[.int .u64 0, .int .u64 0]) (t := 55) ?hr ?_; (case hd => rfl); (case hg => rfl); (case hr => first | (go_simp; done) | (go_simp; rfl))
                  intro gb751 hg w129 hbox hb
                  have n0_ := aM (bB3 BK740.out hb)
                  have n1_ := aM (bB3 BK745.out hb)
                  have n2_ := aM (bS3 HB.out hb)
                  have n3_ := aM (hbox)
                  have n4_ := aM ((bZ3 hg HB.out))
                  have n5_ := aM ((bZ3 hg HB.out))
                  have n6_ := aM ((bL3 hg BK740.out))
                  have n7_ := aM ((bG3 hg BK740.out))
                  have n8_ := aM ((bL3 hg BK745.out))
                  have n9_ := aM ((bG3 hg BK745.out))
                  clear BK740
                  clear BK745
                  clear HB
                  have BK740 := n0_
                  have BK745 := n1_
                  have HB := n2_
                  have BK751 := n3_
                  have GW751 := n4_
                  have GE751 := n5_
                  have NB740_751 := n6_
                  have NB751_740 := n7_
                  have NB745_751 := n8_
                  have NB751_745 := n9_
                  clear n0_ n1_ n2_ n3_ n4_ n5_ n6_ n7_ n8_ n9_
                  clear hb hbox hg
                  refine hK.out _ _ ⟨(bC BK745.out 0).trans rfl, (bC BK745.out 1).trans rfl⟩ (fun hHeld => ?_)
                  clear hK K
                  refine norm_ (a' := ?_) ?_ ?_
                  rotate_left
                  · show Act.put _ (some 8) _ = _
                    simp only [Act.put, lS, lZ, lC, i64_w, i32_w]
                    rfl
                  exact norm_ (by simp only [putAll, Act.put, lS, lZ, lC]) (hCont (gb751) _ ⟨hHeld, (by (with_reducible repeat (first | refine bN ?_ _ | refine bD ?_ | refine bA ?_ _)); exact BK740.out), (by (with_reducible repeat (first | refine bN ?_ _ | refine bD ?_ | refine bA ?_ _)); exact BK745.out), (by (with_reducible repeat (first | refine bN ?_ _ | refine bD ?_ | refine bA ?_ _)); exact BK751.out), GW751.out, GE751.out, NB740_751.out, NB751_740.out, NB745_751.out, NB751_745.out, (by repeat (first | (with_reducible first | exact HB.out | apply pA | apply pN | apply p1 | refine pS ?_ GE740.out | refine pS ?_ GE745.out | refine pS ?_ GE751.out) | exact HB.out))⟩)
                · skip
                  refine box_step ?hg (N := 8) ?hd (cs := #[.int .u64 0, .int .u64 0]) (t := 55) ?hr ?_; (case hd => rfl); (case hg => rfl); (case hr => first | (go_simp; done) | (go_simp; rfl))
                  intro gb751 hg w128 hbox hb
                  have n0_ := aM (bB3 BK740.out hb)
                  have n1_ := aM (bB3 BK745.out hb)
                  have n2_ := aM (bS3 HB.out hb)
                  have n3_ := aM (hbox)
                  have n4_ := aM ((bZ3 hg HB.out))
                  have n5_ := aM ((bZ3 hg HB.out))
                  have n6_ := aM ((bL3 hg BK740.out))
                  have n7_ := aM ((bG3 hg BK740.out))
                  have n8_ := aM ((bL3 hg BK745.out))
                  have n9_ := aM ((bG3 hg BK745.out))
                  clear BK740
                  clear BK745
                  clear HB
                  have BK740 := n0_
                  have BK745 := n1_
                  have HB := n2_
                  have BK751 := n3_
                  have GW751 := n4_
                  have GE751 := n5_
                  have NB740_751 := n6_
                  have NB751_740 := n7_
                  have NB745_751 := n8_
                  have NB751_745 := n9_
                  clear n0_ n1_ n2_ n3_ n4_ n5_ n6_ n7_ n8_ n9_
                  clear hb hbox hg
                  refine hK.out _ _ ⟨(bC BK745.out 0).trans rfl, (bC BK745.out 1).trans rfl⟩ (fun hHeld => ?_)
                  clear hK K
                  refine norm_ (a' := ?_) ?_ ?_
                  rotate_left
                  · show Act.put _ (some 8) _ = _
                    simp only [Act.put, lS, lZ, lC, i64_w, i32_w]
                    rfl
                  refine one_ (i := 4) (N := some 26) #[true, true, true, true, true, false, false, false, true, false, false] rfl rfl (one_of HT_.out (by kernel_rfl)) (by decide) (fun K hK => ?_)
                  refine goes_ Try.func50 (by kernel_rfl) rfl #[.agg #[.int .u64 t746, .int .u64 t747], .agg #[.int .u64 t743, .int .u64 t744]] (by rfl) rfl rfl (by (try simp only [List.map_toArray, List.map_cons, List.map_nil]); first | done | rfl | (simp only [List.length_drop, List.length_take]; rfl)) ?_
                  with_reducible refine (twin_Add.calls t746 t747 t743 t744 t748 t749 false _ A6.out).mono ?_
                  rintro e w129 ⟨rfl, hb⟩
                  refine ⟨_, rfl, ?_⟩
                  have n0_ := aM (bB3 BK740.out hb)
                  have n1_ := aM (bB3 BK745.out hb)
                  have n2_ := aM (bB3 BK751.out hb)
                  have n3_ := aM (bS3 HB.out hb)
                  clear BK740
                  clear BK745
                  clear BK751
                  clear HB
                  have BK740 := n0_
                  have BK745 := n1_
                  have BK751 := n2_
                  have HB := n3_
                  clear n0_ n1_ n2_ n3_
                  (try clear hb)
                  (try clear hb2)
                  (try clear hk)
                  (try clear hi)
                  refine hK.out _ _ ⟨(bC BK745.out 0).trans rfl, (bC BK745.out 1).trans rfl⟩ (fun hHeld => ?_)
                  clear hK K
                  refine norm_ (a' := ?_) ?_ ?_
                  rotate_left
                  · show Act.put _ (some 26) _ = _
                    simp only [Act.put, lS, lZ, lC, i64_w, i32_w]
                    rfl
                  refine pure_ (i := 5) (N := some 21) (v := ?_) (a' := ?_) #[true, true, true, true, true, true, false, false, true, false, false] rfl rfl (any_of HT_.out (by kernel_rfl)) (fun _ _ _ h => h) (Or.inl ⟨by rfl, ?_⟩) ?_ ?_
                  rotate_left
                  · intro w'
                    go_simp
                    with_reducible rfl
                  rotate_left
                  · simp only [Act.put, lS, lZ, lC, i64_w, i32_w]
                    rfl
                  refine pure_ (i := 6) (N := some 27) (v := ?_) (a' := ?_) #[true, true, true, true, true, true, true, false, true, false, false] rfl rfl (any_of HT_.out (by kernel_rfl)) (fun _ _ _ h => h) (Or.inl ⟨by rfl, ?_⟩) ?_ ?_
                  rotate_left
                  · intro w'
                    go_simp
                    with_reducible rfl
                  rotate_left
                  · simp only [Act.put, lS, lZ, lC, i64_w, i32_w]
                    rfl
                  refine pure_ (i := 7) (N := some 28) (v := ?_) (a' := ?_) #[true, true, true, true, true, true, true, true, true, false, false] rfl rfl (any_of HT_.out (by kernel_rfl)) (fun _ _ _ h => h) (Or.inl ⟨by rfl, ?_⟩) ?_ ?_
                  rotate_left
                  · intro w'
                    go_simp
                    with_reducible rfl
                  rotate_left
                  · simp only [Act.put, lS, lZ, lC, i64_w, i32_w]
                    rfl
                  exact norm_ (by simp only [putAll, Act.put, lS, lZ, lC]) (hCont (gb751) _ ⟨hHeld, (by (with_reducible repeat (first | refine bN ?_ _ | refine bD ?_ | refine bA ?_ _)); exact BK740.out), (by (with_reducible repeat (first | refine bN ?_ _ | refine bD ?_ | refine bA ?_ _)); exact BK745.out), (by (with_reducible repeat (first | refine bN ?_ _ | refine bD ?_ | refine bA ?_ _)); exact BK751.out), GW751.out, GE751.out, NB740_751.out, NB751_740.out, NB745_751.out, NB751_745.out, (by repeat (first | (with_reducible first | exact HB.out | apply pA | apply pN | apply p1 | refine pS ?_ GE740.out | refine pS ?_ GE745.out | refine pS ?_ GE751.out) | exact HB.out))⟩)
              · skip
                refine box_step ?hg (N := 8) ?hd (cs := #[.int .u64 0, .int .u64 0]) (t := 55) ?hr ?_; (case hd => rfl); (case hg => rfl); (case hr => first | (go_simp; done) | (go_simp; rfl))
                intro gb751 hg w127 hbox hb
                have n0_ := aM (bB3 BK740.out hb)
                have n1_ := aM (bB3 BK745.out hb)
                have n2_ := aM (bS3 HB.out hb)
                have n3_ := aM (hbox)
                have n4_ := aM ((bZ3 hg HB.out))
                have n5_ := aM ((bZ3 hg HB.out))
                have n6_ := aM ((bL3 hg BK740.out))
                have n7_ := aM ((bG3 hg BK740.out))
                have n8_ := aM ((bL3 hg BK745.out))
                have n9_ := aM ((bG3 hg BK745.out))
                clear BK740
                clear BK745
                clear HB
                have BK740 := n0_
                have BK745 := n1_
                have HB := n2_
                have BK751 := n3_
                have GW751 := n4_
                have GE751 := n5_
                have NB740_751 := n6_
                have NB751_740 := n7_
                have NB745_751 := n8_
                have NB751_745 := n9_
                clear n0_ n1_ n2_ n3_ n4_ n5_ n6_ n7_ n8_ n9_
                clear hb hbox hg
                refine hK.out _ _ ⟨(bC BK745.out 0).trans rfl, (bC BK745.out 1).trans rfl⟩ (fun hHeld => ?_)
                clear hK K
                refine norm_ (a' := ?_) ?_ ?_
                rotate_left
                · show Act.put _ (some 8) _ = _
                  simp only [Act.put, lS, lZ, lC, i64_w, i32_w]
                  rfl
                refine one_ (i := 2) (N := some 24) #[true, true, true, true, false, false, false, false, true, false, false] rfl rfl (one_of HT_.out (by kernel_rfl)) (by decide) (fun K hK => ?_)
                refine goes_ Try.func51 (by kernel_rfl) rfl #[.int .u64 t742, .int .u64 t742] (by rfl) rfl rfl (by (try simp only [List.map_toArray, List.map_cons, List.map_nil]); first | done | rfl | (simp only [List.length_drop, List.length_take]; rfl)) ?_
                with_reducible refine (twin_Mul.calls t742 t742 t746 t747 _ A5.out).mono ?_
                rintro e w128 ⟨rfl, hb⟩
                refine ⟨_, rfl, ?_⟩
                have n0_ := aM (bB3 BK740.out hb)
                have n1_ := aM (bB3 BK745.out hb)
                have n2_ := aM (bB3 BK751.out hb)
                have n3_ := aM (bS3 HB.out hb)
                clear BK740
                clear BK745
                clear BK751
                clear HB
                have BK740 := n0_
                have BK745 := n1_
                have BK751 := n2_
                have HB := n3_
                clear n0_ n1_ n2_ n3_
                (try clear hb)
                (try clear hb2)
                (try clear hk)
                (try clear hi)
                refine hK.out _ _ ⟨(bC BK745.out 0).trans rfl, (bC BK745.out 1).trans rfl⟩ (fun hHeld => ?_)
                clear hK K
                refine norm_ (a' := ?_) ?_ ?_
                rotate_left
                · show Act.put _ (some 24) _ = _
                  simp only [Act.put, lS, lZ, lC, i64_w, i32_w]
                  rfl
                refine one_ (i := 4) (N := some 26) #[true, true, true, true, true, false, false, false, true, false, false] rfl rfl (one_of HT_.out (by kernel_rfl)) (by decide) (fun K hK => ?_)
                refine goes_ Try.func50 (by kernel_rfl) rfl #[.agg #[.int .u64 t746, .int .u64 t747], .agg #[.int .u64 t743, .int .u64 t744]] (by rfl) rfl rfl (by (try simp only [List.map_toArray, List.map_cons, List.map_nil]); first | done | rfl | (simp only [List.length_drop, List.length_take]; rfl)) ?_
                with_reducible refine (twin_Add.calls t746 t747 t743 t744 t748 t749 false _ A6.out).mono ?_
                rintro e w129 ⟨rfl, hb⟩
                refine ⟨_, rfl, ?_⟩
                have n0_ := aM (bB3 BK740.out hb)
                have n1_ := aM (bB3 BK745.out hb)
                have n2_ := aM (bB3 BK751.out hb)
                have n3_ := aM (bS3 HB.out hb)
                clear BK740
                clear BK745
                clear BK751
                clear HB
                have BK740 := n0_
                have BK745 := n1_
                have BK751 := n2_
                have HB := n3_
                clear n0_ n1_ n2_ n3_
                (try clear hb)
                (try clear hb2)
                (try clear hk)
                (try clear hi)
                refine hK.out _ _ ⟨(bC BK745.out 0).trans rfl, (bC BK745.out 1).trans rfl⟩ (fun hHeld => ?_)
                clear hK K
                refine norm_ (a' := ?_) ?_ ?_
                rotate_left
                · show Act.put _ (some 26) _ = _
                  simp only [Act.put, lS, lZ, lC, i64_w, i32_w]
                  rfl
                refine pure_ (i := 5) (N := some 21) (v := ?_) (a' := ?_) #[true, true, true, true, true, true, false, false, true, false, false] rfl rfl (any_of HT_.out (by kernel_rfl)) (fun _ _ _ h => h) (Or.inl ⟨by rfl, ?_⟩) ?_ ?_
                rotate_left
                · intro w'
                  go_simp
                  with_reducible rfl
                rotate_left
                · simp only [Act.put, lS, lZ, lC, i64_w, i32_w]
                  rfl
                refine pure_ (i := 6) (N := some 27) (v := ?_) (a' := ?_) #[true, true, true, true, true, true, true, false, true, false, false] rfl rfl (any_of HT_.out (by kernel_rfl)) (fun _ _ _ h => h) (Or.inl ⟨by rfl, ?_⟩) ?_ ?_
                rotate_left
                · intro w'
                  go_simp
                  with_reducible rfl
                rotate_left
                · simp only [Act.put, lS, lZ, lC, i64_w, i32_w]
                  rfl
                refine pure_ (i := 7) (N := some 28) (v := ?_) (a' := ?_) #[true, true, true, true, true, true, true, true, true, false, false] rfl rfl (any_of HT_.out (by kernel_rfl)) (fun _ _ _ h => h) (Or.inl ⟨by rfl, ?_⟩) ?_ ?_
                rotate_left
                · intro w'
                  go_simp
                  with_reducible rfl
                rotate_left
                · simp only [Act.put, lS, lZ, lC, i64_w, i32_w]
                  rfl
                exact norm_ (by simp only [putAll, Act.put, lS, lZ, lC]) (hCont (gb751) _ ⟨hHeld, (by (with_reducible repeat (first | refine bN ?_ _ | refine bD ?_ | refine bA ?_ _)); exact BK740.out), (by (with_reducible repeat (first | refine bN ?_ _ | refine bD ?_ | refine bA ?_ _)); exact BK745.out), (by (with_reducible repeat (first | refine bN ?_ _ | refine bD ?_ | refine bA ?_ _)); exact BK751.out), GW751.out, GE751.out, NB740_751.out, NB751_740.out, NB745_751.out, NB751_745.out, (by repeat (first | (with_reducible first | exact HB.out | apply pA | apply pN | apply p1 | refine pS ?_ GE740.out | refine pS ?_ GE745.out | refine pS ?_ GE751.out) | exact HB.out))⟩)
            rintro gb751 w130 ⟨hS_, h0_, h1_, h2_, h3_, h4_, h5_, h6_, h7_, h8_, h9_⟩
            have n0_ : Aside0 (w130.heap[gb740]? = some (.cells #[.int .u64 a0_0, .int .u64 a0_1] 55 (0, 0))) := ⟨h0_⟩
            have n1_ : Aside0 (w130.heap[gb745]? = some (.cells #[.int .u64 t743, .int .u64 t744] 55 (0, 0))) := ⟨h1_⟩
            have n2_ : Aside0 (w130.heap[gb751]? = some (.cells #[.int .u64 0, .int .u64 0] 55 (0, 0))) := ⟨h2_⟩
            have n3_ : Aside0 (w.heap.size ≤ gb751) := ⟨h3_⟩
            have n4_ : Aside0 (w.heap.size ≤ gb751) := ⟨h4_⟩
            have n5_ : Aside0 (gb740 ≠ gb751) := ⟨h5_⟩
            have n6_ : Aside0 (gb751 ≠ gb740) := ⟨h6_⟩
            have n7_ : Aside0 (gb745 ≠ gb751) := ⟨h7_⟩
            have n8_ : Aside0 (gb751 ≠ gb745) := ⟨h8_⟩
            have n9_ : Aside0 (Below w.heap.size w w130) := ⟨h9_⟩
            clear BK740
            clear BK745
            clear HB
            clear h0_ h1_ h2_ h3_ h4_ h5_ h6_ h7_ h8_ h9_
            have BK740 := n0_
            have BK745 := n1_
            have BK751 := n2_
            have GW751 := n3_
            have GE751 := n4_
            have NB740_751 := n5_
            have NB751_740 := n6_
            have NB745_751 := n7_
            have NB751_745 := n8_
            have HB := n9_
            clear n0_ n1_ n2_ n3_ n4_ n5_ n6_ n7_ n8_ n9_
            have hHeld : w130.cell? ⟨gb745, 0, none⟩ = some (.int .u64 t743) ∧ w130.cell? ⟨gb745, 1, none⟩ = some (.int .u64 t744) := hS_
            refine norm_ (a' := ?_) ?_ ?_
            rotate_left
            · simp only [putAll, Act.put, lS, lZ, lC]
              rfl
            refine one_ (i := 9) (N := none) #[true, true, true, true, true, true, true, true, true, true, false] rfl rfl (one_of HT_.out (by kernel_rfl)) (by decide) (fun K hK => ?_)
            have hs131 : w130.cell? ⟨gb751, 0, none⟩ = some (.int .u64 0) := (bC BK751.out 0).trans rfl
            have hfs131 := bF BK751.out 0
            have hns131_0 := NB740_751.out
            have hns131_1 := NB745_751.out
            have hms131_0 := NB751_740.out
            have hms131_1 := NB751_745.out
            have hs132 : w130.cell? ⟨gb751, 1, none⟩ = some (.int .u64 0) := (bC BK751.out 1).trans rfl
            have hfs132 := bF BK751.out 1
            have hns132_0 := NB740_751.out
            have hns132_1 := NB745_751.out
            have hms132_0 := NB751_740.out
            have hms132_1 := NB751_745.out
            refine skip_ (w1 := ?_) (by rfl) rfl ?_ ?_
            rotate_left
            · go_simp
              rfl
            refine hK.out _ _ ⟨((cell_far (p := ⟨gb751, _, none⟩) NB745_751.out _).trans (((cell_far (p := ⟨gb751, _, none⟩) NB745_751.out _).trans (hHeld.1)))), ((cell_far (p := ⟨gb751, _, none⟩) NB745_751.out _).trans (((cell_far (p := ⟨gb751, _, none⟩) NB745_751.out _).trans (hHeld.2))))⟩ (fun hHeld => ?_)
            clear hK K
            refine pure_ (i := 10) (N := some 9) (v := ?_) (a' := ?_) #[true, true, true, true, true, true, true, true, true, true, true] rfl rfl (any_of HT_.out (by kernel_rfl)) (fun _ _ _ h => h) (Or.inl ⟨by rfl, ?_⟩) ?_ ?_
            rotate_left
            · intro w'
              go_simp
              with_reducible rfl
            rotate_left
            · simp only [Act.put, lS, lZ, lC, i64_w, i32_w]
              rfl
            refine done_ (done_of HT_.out (by kernel_rfl)) ?_
            try go_wp2_with (first | ((with_reducible refine gC (f := 52) rfl ?_); refine gY (some 32) Try.func52 #[.agg #[.int .u64 0, .int .u64 t742], .int .i64 1] ?_; (with_reducible refine (twin_Shl.calls k 0 t742 1 t752 t753 t754 none _ A7.out).mono ?_); rintro e w133 ⟨rfl, hb⟩; refine ⟨_, rfl, ?_⟩; have n0_ := aM (bB (g := gb740) (o := .cells #[.int .u64 a0_0, .int .u64 a0_1] 55 (0, 0)) (by (with_reducible repeat (first | refine bN ?_ _ | refine bD ?_ | refine bA ?_ _)); refine blk_far ?_ NB740_751.out _; (with_reducible repeat (first | refine bN ?_ _ | refine bD ?_ | refine bA ?_ _)); refine blk_far ?_ NB740_751.out _; (with_reducible repeat (first | refine bN ?_ _ | refine bD ?_ | refine bA ?_ _)); exact BK740.out) hb); have n1_ := aM (bB (g := gb745) (o := .cells #[.int .u64 t743, .int .u64 t744] 55 (0, 0)) (by (with_reducible repeat (first | refine bN ?_ _ | refine bD ?_ | refine bA ?_ _)); refine blk_far ?_ NB745_751.out _; (with_reducible repeat (first | refine bN ?_ _ | refine bD ?_ | refine bA ?_ _)); refine blk_far ?_ NB745_751.out _; (with_reducible repeat (first | refine bN ?_ _ | refine bD ?_ | refine bA ?_ _)); exact BK745.out) hb); have n2_ := aM (bB (g := gb751) (o := .cells #[.int .u64 t748, .int .u64 t749] 55 (0, 0)) (by (with_reducible repeat (first | refine bN ?_ _ | refine bD ?_ | refine bA ?_ _)); refine blk_put (cs := #[.int .u64 t748, .int .u64 0]) ?_ 1 _ rfl; (with_reducible repeat (first | refine bN ?_ _ | refine bD ?_ | refine bA ?_ _)); refine blk_put (cs := #[.int .u64 0, .int .u64 0]) ?_ 0 _ rfl; (with_reducible repeat (first | refine bN ?_ _ | refine bD ?_ | refine bA ?_ _)); exact BK751.out) hb); have n3_ := aM (bS3 HB.out hb); clear BK740; clear BK745; clear BK751; clear HB; have BK740 := n0_; have BK745 := n1_; have BK751 := n2_; have HB := n3_; clear n0_ n1_ n2_ n3_; (try clear hb); (try simp only [errW_none, errW_some])) | ((with_reducible refine gD (N := 10) rfl ?_); refine bE3 10 #[.int .u64 0, .int .u64 0] 55 ?hr ?_; (case hr => first | (go_simp; done) | (go_simp; rfl)); intro gb756 hg w134 hbox hb; have n0_ := aM (bB3 BK740.out hb); have n1_ := aM (bB3 BK745.out hb); have n2_ := aM (bB3 BK751.out hb); have n3_ := aM (bS3 HB.out hb); have n4_ := aM (hbox); have n5_ := aM ((bZ3 hg HB.out)); have n6_ := aM ((bZ3 hg HB.out)); have n7_ := aM ((bL3 hg BK740.out)); have n8_ := aM ((bG3 hg BK740.out)); have n9_ := aM ((bL3 hg BK745.out)); have n10_ := aM ((bG3 hg BK745.out)); have n11_ := aM ((bL3 hg BK751.out)); have n12_ := aM ((bG3 hg BK751.out)); clear BK740; clear BK745; clear BK751; clear HB; have BK740 := n0_; have BK745 := n1_; have BK751 := n2_; have HB := n3_; have BK756 := n4_; have GW756 := n5_; have GE756 := n6_; have NB740_756 := n7_; have NB756_740 := n8_; have NB745_756 := n9_; have NB756_745 := n10_; have NB751_756 := n11_; have NB756_751 := n12_; clear n0_ n1_ n2_ n3_ n4_ n5_ n6_ n7_ n8_ n9_ n10_ n11_ n12_; clear hb hbox hg; have hnb135 := NB756_740.out; have hnc135 := NB740_756.out; have hnb136 := NB756_745.out; have hnc136 := NB745_756.out; have hnb137 := NB756_751.out; have hnc137 := NB751_756.out; have hcz138_0 : w134.cell? ⟨gb756, 0, none⟩ = some (.int .u64 0) := (bC BK756.out 0).trans rfl; have hcz138_1 : w134.cell? ⟨gb756, 1, none⟩ = some (.int .u64 0) := (bC BK756.out 1).trans rfl; have hfz138_0 := bF BK756.out 0; have hfz138_1 := bF BK756.out 1) | ((with_reducible refine gC (f := 51) rfl ?_); refine gY (some 39) Try.func51 #[.int .u64 a1, .int .u64 a1] ?_; (with_reducible refine (twin_Mul.calls a1 a1 t757 t758 _ A8.out).mono ?_); rintro e w139 ⟨rfl, hb⟩; refine ⟨_, rfl, ?_⟩; have n0_ := aM (bB (g := gb740) (o := .cells #[.int .u64 a0_0, .int .u64 a0_1] 55 (0, 0)) (by (with_reducible repeat (first | refine bN ?_ _ | refine bD ?_ | refine bA ?_ _)); refine blk_far ?_ NB740_756.out _; (with_reducible repeat (first | refine bN ?_ _ | refine bD ?_ | refine bA ?_ _)); refine blk_far ?_ NB740_756.out _; (with_reducible repeat (first | refine bN ?_ _ | refine bD ?_ | refine bA ?_ _)); exact BK740.out) hb); have n1_ := aM (bB (g := gb745) (o := .cells #[.int .u64 t743, .int .u64 t744] 55 (0, 0)) (by (with_reducible repeat (first | refine bN ?_ _ | refine bD ?_ | refine bA ?_ _)); refine blk_far ?_ NB745_756.out _; (with_reducible repeat (first | refine bN ?_ _ | refine bD ?_ | refine bA ?_ _)); refine blk_far ?_ NB745_756.out _; (with_reducible repeat (first | refine bN ?_ _ | refine bD ?_ | refine bA ?_ _)); exact BK745.out) hb); have n2_ := aM (bB (g := gb751) (o := .cells #[.int .u64 t748, .int .u64 t749] 55 (0, 0)) (by (with_reducible repeat (first | refine bN ?_ _ | refine bD ?_ | refine bA ?_ _)); refine blk_far ?_ NB751_756.out _; (with_reducible repeat (first | refine bN ?_ _ | refine bD ?_ | refine bA ?_ _)); refine blk_far ?_ NB751_756.out _; (with_reducible repeat (first | refine bN ?_ _ | refine bD ?_ | refine bA ?_ _)); exact BK751.out) hb); have n3_ := aM (bB (g := gb756) (o := .cells #[.int .u64 t752, .int .u64 t753] 55 (0, 0)) (by (with_reducible repeat (first | refine bN ?_ _ | refine bD ?_ | refine bA ?_ _)); refine blk_put (cs := #[.int .u64 t752, .int .u64 0]) ?_ 1 _ rfl; (with_reducible repeat (first | refine bN ?_ _ | refine bD ?_ | refine bA ?_ _)); refine blk_put (cs := #[.int .u64 0, .int .u64 0]) ?_ 0 _ rfl; (with_reducible repeat (first | refine bN ?_ _ | refine bD ?_ | refine bA ?_ _)); exact BK756.out) hb); have n4_ := aM (bS3 HB.out hb); clear BK740; clear BK745; clear BK751; clear BK756; clear HB; have BK740 := n0_; have BK745 := n1_; have BK751 := n2_; have BK756 := n3_; have HB := n4_; clear n0_ n1_ n2_ n3_ n4_; (try clear hb)) | ((with_reducible refine gC (f := 46) rfl ?_); refine gY (some 40) Try.func46 #[.agg #[.int .u64 t757, .int .u64 t758]] ?_; (with_reducible refine (part_Root.calls k t757 t758 t759 t760 t761 _ A9.out).mono ?_); rintro e w140 ⟨rfl, hb⟩; refine ⟨_, rfl, ?_⟩; have n0_ := aM (bB3 BK740.out hb); have n1_ := aM (bB3 BK745.out hb); have n2_ := aM (bB3 BK751.out hb); have n3_ := aM (bB3 BK756.out hb); have n4_ := aM (bS3 HB.out hb); clear BK740; clear BK745; clear BK751; clear BK756; clear HB; have BK740 := n0_; have BK745 := n1_; have BK751 := n2_; have BK756 := n3_; have HB := n4_; clear n0_ n1_ n2_ n3_ n4_; (try clear hb)) | ((with_reducible refine gD (N := 14) rfl ?_); refine bE3 14 #[.int .u64 0, .int .u64 0] 55 ?hr ?_; (case hr => first | (go_simp; done) | (go_simp; rfl)); intro gb762 hg w141 hbox hb; have n0_ := aM (bB3 BK740.out hb); have n1_ := aM (bB3 BK745.out hb); have n2_ := aM (bB3 BK751.out hb); have n3_ := aM (bB3 BK756.out hb); have n4_ := aM (bS3 HB.out hb); have n5_ := aM (hbox); have n6_ := aM ((bZ3 hg HB.out)); have n7_ := aM ((bZ3 hg HB.out)); have n8_ := aM ((bL3 hg BK740.out)); have n9_ := aM ((bG3 hg BK740.out)); have n10_ := aM ((bL3 hg BK745.out)); have n11_ := aM ((bG3 hg BK745.out)); have n12_ := aM ((bL3 hg BK751.out)); have n13_ := aM ((bG3 hg BK751.out)); have n14_ := aM ((bL3 hg BK756.out)); have n15_ := aM ((bG3 hg BK756.out)); clear BK740; clear BK745; clear BK751; clear BK756; clear HB; have BK740 := n0_; have BK745 := n1_; have BK751 := n2_; have BK756 := n3_; have HB := n4_; have BK762 := n5_; have GW762 := n6_; have GE762 := n7_; have NB740_762 := n8_; have NB762_740 := n9_; have NB745_762 := n10_; have NB762_745 := n11_; have NB751_762 := n12_; have NB762_751 := n13_; have NB756_762 := n14_; have NB762_756 := n15_; clear n0_ n1_ n2_ n3_ n4_ n5_ n6_ n7_ n8_ n9_ n10_ n11_ n12_ n13_ n14_ n15_; clear hb hbox hg; have hnb142 := NB762_740.out; have hnc142 := NB740_762.out; have hnb143 := NB762_745.out; have hnc143 := NB745_762.out; have hnb144 := NB762_751.out; have hnc144 := NB751_762.out; have hnb145 := NB762_756.out; have hnc145 := NB756_762.out; have hcz146_0 : w141.cell? ⟨gb762, 0, none⟩ = some (.int .u64 0) := (bC BK762.out 0).trans rfl; have hcz146_1 : w141.cell? ⟨gb762, 1, none⟩ = some (.int .u64 0) := (bC BK762.out 1).trans rfl; have hfz146_0 := bF BK762.out 0; have hfz146_1 := bF BK762.out 1; have hnb147 := NB751_740.out; have hnc147 := NB740_751.out; have hnb148 := NB751_745.out; have hnc148 := NB745_751.out; have hcz149_0 : w141.cell? ⟨gb751, 0, none⟩ = some (.int .u64 t748) := (bC BK751.out 0).trans rfl; have hcz149_1 : w141.cell? ⟨gb751, 1, none⟩ = some (.int .u64 t749) := (bC BK751.out 1).trans rfl; have hfz149_0 := bF BK751.out 0; have hfz149_1 := bF BK751.out 1; have hcz150_0 : w141.cell? ⟨gb740, 0, none⟩ = some (.int .u64 a0_0) := (bC BK740.out 0).trans rfl; have hcz150_1 : w141.cell? ⟨gb740, 1, none⟩ = some (.int .u64 a0_1) := (bC BK740.out 1).trans rfl; have hfz150_0 := bF BK740.out 0; have hfz150_1 := bF BK740.out 1; have hcz151_0 : w141.cell? ⟨gb745, 0, none⟩ = some (.int .u64 t743) := (bC BK745.out 0).trans rfl; have hcz151_1 : w141.cell? ⟨gb745, 1, none⟩ = some (.int .u64 t744) := (bC BK745.out 1).trans rfl; have hfz151_0 := bF BK745.out 0; have hfz151_1 := bF BK745.out 1; have hcz152_0 : w141.cell? ⟨gb756, 0, none⟩ = some (.int .u64 t752) := (bC BK756.out 0).trans rfl; have hcz152_1 : w141.cell? ⟨gb756, 1, none⟩ = some (.int .u64 t753) := (bC BK756.out 1).trans rfl; have hfz152_0 := bF BK756.out 0; have hfz152_1 := bF BK756.out 1) | (go_at_call 53; (with_reducible refine (twin_Cmp.calls t743 t744 t752 t753 t764 _ A42.out).mono ?_); rintro e w153 ⟨rfl, hb⟩; have n0_ := aM (bB (g := gb740) (o := .cells #[.int .u64 a0_0, .int .u64 a0_1] 55 (0, 0)) (by (with_reducible repeat (first | refine bN ?_ _ | refine bD ?_ | refine bA ?_ _)); refine blk_far ?_ NB740_762.out _; (with_reducible repeat (first | refine bN ?_ _ | refine bD ?_ | refine bA ?_ _)); refine blk_far ?_ NB740_762.out _; (with_reducible repeat (first | refine bN ?_ _ | refine bD ?_ | refine bA ?_ _)); exact BK740.out) hb); have n1_ := aM (bB (g := gb745) (o := .cells #[.int .u64 t743, .int .u64 t744] 55 (0, 0)) (by (with_reducible repeat (first | refine bN ?_ _ | refine bD ?_ | refine bA ?_ _)); refine blk_far ?_ NB745_762.out _; (with_reducible repeat (first | refine bN ?_ _ | refine bD ?_ | refine bA ?_ _)); refine blk_far ?_ NB745_762.out _; (with_reducible repeat (first | refine bN ?_ _ | refine bD ?_ | refine bA ?_ _)); exact BK745.out) hb); have n2_ := aM (bB (g := gb751) (o := .cells #[.int .u64 t748, .int .u64 t749] 55 (0, 0)) (by (with_reducible repeat (first | refine bN ?_ _ | refine bD ?_ | refine bA ?_ _)); refine blk_far ?_ NB751_762.out _; (with_reducible repeat (first | refine bN ?_ _ | refine bD ?_ | refine bA ?_ _)); refine blk_far ?_ NB751_762.out _; (with_reducible repeat (first | refine bN ?_ _ | refine bD ?_ | refine bA ?_ _)); exact BK751.out) hb); have n3_ := aM (bB (g := gb756) (o := .cells #[.int .u64 t752, .int .u64 t753] 55 (0, 0)) (by (with_reducible repeat (first | refine bN ?_ _ | refine bD ?_ | refine bA ?_ _)); refine blk_far ?_ NB756_762.out _; (with_reducible repeat (first | refine bN ?_ _ | refine bD ?_ | refine bA ?_ _)); refine blk_far ?_ NB756_762.out _; (with_reducible repeat (first | refine bN ?_ _ | refine bD ?_ | refine bA ?_ _)); exact BK756.out) hb); have n4_ := aM (bB (g := gb762) (o := .cells #[.int .u64 t760, .int .u64 t761] 55 (0, 0)) (by (with_reducible repeat (first | refine bN ?_ _ | refine bD ?_ | refine bA ?_ _)); refine blk_put (cs := #[.int .u64 t760, .int .u64 0]) ?_ 1 _ rfl; (with_reducible repeat (first | refine bN ?_ _ | refine bD ?_ | refine bA ?_ _)); refine blk_put (cs := #[.int .u64 0, .int .u64 0]) ?_ 0 _ rfl; (with_reducible repeat (first | refine bN ?_ _ | refine bD ?_ | refine bA ?_ _)); exact BK762.out) hb); have n5_ := aM (bS3 HB.out hb); clear BK740; clear BK745; clear BK751; clear BK756; clear BK762; clear HB; have BK740 := n0_; have BK745 := n1_; have BK751 := n2_; have BK756 := n3_; have BK762 := n4_; have HB := n5_; clear n0_ n1_ n2_ n3_ n4_ n5_; (try clear hb)))
            go_ret
            exact ⟨by first | rfl | (simp [errW_none, errW_some] <;> rfl) | (simp [*, errW_none, errW_some] <;> rfl), by repeat (first | (with_reducible first | exact HB.out | apply pA | apply pN | apply p1 | refine pS ?_ GE740.out | refine pS ?_ GE745.out | refine pS ?_ GE751.out | refine pS ?_ GE756.out | refine pS ?_ GE762.out) | exact HB.out)⟩
        · have H1 : (some false) = some r := by rw [if_neg (show ¬ (some q763).isNone = true by simp)] at H; exact H
          clear H
          have H := H1
          clear H1
          try simp only [errW_none, errW_some]
          obtain rfl := Option.some.inj H
          go_enter Try.func14, Try.ntmps14
          try go_wp2_with (first | ((with_reducible refine gD (N := 2) rfl ?_); refine bE3 2 #[.int .u64 a0_0, .int .u64 a0_1] 55 ?hr ?_; (case hr => first | (go_simp; done) | (go_simp; rfl)); intro gb740 hg w154 hbox hb; have n0_ := aM (bS3 HB.out hb); have n1_ := aM (hbox); have n2_ := aM ((bZ3 hg HB.out)); have n3_ := aM ((bZ3 hg HB.out)); clear HB; have HB := n0_; have BK740 := n1_; have GW740 := n2_; have GE740 := n3_; clear n0_ n1_ n2_ n3_; clear hb hbox hg) | ((with_reducible refine gC (f := 43) rfl ?_); refine gY (some 15) Try.func43 #[] ?_; (with_reducible refine (vernierlaw03_up.calls k  true _ A3.out).mono ?_); rintro e w155 ⟨rfl, hb⟩; refine ⟨_, rfl, ?_⟩; have n0_ := aM (bB3 BK740.out hb); have n1_ := aM (bS3 HB.out hb); clear BK740; clear HB; have BK740 := n0_; have HB := n1_; clear n0_ n1_; (try clear hb); have hcz156_0 : w155.cell? ⟨gb740, 0, none⟩ = some (.int .u64 a0_0) := (bC BK740.out 0).trans rfl; have hcz156_1 : w155.cell? ⟨gb740, 1, none⟩ = some (.int .u64 a0_1) := (bC BK740.out 1).trans rfl; have hfz156_0 := bF BK740.out 0; have hfz156_1 := bF BK740.out 1) | ((with_reducible refine gC (f := 46) rfl ?_); refine gY (some 18) Try.func46 #[.agg #[.int .u64 a0_0, .int .u64 a0_1]] ?_; (with_reducible refine (part_Root.calls k a0_0 a0_1 t742 t743 t744 _ A4.out).mono ?_); rintro e w157 ⟨rfl, hb⟩; refine ⟨_, rfl, ?_⟩; have n0_ := aM (bB3 BK740.out hb); have n1_ := aM (bS3 HB.out hb); clear BK740; clear HB; have BK740 := n0_; have HB := n1_; clear n0_ n1_; (try clear hb)) | ((with_reducible refine gD (N := 7) rfl ?_); refine bE3 7 #[.int .u64 0, .int .u64 0] 55 ?hr ?_; (case hr => first | (go_simp; done) | (go_simp; rfl)); intro gb745 hg w158 hbox hb; have n0_ := aM (bB3 BK740.out hb); have n1_ := aM (bS3 HB.out hb); have n2_ := aM (hbox); have n3_ := aM ((bZ3 hg HB.out)); have n4_ := aM ((bZ3 hg HB.out)); have n5_ := aM ((bL3 hg BK740.out)); have n6_ := aM ((bG3 hg BK740.out)); clear BK740; clear HB; have BK740 := n0_; have HB := n1_; have BK745 := n2_; have GW745 := n3_; have GE745 := n4_; have NB740_745 := n5_; have NB745_740 := n6_; clear n0_ n1_ n2_ n3_ n4_ n5_ n6_; clear hb hbox hg; have hnb159 := NB745_740.out; have hnc159 := NB740_745.out; have hcz160_0 : w158.cell? ⟨gb745, 0, none⟩ = some (.int .u64 0) := (bC BK745.out 0).trans rfl; have hcz160_1 : w158.cell? ⟨gb745, 1, none⟩ = some (.int .u64 0) := (bC BK745.out 1).trans rfl; have hfz160_0 := bF BK745.out 0; have hfz160_1 := bF BK745.out 1))
          have n0_ : Aside0 (((w158.setCell ⟨gb745, 0, none⟩ (.int .u64 t743)).setCell ⟨gb745, 1, none⟩ (.int .u64 t744)).heap[gb740]? = some (.cells #[.int .u64 a0_0, .int .u64 a0_1] 55 (0, 0))) := ⟨by (with_reducible repeat (first | refine bN ?_ _ | refine bD ?_ | refine bA ?_ _)); refine blk_far ?_ NB740_745.out _; (with_reducible repeat (first | refine bN ?_ _ | refine bD ?_ | refine bA ?_ _)); refine blk_far ?_ NB740_745.out _; (with_reducible repeat (first | refine bN ?_ _ | refine bD ?_ | refine bA ?_ _)); exact BK740.out⟩
          have n1_ : Aside0 (((w158.setCell ⟨gb745, 0, none⟩ (.int .u64 t743)).setCell ⟨gb745, 1, none⟩ (.int .u64 t744)).heap[gb745]? = some (.cells #[.int .u64 t743, .int .u64 t744] 55 (0, 0))) := ⟨by (with_reducible repeat (first | refine bN ?_ _ | refine bD ?_ | refine bA ?_ _)); refine blk_put (cs := #[.int .u64 t743, .int .u64 0]) ?_ 1 _ rfl; (with_reducible repeat (first | refine bN ?_ _ | refine bD ?_ | refine bA ?_ _)); refine blk_put (cs := #[.int .u64 0, .int .u64 0]) ?_ 0 _ rfl; (with_reducible repeat (first | refine bN ?_ _ | refine bD ?_ | refine bA ?_ _)); exact BK745.out⟩
          have n2_ : Aside0 (Below w.heap.size w ((w158.setCell ⟨gb745, 0, none⟩ (.int .u64 t743)).setCell ⟨gb745, 1, none⟩ (.int .u64 t744))) := ⟨by repeat (first | (with_reducible first | exact HB.out | apply pA | apply pN | apply p1 | refine pS ?_ GE740.out | refine pS ?_ GE745.out) | exact HB.out)⟩
          (try clear BK740)
          (try clear BK745)
          (try clear HB)
          generalize ((w158.setCell ⟨gb745, 0, none⟩ (.int .u64 t743)).setCell ⟨gb745, 1, none⟩ (.int .u64 t744)) = w161 at n0_ n1_ n2_ ⊢
          have BK740 := n0_
          have BK745 := n1_
          have HB := n2_
          clear n0_ n1_ n2_
          have n0_ := aM (bD BK740.out)
          have n1_ := aM (bD BK745.out)
          have n2_ := aM (p1 HB.out)
          clear BK740
          clear BK745
          clear HB
          have BK740 := n0_
          have BK745 := n1_
          have HB := n2_
          clear n0_ n1_ n2_
          refine start_ (n := 11) (S := fun w' => w'.cell? ⟨gb745, 0, none⟩ = some (.int .u64 t743) ∧ w'.cell? ⟨gb745, 1, none⟩ = some (.int .u64 t744)) (ds := []) #[false, false, false, false, false, false, false, false, false, false, false] (by kernel_rfl) rfl rfl ⟨(bC BK745.out 0).trans rfl, (bC BK745.out 1).trans rfl⟩ (fun hHeld => ?_); refine with_tabW vernierlaw03_PartSquare.tab3 vernierlaw03_PartSquare.bits3 (fun HT_ HW_ => ?_)
          generalize w161.drew = w162 at BK740 BK745 HB hHeld ⊢
          refine pure_ (i := 0) (N := some 22) (v := ?_) (a' := ?_) #[true, false, false, false, false, false, false, false, false, false, false] rfl rfl (any_of HT_.out (by kernel_rfl)) (fun _ _ _ h => h) (Or.inl ⟨by rfl, ?_⟩) ?_ ?_
          rotate_left
          · intro w'
            go_simp
            with_reducible rfl
          rotate_left
          · simp only [Act.put, lS, lZ, lC, i64_w, i32_w]
            rfl
          refine pure_ (i := 1) (N := some 23) (v := ?_) (a' := ?_) #[true, true, false, false, false, false, false, false, false, false, false] rfl rfl (any_of HT_.out (by kernel_rfl)) (fun _ _ _ h => h) (Or.inl ⟨by rfl, ?_⟩) ?_ ?_
          rotate_left
          · intro w'
            go_simp
            with_reducible rfl
          rotate_left
          · simp only [Act.put, lS, lZ, lC, i64_w, i32_w]
            rfl
          refine take_ (i := 3) (N := some 25) (v := ?_) (a' := ?_) #[true, true, false, true, false, false, false, false, false, false, false] rfl rfl (take_ofW HT_.out HW_.out (by kernel_rfl)) (fun _ _ _ h => h) (Or.inl ⟨by rfl, ?_⟩) hHeld ?_ ?_
          rotate_left
          · rintro w' ⟨s0, s1⟩
            go_simp
            with_reducible rfl
          rotate_left
          · simp only [Act.put, lS, lZ, lC, i64_w, i32_w]
            rfl
          refine join_ (σ := Nat) 2 #[true, true, true, true, true, true, true, true, true, false, false] (fun s_ => [(24, .agg #[.int .u64 t746, .int .u64 t747]), (26, .tuple #[.agg #[.int .u64 t748, .int .u64 t749], .bool false]), (8, .pointer (some ⟨s_, 0, none⟩)), (21, .tuple #[.agg #[.int .u64 t748, .int .u64 t749], .bool false]), (27, .agg #[.int .u64 t748, .int .u64 t749]), (28, .bool false)]) (fun s_ w' => (w'.cell? ⟨gb745, 0, none⟩ = some (.int .u64 t743) ∧ w'.cell? ⟨gb745, 1, none⟩ = some (.int .u64 t744)) ∧ (w'.heap[gb740]? = some (.cells #[.int .u64 a0_0, .int .u64 a0_1] 55 (0, 0))) ∧ (w'.heap[gb745]? = some (.cells #[.int .u64 t743, .int .u64 t744] 55 (0, 0))) ∧ (w'.heap[s_]? = some (.cells #[.int .u64 0, .int .u64 0] 55 (0, 0))) ∧ (w.heap.size ≤ s_) ∧ (w.heap.size ≤ s_) ∧ (gb740 ≠ s_) ∧ (s_ ≠ gb740) ∧ (gb745 ≠ s_) ∧ (s_ ≠ gb745) ∧ (Below w.heap.size w w')) ?_ ?_
          rotate_left
          · intro hCont
            refine two_ (i := 2) (j := 8) (Ni := some 24) (Nj := some 8) #[true, true, true, true, false, false, false, false, false, false, false] #[true, true, false, true, false, false, false, false, true, false, false] rfl rfl rfl rfl (two_of HT_.out (by kernel_rfl)) (by decide) (by decide) (fun K hK => ?_) (fun K hK => ?_)
            · skip
              refine goes_ Try.func51 (by kernel_rfl) rfl #[.int .u64 t742, .int .u64 t742] (by rfl) rfl rfl (by (try simp only [List.map_toArray, List.map_cons, List.map_nil]); first | done | rfl | (simp only [List.length_drop, List.length_take]; rfl)) ?_
              with_reducible refine (twin_Mul.calls t742 t742 t746 t747 _ A5.out).mono ?_
              rintro e w163 ⟨rfl, hb⟩
              refine ⟨_, rfl, ?_⟩
              have n0_ := aM (bB3 BK740.out hb)
              have n1_ := aM (bB3 BK745.out hb)
              have n2_ := aM (bS3 HB.out hb)
              clear BK740
              clear BK745
              clear HB
              have BK740 := n0_
              have BK745 := n1_
              have HB := n2_
              clear n0_ n1_ n2_
              (try clear hb)
              (try clear hb2)
              (try clear hk)
              (try clear hi)
              refine hK.out _ _ ⟨(bC BK745.out 0).trans rfl, (bC BK745.out 1).trans rfl⟩ (fun hHeld => ?_)
              clear hK K
              refine norm_ (a' := ?_) ?_ ?_
              rotate_left
              · show Act.put _ (some 24) _ = _
                simp only [Act.put, lS, lZ, lC, i64_w, i32_w]
                rfl
              refine two_ (i := 4) (j := 8) (Ni := some 26) (Nj := some 8) #[true, true, true, true, true, false, false, false, false, false, false] #[true, true, true, true, false, false, false, false, true, false, false] rfl rfl rfl rfl (two_of HT_.out (by kernel_rfl)) (by decide) (by decide) (fun K hK => ?_) (fun K hK => ?_)
              · skip
                refine goes_ Try.func50 (by kernel_rfl) rfl #[.agg #[.int .u64 t746, .int .u64 t747], .agg #[.int .u64 t743, .int .u64 t744]] (by rfl) rfl rfl (by (try simp only [List.map_toArray, List.map_cons, List.map_nil]); first | done | rfl | (simp only [List.length_drop, List.length_take]; rfl)) ?_
                with_reducible refine (twin_Add.calls t746 t747 t743 t744 t748 t749 false _ A6.out).mono ?_
                rintro e w164 ⟨rfl, hb⟩
                refine ⟨_, rfl, ?_⟩
                have n0_ := aM (bB3 BK740.out hb)
                have n1_ := aM (bB3 BK745.out hb)
                have n2_ := aM (bS3 HB.out hb)
                clear BK740
                clear BK745
                clear HB
                have BK740 := n0_
                have BK745 := n1_
                have HB := n2_
                clear n0_ n1_ n2_
                (try clear hb)
                (try clear hb2)
                (try clear hk)
                (try clear hi)
                refine hK.out _ _ ⟨(bC BK745.out 0).trans rfl, (bC BK745.out 1).trans rfl⟩ (fun hHeld => ?_)
                clear hK K
                refine norm_ (a' := ?_) ?_ ?_
                rotate_left
                · show Act.put _ (some 26) _ = _
                  simp only [Act.put, lS, lZ, lC, i64_w, i32_w]
                  rfl
                refine pure_ (i := 5) (N := some 21) (v := ?_) (a' := ?_) #[true, true, true, true, true, true, false, false, false, false, false] rfl rfl (any_of HT_.out (by kernel_rfl)) (fun _ _ _ h => h) (Or.inl ⟨by rfl, ?_⟩) ?_ ?_
                rotate_left
                · intro w'
                  go_simp
                  with_reducible rfl
                rotate_left
                · simp only [Act.put, lS, lZ, lC, i64_w, i32_w]
                  rfl
                refine pure_ (i := 6) (N := some 27) (v := ?_) (a' := ?_) #[true, true, true, true, true, true, true, false, false, false, false] rfl rfl (any_of HT_.out (by kernel_rfl)) (fun _ _ _ h => h) (Or.inl ⟨by rfl, ?_⟩) ?_ ?_
                rotate_left
                · intro w'
                  go_simp
                  with_reducible rfl
                rotate_left
                · simp only [Act.put, lS, lZ, lC, i64_w, i32_w]
                  rfl
                refine pure_ (i := 7) (N := some 28) (v := ?_) (a' := ?_) #[true, true, true, true, true, true, true, true, false, false, false] rfl rfl (any_of HT_.out (by kernel_rfl)) (fun _ _ _ h => h) (Or.inl ⟨by rfl, ?_⟩) ?_ ?_
                rotate_left
                · intro w'
                  go_simp
                  with_reducible rfl
                rotate_left
                · simp only [Act.put, lS, lZ, lC, i64_w, i32_w]
                  rfl
                refine one_ (i := 8) (N := some 8) #[true, true, true, true, true, true, true, true, true, false, false] rfl rfl (one_of HT_.out (by kernel_rfl)) (by decide) (fun K hK => ?_)
                refine box_step ?hg (N := 8) ?hd (cs := #[.int .u64 0, .int .u64 0]) (t := 55) ?hr ?_; (case hd => rfl); (case hg => rfl); (case hr => first | (go_simp; done) | (go_simp; rfl))
                intro gb751 hg w165 hbox hb
                have n0_ := aM (bB3 BK740.out hb)
                have n1_ := aM (bB3 BK745.out hb)
                have n2_ := aM (bS3 HB.out hb)
                have n3_ := aM (hbox)
                have n4_ := aM ((bZ3 hg HB.out))
                have n5_ := aM ((bZ3 hg HB.out))
                have n6_ := aM ((bL3 hg BK740.out))
                have n7_ := aM ((bG3 hg BK740.out))
                have n8_ := aM ((bL3 hg BK745.out))
                have n9_ := aM ((bG3 hg BK745.out))
                clear BK740
                clear BK745
                clear HB
                have BK740 := n0_
                have BK745 := n1_
                have HB := n2_
                have BK751 := n3_
                have GW751 := n4_
                have GE751 := n5_
                have NB740_751 := n6_
                have NB751_740 := n7_
                have NB745_751 := n8_
                have NB751_745 := n9_
                clear n0_ n1_ n2_ n3_ n4_ n5_ n6_ n7_ n8_ n9_
                clear hb hbox hg
                refine hK.out _ _ ⟨(bC BK745.out 0).trans rfl, (bC BK745.out 1).trans rfl⟩ (fun hHeld => ?_)
                clear hK K
                refine norm_ (a' := ?_) ?_ ?_
                rotate_left
                · show Act.put _ (some 8) _ = _
                  simp only [Act.put, lS, lZ, lC, i64_w, i32_w]
                  rfl
                exact norm_ (by simp only [putAll, Act.put, lS, lZ, lC]) (hCont (gb751) _ ⟨hHeld, (by (with_reducible repeat (first | refine bN ?_ _ | refine bD ?_ | refine bA ?_ _)); exact BK740.out), (by (with_reducible repeat (first | refine bN ?_ _ | refine bD ?_ | refine bA ?_ _)); exact BK745.out), (by (with_reducible repeat (first | refine bN ?_ _ | refine bD ?_ | refine bA ?_ _)); exact BK751.out), GW751.out, GE751.out, NB740_751.out, NB751_740.out, NB745_751.out, NB751_745.out, (by repeat (first | (with_reducible first | exact HB.out | apply pA | apply pN | apply p1 | refine pS ?_ GE740.out | refine pS ?_ GE745.out | refine pS ?_ GE751.out) | exact HB.out))⟩)
              · skip
                refine box_step ?hg (N := 8) ?hd (cs := #[.int .u64 0, .int .u64 0]) (t := 55) ?hr ?_; (case hd => rfl); (case hg => rfl); (case hr => first | (go_simp; done) | (go_simp; rfl))
                intro gb751 hg w164 hbox hb
                have n0_ := aM (bB3 BK740.out hb)
                have n1_ := aM (bB3 BK745.out hb)
                have n2_ := aM (bS3 HB.out hb)
                have n3_ := aM (hbox)
                have n4_ := aM ((bZ3 hg HB.out))
                have n5_ := aM ((bZ3 hg HB.out))
                have n6_ := aM ((bL3 hg BK740.out))
                have n7_ := aM ((bG3 hg BK740.out))
                have n8_ := aM ((bL3 hg BK745.out))
                have n9_ := aM ((bG3 hg BK745.out))
                clear BK740
                clear BK745
                clear HB
                have BK740 := n0_
                have BK745 := n1_
                have HB := n2_
                have BK751 := n3_
                have GW751 := n4_
                have GE751 := n5_
                have NB740_751 := n6_
                have NB751_740 := n7_
                have NB745_751 := n8_
                have NB751_745 := n9_
                clear n0_ n1_ n2_ n3_ n4_ n5_ n6_ n7_ n8_ n9_
                clear hb hbox hg
                refine hK.out _ _ ⟨(bC BK745.out 0).trans rfl, (bC BK745.out 1).trans rfl⟩ (fun hHeld => ?_)
                clear hK K
                refine norm_ (a' := ?_) ?_ ?_
                rotate_left
                · show Act.put _ (some 8) _ = _
                  simp only [Act.put, lS, lZ, lC, i64_w, i32_w]
                  rfl
                refine one_ (i := 4) (N := some 26) #[true, true, true, true, true, false, false, false, true, false, false] rfl rfl (one_of HT_.out (by kernel_rfl)) (by decide) (fun K hK => ?_)
                refine goes_ Try.func50 (by kernel_rfl) rfl #[.agg #[.int .u64 t746, .int .u64 t747], .agg #[.int .u64 t743, .int .u64 t744]] (by rfl) rfl rfl (by (try simp only [List.map_toArray, List.map_cons, List.map_nil]); first | done | rfl | (simp only [List.length_drop, List.length_take]; rfl)) ?_
                with_reducible refine (twin_Add.calls t746 t747 t743 t744 t748 t749 false _ A6.out).mono ?_
                rintro e w165 ⟨rfl, hb⟩
                refine ⟨_, rfl, ?_⟩
                have n0_ := aM (bB3 BK740.out hb)
                have n1_ := aM (bB3 BK745.out hb)
                have n2_ := aM (bB3 BK751.out hb)
                have n3_ := aM (bS3 HB.out hb)
                clear BK740
                clear BK745
                clear BK751
                clear HB
                have BK740 := n0_
                have BK745 := n1_
                have BK751 := n2_
                have HB := n3_
                clear n0_ n1_ n2_ n3_
                (try clear hb)
                (try clear hb2)
                (try clear hk)
                (try clear hi)
                refine hK.out _ _ ⟨(bC BK745.out 0).trans rfl, (bC BK745.out 1).trans rfl⟩ (fun hHeld => ?_)
                clear hK K
                refine norm_ (a' := ?_) ?_ ?_
                rotate_left
                · show Act.put _ (some 26) _ = _
                  simp only [Act.put, lS, lZ, lC, i64_w, i32_w]
                  rfl
                refine pure_ (i := 5) (N := some 21) (v := ?_) (a' := ?_) #[true, true, true, true, true, true, false, false, true, false, false] rfl rfl (any_of HT_.out (by kernel_rfl)) (fun _ _ _ h => h) (Or.inl ⟨by rfl, ?_⟩) ?_ ?_
                rotate_left
                · intro w'
                  go_simp
                  with_reducible rfl
                rotate_left
                · simp only [Act.put, lS, lZ, lC, i64_w, i32_w]
                  rfl
                refine pure_ (i := 6) (N := some 27) (v := ?_) (a' := ?_) #[true, true, true, true, true, true, true, false, true, false, false] rfl rfl (any_of HT_.out (by kernel_rfl)) (fun _ _ _ h => h) (Or.inl ⟨by rfl, ?_⟩) ?_ ?_
                rotate_left
                · intro w'
                  go_simp
                  with_reducible rfl
                rotate_left
                · simp only [Act.put, lS, lZ, lC, i64_w, i32_w]
                  rfl
                refine pure_ (i := 7) (N := some 28) (v := ?_) (a' := ?_) #[true, true, true, true, true, true, true, true, true, false, false] rfl rfl (any_of HT_.out (by kernel_rfl)) (fun _ _ _ h => h) (Or.inl ⟨by rfl, ?_⟩) ?_ ?_
                rotate_left
                · intro w'
                  go_simp
                  with_reducible rfl
                rotate_left
                · simp only [Act.put, lS, lZ, lC, i64_w, i32_w]
                  rfl
                exact norm_ (by simp only [putAll, Act.put, lS, lZ, lC]) (hCont (gb751) _ ⟨hHeld, (by (with_reducible repeat (first | refine bN ?_ _ | refine bD ?_ | refine bA ?_ _)); exact BK740.out), (by (with_reducible repeat (first | refine bN ?_ _ | refine bD ?_ | refine bA ?_ _)); exact BK745.out), (by (with_reducible repeat (first | refine bN ?_ _ | refine bD ?_ | refine bA ?_ _)); exact BK751.out), GW751.out, GE751.out, NB740_751.out, NB751_740.out, NB745_751.out, NB751_745.out, (by repeat (first | (with_reducible first | exact HB.out | apply pA | apply pN | apply p1 | refine pS ?_ GE740.out | refine pS ?_ GE745.out | refine pS ?_ GE751.out) | exact HB.out))⟩)
            · skip
              refine box_step ?hg (N := 8) ?hd (cs := #[.int .u64 0, .int .u64 0]) (t := 55) ?hr ?_; (case hd => rfl); (case hg => rfl); (case hr => first | (go_simp; done) | (go_simp; rfl))
              intro gb751 hg w163 hbox hb
              have n0_ := aM (bB3 BK740.out hb)
              have n1_ := aM (bB3 BK745.out hb)
              have n2_ := aM (bS3 HB.out hb)
              have n3_ := aM (hbox)
              have n4_ := aM ((bZ3 hg HB.out))
              have n5_ := aM ((bZ3 hg HB.out))
              have n6_ := aM ((bL3 hg BK740.out))
              have n7_ := aM ((bG3 hg BK740.out))
              have n8_ := aM ((bL3 hg BK745.out))
              have n9_ := aM ((bG3 hg BK745.out))
              clear BK740
              clear BK745
              clear HB
              have BK740 := n0_
              have BK745 := n1_
              have HB := n2_
              have BK751 := n3_
              have GW751 := n4_
              have GE751 := n5_
              have NB740_751 := n6_
              have NB751_740 := n7_
              have NB745_751 := n8_
              have NB751_745 := n9_
              clear n0_ n1_ n2_ n3_ n4_ n5_ n6_ n7_ n8_ n9_
              clear hb hbox hg
              refine hK.out _ _ ⟨(bC BK745.out 0).trans rfl, (bC BK745.out 1).trans rfl⟩ (fun hHeld => ?_)
              clear hK K
              refine norm_ (a' := ?_) ?_ ?_
              rotate_left
              · show Act.put _ (some 8) _ = _
                simp only [Act.put, lS, lZ, lC, i64_w, i32_w]
                rfl
              refine one_ (i := 2) (N := some 24) #[true, true, true, true, false, false, false, false, true, false, false] rfl rfl (one_of HT_.out (by kernel_rfl)) (by decide) (fun K hK => ?_)
              refine goes_ Try.func51 (by kernel_rfl) rfl #[.int .u64 t742, .int .u64 t742] (by rfl) rfl rfl (by (try simp only [List.map_toArray, List.map_cons, List.map_nil]); first | done | rfl | (simp only [List.length_drop, List.length_take]; rfl)) ?_
              with_reducible refine (twin_Mul.calls t742 t742 t746 t747 _ A5.out).mono ?_
              rintro e w164 ⟨rfl, hb⟩
              refine ⟨_, rfl, ?_⟩
              have n0_ := aM (bB3 BK740.out hb)
              have n1_ := aM (bB3 BK745.out hb)
              have n2_ := aM (bB3 BK751.out hb)
              have n3_ := aM (bS3 HB.out hb)
              clear BK740
              clear BK745
              clear BK751
              clear HB
              have BK740 := n0_
              have BK745 := n1_
              have BK751 := n2_
              have HB := n3_
              clear n0_ n1_ n2_ n3_
              (try clear hb)
              (try clear hb2)
              (try clear hk)
              (try clear hi)
              refine hK.out _ _ ⟨(bC BK745.out 0).trans rfl, (bC BK745.out 1).trans rfl⟩ (fun hHeld => ?_)
              clear hK K
              refine norm_ (a' := ?_) ?_ ?_
              rotate_left
              · show Act.put _ (some 24) _ = _
                simp only [Act.put, lS, lZ, lC, i64_w, i32_w]
                rfl
              refine one_ (i := 4) (N := some 26) #[true, true, true, true, true, false, false, false, true, false, false] rfl rfl (one_of HT_.out (by kernel_rfl)) (by decide) (fun K hK => ?_)
              refine goes_ Try.func50 (by kernel_rfl) rfl #[.agg #[.int .u64 t746, .int .u64 t747], .agg #[.int .u64 t743, .int .u64 t744]] (by rfl) rfl rfl (by (try simp only [List.map_toArray, List.map_cons, List.map_nil]); first | done | rfl | (simp only [List.length_drop, List.length_take]; rfl)) ?_
              with_reducible refine (twin_Add.calls t746 t747 t743 t744 t748 t749 false _ A6.out).mono ?_
              rintro e w165 ⟨rfl, hb⟩
              refine ⟨_, rfl, ?_⟩
              have n0_ := aM (bB3 BK740.out hb)
              have n1_ := aM (bB3 BK745.out hb)
              have n2_ := aM (bB3 BK751.out hb)
              have n3_ := aM (bS3 HB.out hb)
              clear BK740
              clear BK745
              clear BK751
              clear HB
              have BK740 := n0_
              have BK745 := n1_
              have BK751 := n2_
              have HB := n3_
              clear n0_ n1_ n2_ n3_
              (try clear hb)
              (try clear hb2)
              (try clear hk)
              (try clear hi)
              refine hK.out _ _ ⟨(bC BK745.out 0).trans rfl, (bC BK745.out 1).trans rfl⟩ (fun hHeld => ?_)
              clear hK K
              refine norm_ (a' := ?_) ?_ ?_
              rotate_left
              · show Act.put _ (some 26) _ = _
                simp only [Act.put, lS, lZ, lC, i64_w, i32_w]
                rfl
              refine pure_ (i := 5) (N := some 21) (v := ?_) (a' := ?_) #[true, true, true, true, true, true, false, false, true, false, false] rfl rfl (any_of HT_.out (by kernel_rfl)) (fun _ _ _ h => h) (Or.inl ⟨by rfl, ?_⟩) ?_ ?_
              rotate_left
              · intro w'
                go_simp
                with_reducible rfl
              rotate_left
              · simp only [Act.put, lS, lZ, lC, i64_w, i32_w]
                rfl
              refine pure_ (i := 6) (N := some 27) (v := ?_) (a' := ?_) #[true, true, true, true, true, true, true, false, true, false, false] rfl rfl (any_of HT_.out (by kernel_rfl)) (fun _ _ _ h => h) (Or.inl ⟨by rfl, ?_⟩) ?_ ?_
              rotate_left
              · intro w'
                go_simp
                with_reducible rfl
              rotate_left
              · simp only [Act.put, lS, lZ, lC, i64_w, i32_w]
                rfl
              refine pure_ (i := 7) (N := some 28) (v := ?_) (a' := ?_) #[true, true, true, true, true, true, true, true, true, false, false] rfl rfl (any_of HT_.out (by kernel_rfl)) (fun _ _ _ h => h) (Or.inl ⟨by rfl, ?_⟩) ?_ ?_
              rotate_left
              · intro w'
                go_simp
                with_reducible rfl
              rotate_left
              · simp only [Act.put, lS, lZ, lC, i64_w, i32_w]
                rfl
              exact norm_ (by simp only [putAll, Act.put, lS, lZ, lC]) (hCont (gb751) _ ⟨hHeld, (by (with_reducible repeat (first | refine bN ?_ _ | refine bD ?_ | refine bA ?_ _)); exact BK740.out), (by (with_reducible repeat (first | refine bN ?_ _ | refine bD ?_ | refine bA ?_ _)); exact BK745.out), (by (with_reducible repeat (first | refine bN ?_ _ | refine bD ?_ | refine bA ?_ _)); exact BK751.out), GW751.out, GE751.out, NB740_751.out, NB751_740.out, NB745_751.out, NB751_745.out, (by repeat (first | (with_reducible first | exact HB.out | apply pA | apply pN | apply p1 | refine pS ?_ GE740.out | refine pS ?_ GE745.out | refine pS ?_ GE751.out) | exact HB.out))⟩)
          rintro gb751 w166 ⟨hS_, h0_, h1_, h2_, h3_, h4_, h5_, h6_, h7_, h8_, h9_⟩
          have n0_ : Aside0 (w166.heap[gb740]? = some (.cells #[.int .u64 a0_0, .int .u64 a0_1] 55 (0, 0))) := ⟨h0_⟩
          have n1_ : Aside0 (w166.heap[gb745]? = some (.cells #[.int .u64 t743, .int .u64 t744] 55 (0, 0))) := ⟨h1_⟩
          have n2_ : Aside0 (w166.heap[gb751]? = some (.cells #[.int .u64 0, .int .u64 0] 55 (0, 0))) := ⟨h2_⟩
          have n3_ : Aside0 (w.heap.size ≤ gb751) := ⟨h3_⟩
          have n4_ : Aside0 (w.heap.size ≤ gb751) := ⟨h4_⟩
          have n5_ : Aside0 (gb740 ≠ gb751) := ⟨h5_⟩
          have n6_ : Aside0 (gb751 ≠ gb740) := ⟨h6_⟩
          have n7_ : Aside0 (gb745 ≠ gb751) := ⟨h7_⟩
          have n8_ : Aside0 (gb751 ≠ gb745) := ⟨h8_⟩
          have n9_ : Aside0 (Below w.heap.size w w166) := ⟨h9_⟩
          clear BK740
          clear BK745
          clear HB
          clear h0_ h1_ h2_ h3_ h4_ h5_ h6_ h7_ h8_ h9_
          have BK740 := n0_
          have BK745 := n1_
          have BK751 := n2_
          have GW751 := n3_
          have GE751 := n4_
          have NB740_751 := n5_
          have NB751_740 := n6_
          have NB745_751 := n7_
          have NB751_745 := n8_
          have HB := n9_
          clear n0_ n1_ n2_ n3_ n4_ n5_ n6_ n7_ n8_ n9_
          have hHeld : w166.cell? ⟨gb745, 0, none⟩ = some (.int .u64 t743) ∧ w166.cell? ⟨gb745, 1, none⟩ = some (.int .u64 t744) := hS_
          refine norm_ (a' := ?_) ?_ ?_
          rotate_left
          · simp only [putAll, Act.put, lS, lZ, lC]
            rfl
          refine one_ (i := 9) (N := none) #[true, true, true, true, true, true, true, true, true, true, false] rfl rfl (one_of HT_.out (by kernel_rfl)) (by decide) (fun K hK => ?_)
          have hs167 : w166.cell? ⟨gb751, 0, none⟩ = some (.int .u64 0) := (bC BK751.out 0).trans rfl
          have hfs167 := bF BK751.out 0
          have hns167_0 := NB740_751.out
          have hns167_1 := NB745_751.out
          have hms167_0 := NB751_740.out
          have hms167_1 := NB751_745.out
          have hs168 : w166.cell? ⟨gb751, 1, none⟩ = some (.int .u64 0) := (bC BK751.out 1).trans rfl
          have hfs168 := bF BK751.out 1
          have hns168_0 := NB740_751.out
          have hns168_1 := NB745_751.out
          have hms168_0 := NB751_740.out
          have hms168_1 := NB751_745.out
          refine skip_ (w1 := ?_) (by rfl) rfl ?_ ?_
          rotate_left
          · go_simp
            rfl
          refine hK.out _ _ ⟨((cell_far (p := ⟨gb751, _, none⟩) NB745_751.out _).trans (((cell_far (p := ⟨gb751, _, none⟩) NB745_751.out _).trans (hHeld.1)))), ((cell_far (p := ⟨gb751, _, none⟩) NB745_751.out _).trans (((cell_far (p := ⟨gb751, _, none⟩) NB745_751.out _).trans (hHeld.2))))⟩ (fun hHeld => ?_)
          clear hK K
          refine pure_ (i := 10) (N := some 9) (v := ?_) (a' := ?_) #[true, true, true, true, true, true, true, true, true, true, true] rfl rfl (any_of HT_.out (by kernel_rfl)) (fun _ _ _ h => h) (Or.inl ⟨by rfl, ?_⟩) ?_ ?_
          rotate_left
          · intro w'
            go_simp
            with_reducible rfl
          rotate_left
          · simp only [Act.put, lS, lZ, lC, i64_w, i32_w]
            rfl
          refine done_ (done_of HT_.out (by kernel_rfl)) ?_
          try go_wp2_with (first | ((with_reducible refine gC (f := 52) rfl ?_); refine gY (some 32) Try.func52 #[.agg #[.int .u64 0, .int .u64 t742], .int .i64 1] ?_; (with_reducible refine (twin_Shl.calls k 0 t742 1 t752 t753 t754 (some q763) _ A7.out).mono ?_); rintro e w169 ⟨rfl, hb⟩; refine ⟨_, rfl, ?_⟩; have n0_ := aM (bB (g := gb740) (o := .cells #[.int .u64 a0_0, .int .u64 a0_1] 55 (0, 0)) (by (with_reducible repeat (first | refine bN ?_ _ | refine bD ?_ | refine bA ?_ _)); refine blk_far ?_ NB740_751.out _; (with_reducible repeat (first | refine bN ?_ _ | refine bD ?_ | refine bA ?_ _)); refine blk_far ?_ NB740_751.out _; (with_reducible repeat (first | refine bN ?_ _ | refine bD ?_ | refine bA ?_ _)); exact BK740.out) hb); have n1_ := aM (bB (g := gb745) (o := .cells #[.int .u64 t743, .int .u64 t744] 55 (0, 0)) (by (with_reducible repeat (first | refine bN ?_ _ | refine bD ?_ | refine bA ?_ _)); refine blk_far ?_ NB745_751.out _; (with_reducible repeat (first | refine bN ?_ _ | refine bD ?_ | refine bA ?_ _)); refine blk_far ?_ NB745_751.out _; (with_reducible repeat (first | refine bN ?_ _ | refine bD ?_ | refine bA ?_ _)); exact BK745.out) hb); have n2_ := aM (bB (g := gb751) (o := .cells #[.int .u64 t748, .int .u64 t749] 55 (0, 0)) (by (with_reducible repeat (first | refine bN ?_ _ | refine bD ?_ | refine bA ?_ _)); refine blk_put (cs := #[.int .u64 t748, .int .u64 0]) ?_ 1 _ rfl; (with_reducible repeat (first | refine bN ?_ _ | refine bD ?_ | refine bA ?_ _)); refine blk_put (cs := #[.int .u64 0, .int .u64 0]) ?_ 0 _ rfl; (with_reducible repeat (first | refine bN ?_ _ | refine bD ?_ | refine bA ?_ _)); exact BK751.out) hb); have n3_ := aM (bS3 HB.out hb); clear BK740; clear BK745; clear BK751; clear HB; have BK740 := n0_; have BK745 := n1_; have BK751 := n2_; have HB := n3_; clear n0_ n1_ n2_ n3_; (try clear hb); (try simp only [errW_none, errW_some])) | ((with_reducible refine gD (N := 10) rfl ?_); refine bE3 10 #[.int .u64 0, .int .u64 0] 55 ?hr ?_; (case hr => first | (go_simp; done) | (go_simp; rfl)); intro gb756 hg w170 hbox hb; have n0_ := aM (bB3 BK740.out hb); have n1_ := aM (bB3 BK745.out hb); have n2_ := aM (bB3 BK751.out hb); have n3_ := aM (bS3 HB.out hb); have n4_ := aM (hbox); have n5_ := aM ((bZ3 hg HB.out)); have n6_ := aM ((bZ3 hg HB.out)); have n7_ := aM ((bL3 hg BK740.out)); have n8_ := aM ((bG3 hg BK740.out)); have n9_ := aM ((bL3 hg BK745.out)); have n10_ := aM ((bG3 hg BK745.out)); have n11_ := aM ((bL3 hg BK751.out)); have n12_ := aM ((bG3 hg BK751.out)); clear BK740; clear BK745; clear BK751; clear HB; have BK740 := n0_; have BK745 := n1_; have BK751 := n2_; have HB := n3_; have BK756 := n4_; have GW756 := n5_; have GE756 := n6_; have NB740_756 := n7_; have NB756_740 := n8_; have NB745_756 := n9_; have NB756_745 := n10_; have NB751_756 := n11_; have NB756_751 := n12_; clear n0_ n1_ n2_ n3_ n4_ n5_ n6_ n7_ n8_ n9_ n10_ n11_ n12_; clear hb hbox hg; have hnb171 := NB756_740.out; have hnc171 := NB740_756.out; have hnb172 := NB756_745.out; have hnc172 := NB745_756.out; have hnb173 := NB756_751.out; have hnc173 := NB751_756.out; have hcz174_0 : w170.cell? ⟨gb756, 0, none⟩ = some (.int .u64 0) := (bC BK756.out 0).trans rfl; have hcz174_1 : w170.cell? ⟨gb756, 1, none⟩ = some (.int .u64 0) := (bC BK756.out 1).trans rfl; have hfz174_0 := bF BK756.out 0; have hfz174_1 := bF BK756.out 1) | ((with_reducible refine gC (f := 51) rfl ?_); refine gY (some 39) Try.func51 #[.int .u64 a1, .int .u64 a1] ?_; (with_reducible refine (twin_Mul.calls a1 a1 t757 t758 _ A8.out).mono ?_); rintro e w175 ⟨rfl, hb⟩; refine ⟨_, rfl, ?_⟩; have n0_ := aM (bB (g := gb740) (o := .cells #[.int .u64 a0_0, .int .u64 a0_1] 55 (0, 0)) (by (with_reducible repeat (first | refine bN ?_ _ | refine bD ?_ | refine bA ?_ _)); refine blk_far ?_ NB740_756.out _; (with_reducible repeat (first | refine bN ?_ _ | refine bD ?_ | refine bA ?_ _)); refine blk_far ?_ NB740_756.out _; (with_reducible repeat (first | refine bN ?_ _ | refine bD ?_ | refine bA ?_ _)); exact BK740.out) hb); have n1_ := aM (bB (g := gb745) (o := .cells #[.int .u64 t743, .int .u64 t744] 55 (0, 0)) (by (with_reducible repeat (first | refine bN ?_ _ | refine bD ?_ | refine bA ?_ _)); refine blk_far ?_ NB745_756.out _; (with_reducible repeat (first | refine bN ?_ _ | refine bD ?_ | refine bA ?_ _)); refine blk_far ?_ NB745_756.out _; (with_reducible repeat (first | refine bN ?_ _ | refine bD ?_ | refine bA ?_ _)); exact BK745.out) hb); have n2_ := aM (bB (g := gb751) (o := .cells #[.int .u64 t748, .int .u64 t749] 55 (0, 0)) (by (with_reducible repeat (first | refine bN ?_ _ | refine bD ?_ | refine bA ?_ _)); refine blk_far ?_ NB751_756.out _; (with_reducible repeat (first | refine bN ?_ _ | refine bD ?_ | refine bA ?_ _)); refine blk_far ?_ NB751_756.out _; (with_reducible repeat (first | refine bN ?_ _ | refine bD ?_ | refine bA ?_ _)); exact BK751.out) hb); have n3_ := aM (bB (g := gb756) (o := .cells #[.int .u64 t752, .int .u64 t753] 55 (0, 0)) (by (with_reducible repeat (first | refine bN ?_ _ | refine bD ?_ | refine bA ?_ _)); refine blk_put (cs := #[.int .u64 t752, .int .u64 0]) ?_ 1 _ rfl; (with_reducible repeat (first | refine bN ?_ _ | refine bD ?_ | refine bA ?_ _)); refine blk_put (cs := #[.int .u64 0, .int .u64 0]) ?_ 0 _ rfl; (with_reducible repeat (first | refine bN ?_ _ | refine bD ?_ | refine bA ?_ _)); exact BK756.out) hb); have n4_ := aM (bS3 HB.out hb); clear BK740; clear BK745; clear BK751; clear BK756; clear HB; have BK740 := n0_; have BK745 := n1_; have BK751 := n2_; have BK756 := n3_; have HB := n4_; clear n0_ n1_ n2_ n3_ n4_; (try clear hb)) | ((with_reducible refine gC (f := 46) rfl ?_); refine gY (some 40) Try.func46 #[.agg #[.int .u64 t757, .int .u64 t758]] ?_; (with_reducible refine (part_Root.calls k t757 t758 t759 t760 t761 _ A9.out).mono ?_); rintro e w176 ⟨rfl, hb⟩; refine ⟨_, rfl, ?_⟩; have n0_ := aM (bB3 BK740.out hb); have n1_ := aM (bB3 BK745.out hb); have n2_ := aM (bB3 BK751.out hb); have n3_ := aM (bB3 BK756.out hb); have n4_ := aM (bS3 HB.out hb); clear BK740; clear BK745; clear BK751; clear BK756; clear HB; have BK740 := n0_; have BK745 := n1_; have BK751 := n2_; have BK756 := n3_; have HB := n4_; clear n0_ n1_ n2_ n3_ n4_; (try clear hb)) | ((with_reducible refine gD (N := 14) rfl ?_); refine bE3 14 #[.int .u64 0, .int .u64 0] 55 ?hr ?_; (case hr => first | (go_simp; done) | (go_simp; rfl)); intro gb762 hg w177 hbox hb; have n0_ := aM (bB3 BK740.out hb); have n1_ := aM (bB3 BK745.out hb); have n2_ := aM (bB3 BK751.out hb); have n3_ := aM (bB3 BK756.out hb); have n4_ := aM (bS3 HB.out hb); have n5_ := aM (hbox); have n6_ := aM ((bZ3 hg HB.out)); have n7_ := aM ((bZ3 hg HB.out)); have n8_ := aM ((bL3 hg BK740.out)); have n9_ := aM ((bG3 hg BK740.out)); have n10_ := aM ((bL3 hg BK745.out)); have n11_ := aM ((bG3 hg BK745.out)); have n12_ := aM ((bL3 hg BK751.out)); have n13_ := aM ((bG3 hg BK751.out)); have n14_ := aM ((bL3 hg BK756.out)); have n15_ := aM ((bG3 hg BK756.out)); clear BK740; clear BK745; clear BK751; clear BK756; clear HB; have BK740 := n0_; have BK745 := n1_; have BK751 := n2_; have BK756 := n3_; have HB := n4_; have BK762 := n5_; have GW762 := n6_; have GE762 := n7_; have NB740_762 := n8_; have NB762_740 := n9_; have NB745_762 := n10_; have NB762_745 := n11_; have NB751_762 := n12_; have NB762_751 := n13_; have NB756_762 := n14_; have NB762_756 := n15_; clear n0_ n1_ n2_ n3_ n4_ n5_ n6_ n7_ n8_ n9_ n10_ n11_ n12_ n13_ n14_ n15_; clear hb hbox hg; have hnb178 := NB762_740.out; have hnc178 := NB740_762.out; have hnb179 := NB762_745.out; have hnc179 := NB745_762.out; have hnb180 := NB762_751.out; have hnc180 := NB751_762.out; have hnb181 := NB762_756.out; have hnc181 := NB756_762.out; have hcz182_0 : w177.cell? ⟨gb762, 0, none⟩ = some (.int .u64 0) := (bC BK762.out 0).trans rfl; have hcz182_1 : w177.cell? ⟨gb762, 1, none⟩ = some (.int .u64 0) := (bC BK762.out 1).trans rfl; have hfz182_0 := bF BK762.out 0; have hfz182_1 := bF BK762.out 1; have hnb183 := NB751_740.out; have hnc183 := NB740_751.out; have hnb184 := NB751_745.out; have hnc184 := NB745_751.out; have hcz185_0 : w177.cell? ⟨gb751, 0, none⟩ = some (.int .u64 t748) := (bC BK751.out 0).trans rfl; have hcz185_1 : w177.cell? ⟨gb751, 1, none⟩ = some (.int .u64 t749) := (bC BK751.out 1).trans rfl; have hfz185_0 := bF BK751.out 0; have hfz185_1 := bF BK751.out 1; have hcz186_0 : w177.cell? ⟨gb740, 0, none⟩ = some (.int .u64 a0_0) := (bC BK740.out 0).trans rfl; have hcz186_1 : w177.cell? ⟨gb740, 1, none⟩ = some (.int .u64 a0_1) := (bC BK740.out 1).trans rfl; have hfz186_0 := bF BK740.out 0; have hfz186_1 := bF BK740.out 1))
          go_ret
          exact ⟨by first | rfl | (simp [errW_none, errW_some] <;> rfl) | (simp [*, errW_none, errW_some] <;> rfl), by repeat (first | (with_reducible first | exact HB.out | apply pA | apply pN | apply p1 | refine pS ?_ GE740.out | refine pS ?_ GE745.out | refine pS ?_ GE751.out | refine pS ?_ GE756.out | refine pS ?_ GE762.out) | exact HB.out)⟩
      · rw [if_neg c41] at H
        have c41b0 : (t748 == a0_0 && (t749 == a0_1)) = false := by simpa using c41
        (try (have c41b1 : decide (t748 = a0_0 && (t749 == a0_1)) = false := by simpa using c41))
        (try (have c41b2 : (t748 == a0_0 && (t749 == a0_1)) = false := by simpa using c41))
        (try (have c41b3 : ¬ (t748 = a0_0 && (t749 == a0_1)) := by simpa using c41))
        clear c41
        obtain rfl := Option.some.inj H
        go_enter Try.func14, Try.ntmps14
        try go_wp2_with (first | ((with_reducible refine gD (N := 2) rfl ?_); refine bE3 2 #[.int .u64 a0_0, .int .u64 a0_1] 55 ?hr ?_; (case hr => first | (go_simp; done) | (go_simp; rfl)); intro gb740 hg w187 hbox hb; have n0_ := aM (bS3 HB.out hb); have n1_ := aM (hbox); have n2_ := aM ((bZ3 hg HB.out)); have n3_ := aM ((bZ3 hg HB.out)); clear HB; have HB := n0_; have BK740 := n1_; have GW740 := n2_; have GE740 := n3_; clear n0_ n1_ n2_ n3_; clear hb hbox hg) | ((with_reducible refine gC (f := 43) rfl ?_); refine gY (some 15) Try.func43 #[] ?_; (with_reducible refine (vernierlaw03_up.calls k  true _ A3.out).mono ?_); rintro e w188 ⟨rfl, hb⟩; refine ⟨_, rfl, ?_⟩; have n0_ := aM (bB3 BK740.out hb); have n1_ := aM (bS3 HB.out hb); clear BK740; clear HB; have BK740 := n0_; have HB := n1_; clear n0_ n1_; (try clear hb); have hcz189_0 : w188.cell? ⟨gb740, 0, none⟩ = some (.int .u64 a0_0) := (bC BK740.out 0).trans rfl; have hcz189_1 : w188.cell? ⟨gb740, 1, none⟩ = some (.int .u64 a0_1) := (bC BK740.out 1).trans rfl; have hfz189_0 := bF BK740.out 0; have hfz189_1 := bF BK740.out 1) | ((with_reducible refine gC (f := 46) rfl ?_); refine gY (some 18) Try.func46 #[.agg #[.int .u64 a0_0, .int .u64 a0_1]] ?_; (with_reducible refine (part_Root.calls k a0_0 a0_1 t742 t743 t744 _ A4.out).mono ?_); rintro e w190 ⟨rfl, hb⟩; refine ⟨_, rfl, ?_⟩; have n0_ := aM (bB3 BK740.out hb); have n1_ := aM (bS3 HB.out hb); clear BK740; clear HB; have BK740 := n0_; have HB := n1_; clear n0_ n1_; (try clear hb)) | ((with_reducible refine gD (N := 7) rfl ?_); refine bE3 7 #[.int .u64 0, .int .u64 0] 55 ?hr ?_; (case hr => first | (go_simp; done) | (go_simp; rfl)); intro gb745 hg w191 hbox hb; have n0_ := aM (bB3 BK740.out hb); have n1_ := aM (bS3 HB.out hb); have n2_ := aM (hbox); have n3_ := aM ((bZ3 hg HB.out)); have n4_ := aM ((bZ3 hg HB.out)); have n5_ := aM ((bL3 hg BK740.out)); have n6_ := aM ((bG3 hg BK740.out)); clear BK740; clear HB; have BK740 := n0_; have HB := n1_; have BK745 := n2_; have GW745 := n3_; have GE745 := n4_; have NB740_745 := n5_; have NB745_740 := n6_; clear n0_ n1_ n2_ n3_ n4_ n5_ n6_; clear hb hbox hg; have hnb192 := NB745_740.out; have hnc192 := NB740_745.out; have hcz193_0 : w191.cell? ⟨gb745, 0, none⟩ = some (.int .u64 0) := (bC BK745.out 0).trans rfl; have hcz193_1 : w191.cell? ⟨gb745, 1, none⟩ = some (.int .u64 0) := (bC BK745.out 1).trans rfl; have hfz193_0 := bF BK745.out 0; have hfz193_1 := bF BK745.out 1))
        have n0_ : Aside0 (((w191.setCell ⟨gb745, 0, none⟩ (.int .u64 t743)).setCell ⟨gb745, 1, none⟩ (.int .u64 t744)).heap[gb740]? = some (.cells #[.int .u64 a0_0, .int .u64 a0_1] 55 (0, 0))) := ⟨by (with_reducible repeat (first | refine bN ?_ _ | refine bD ?_ | refine bA ?_ _)); refine blk_far ?_ NB740_745.out _; (with_reducible repeat (first | refine bN ?_ _ | refine bD ?_ | refine bA ?_ _)); refine blk_far ?_ NB740_745.out _; (with_reducible repeat (first | refine bN ?_ _ | refine bD ?_ | refine bA ?_ _)); exact BK740.out⟩
        have n1_ : Aside0 (((w191.setCell ⟨gb745, 0, none⟩ (.int .u64 t743)).setCell ⟨gb745, 1, none⟩ (.int .u64 t744)).heap[gb745]? = some (.cells #[.int .u64 t743, .int .u64 t744] 55 (0, 0))) := ⟨by (with_reducible repeat (first | refine bN ?_ _ | refine bD ?_ | refine bA ?_ _)); refine blk_put (cs := #[.int .u64 t743, .int .u64 0]) ?_ 1 _ rfl; (with_reducible repeat (first | refine bN ?_ _ | refine bD ?_ | refine bA ?_ _)); refine blk_put (cs := #[.int .u64 0, .int .u64 0]) ?_ 0 _ rfl; (with_reducible repeat (first | refine bN ?_ _ | refine bD ?_ | refine bA ?_ _)); exact BK745.out⟩
        have n2_ : Aside0 (Below w.heap.size w ((w191.setCell ⟨gb745, 0, none⟩ (.int .u64 t743)).setCell ⟨gb745, 1, none⟩ (.int .u64 t744))) := ⟨by repeat (first | (with_reducible first | exact HB.out | apply pA | apply pN | apply p1 | refine pS ?_ GE740.out | refine pS ?_ GE745.out) | exact HB.out)⟩
        (try clear BK740)
        (try clear BK745)
        (try clear HB)
        generalize ((w191.setCell ⟨gb745, 0, none⟩ (.int .u64 t743)).setCell ⟨gb745, 1, none⟩ (.int .u64 t744)) = w194 at n0_ n1_ n2_ ⊢
        have BK740 := n0_
        have BK745 := n1_
        have HB := n2_
        clear n0_ n1_ n2_
        have n0_ := aM (bD BK740.out)
        have n1_ := aM (bD BK745.out)
        have n2_ := aM (p1 HB.out)
        clear BK740
        clear BK745
        clear HB
        have BK740 := n0_
        have BK745 := n1_
        have HB := n2_
        clear n0_ n1_ n2_
        refine start_ (n := 11) (S := fun w' => w'.cell? ⟨gb745, 0, none⟩ = some (.int .u64 t743) ∧ w'.cell? ⟨gb745, 1, none⟩ = some (.int .u64 t744)) (ds := []) #[false, false, false, false, false, false, false, false, false, false, false] (by kernel_rfl) rfl rfl ⟨(bC BK745.out 0).trans rfl, (bC BK745.out 1).trans rfl⟩ (fun hHeld => ?_); refine with_tabW vernierlaw03_PartSquare.tab3 vernierlaw03_PartSquare.bits3 (fun HT_ HW_ => ?_)
        generalize w194.drew = w195 at BK740 BK745 HB hHeld ⊢
        refine pure_ (i := 0) (N := some 22) (v := ?_) (a' := ?_) #[true, false, false, false, false, false, false, false, false, false, false] rfl rfl (any_of HT_.out (by kernel_rfl)) (fun _ _ _ h => h) (Or.inl ⟨by rfl, ?_⟩) ?_ ?_
        rotate_left
        · intro w'
          go_simp
          with_reducible rfl
        rotate_left
        · simp only [Act.put, lS, lZ, lC, i64_w, i32_w]
          rfl
        refine pure_ (i := 1) (N := some 23) (v := ?_) (a' := ?_) #[true, true, false, false, false, false, false, false, false, false, false] rfl rfl (any_of HT_.out (by kernel_rfl)) (fun _ _ _ h => h) (Or.inl ⟨by rfl, ?_⟩) ?_ ?_
        rotate_left
        · intro w'
          go_simp
          with_reducible rfl
        rotate_left
        · simp only [Act.put, lS, lZ, lC, i64_w, i32_w]
          rfl
        refine take_ (i := 3) (N := some 25) (v := ?_) (a' := ?_) #[true, true, false, true, false, false, false, false, false, false, false] rfl rfl (take_ofW HT_.out HW_.out (by kernel_rfl)) (fun _ _ _ h => h) (Or.inl ⟨by rfl, ?_⟩) hHeld ?_ ?_
        rotate_left
        · rintro w' ⟨s0, s1⟩
          go_simp
          with_reducible rfl
        rotate_left
        · simp only [Act.put, lS, lZ, lC, i64_w, i32_w]
          rfl
        refine join_ (σ := Nat) 2 #[true, true, true, true, true, true, true, true, true, false, false] (fun s_ => [(24, .agg #[.int .u64 t746, .int .u64 t747]), (26, .tuple #[.agg #[.int .u64 t748, .int .u64 t749], .bool false]), (8, .pointer (some ⟨s_, 0, none⟩)), (21, .tuple #[.agg #[.int .u64 t748, .int .u64 t749], .bool false]), (27, .agg #[.int .u64 t748, .int .u64 t749]), (28, .bool false)]) (fun s_ w' => (w'.cell? ⟨gb745, 0, none⟩ = some (.int .u64 t743) ∧ w'.cell? ⟨gb745, 1, none⟩ = some (.int .u64 t744)) ∧ (w'.heap[gb740]? = some (.cells #[.int .u64 a0_0, .int .u64 a0_1] 55 (0, 0))) ∧ (w'.heap[gb745]? = some (.cells #[.int .u64 t743, .int .u64 t744] 55 (0, 0))) ∧ (w'.heap[s_]? = some (.cells #[.int .u64 0, .int .u64 0] 55 (0, 0))) ∧ (w.heap.size ≤ s_) ∧ (w.heap.size ≤ s_) ∧ (gb740 ≠ s_) ∧ (s_ ≠ gb740) ∧ (gb745 ≠ s_) ∧ (s_ ≠ gb745) ∧ (Below w.heap.size w w')) ?_ ?_
        rotate_left
        · intro hCont
          refine two_ (i := 2) (j := 8) (Ni := some 24) (Nj := some 8) #[true, true, true, true, false, false, false, false, false, false, false] #[true, true, false, true, false, false, false, false, true, false, false] rfl rfl rfl rfl (two_of HT_.out (by kernel_rfl)) (by decide) (by decide) (fun K hK => ?_) (fun K hK => ?_)
          · skip
            refine goes_ Try.func51 (by kernel_rfl) rfl #[.int .u64 t742, .int .u64 t742] (by rfl) rfl rfl (by (try simp only [List.map_toArray, List.map_cons, List.map_nil]); first | done | rfl | (simp only [List.length_drop, List.length_take]; rfl)) ?_
            with_reducible refine (twin_Mul.calls t742 t742 t746 t747 _ A5.out).mono ?_
            rintro e w196 ⟨rfl, hb⟩
            refine ⟨_, rfl, ?_⟩
            have n0_ := aM (bB3 BK740.out hb)
            have n1_ := aM (bB3 BK745.out hb)
            have n2_ := aM (bS3 HB.out hb)
            clear BK740
            clear BK745
            clear HB
            have BK740 := n0_
            have BK745 := n1_
            have HB := n2_
            clear n0_ n1_ n2_
            (try clear hb)
            (try clear hb2)
            (try clear hk)
            (try clear hi)
            refine hK.out _ _ ⟨(bC BK745.out 0).trans rfl, (bC BK745.out 1).trans rfl⟩ (fun hHeld => ?_)
            clear hK K
            refine norm_ (a' := ?_) ?_ ?_
            rotate_left
            · show Act.put _ (some 24) _ = _
              simp only [Act.put, lS, lZ, lC, i64_w, i32_w]
              rfl
            refine two_ (i := 4) (j := 8) (Ni := some 26) (Nj := some 8) #[true, true, true, true, true, false, false, false, false, false, false] #[true, true, true, true, false, false, false, false, true, false, false] rfl rfl rfl rfl (two_of HT_.out (by kernel_rfl)) (by decide) (by decide) (fun K hK => ?_) (fun K hK => ?_)
            · skip
              refine goes_ Try.func50 (by kernel_rfl) rfl #[.agg #[.int .u64 t746, .int .u64 t747], .agg #[.int .u64 t743, .int .u64 t744]] (by rfl) rfl rfl (by (try simp only [List.map_toArray, List.map_cons, List.map_nil]); first | done | rfl | (simp only [List.length_drop, List.length_take]; rfl)) ?_
              with_reducible refine (twin_Add.calls t746 t747 t743 t744 t748 t749 false _ A6.out).mono ?_
              rintro e w197 ⟨rfl, hb⟩
              refine ⟨_, rfl, ?_⟩
              have n0_ := aM (bB3 BK740.out hb)
              have n1_ := aM (bB3 BK745.out hb)
              have n2_ := aM (bS3 HB.out hb)
              clear BK740
              clear BK745
              clear HB
              have BK740 := n0_
              have BK745 := n1_
              have HB := n2_
              clear n0_ n1_ n2_
              (try clear hb)
              (try clear hb2)
              (try clear hk)
              (try clear hi)
              refine hK.out _ _ ⟨(bC BK745.out 0).trans rfl, (bC BK745.out 1).trans rfl⟩ (fun hHeld => ?_)
              clear hK K
              refine norm_ (a' := ?_) ?_ ?_
              rotate_left
              · show Act.put _ (some 26) _ = _
                simp only [Act.put, lS, lZ, lC, i64_w, i32_w]
                rfl
              refine pure_ (i := 5) (N := some 21) (v := ?_) (a' := ?_) #[true, true, true, true, true, true, false, false, false, false, false] rfl rfl (any_of HT_.out (by kernel_rfl)) (fun _ _ _ h => h) (Or.inl ⟨by rfl, ?_⟩) ?_ ?_
              rotate_left
              · intro w'
                go_simp
                with_reducible rfl
              rotate_left
              · simp only [Act.put, lS, lZ, lC, i64_w, i32_w]
                rfl
              refine pure_ (i := 6) (N := some 27) (v := ?_) (a' := ?_) #[true, true, true, true, true, true, true, false, false, false, false] rfl rfl (any_of HT_.out (by kernel_rfl)) (fun _ _ _ h => h) (Or.inl ⟨by rfl, ?_⟩) ?_ ?_
              rotate_left
              · intro w'
                go_simp
                with_reducible rfl
              rotate_left
              · simp only [Act.put, lS, lZ, lC, i64_w, i32_w]
                rfl
              refine pure_ (i := 7) (N := some 28) (v := ?_) (a' := ?_) #[true, true, true, true, true, true, true, true, false, false, false] rfl rfl (any_of HT_.out (by kernel_rfl)) (fun _ _ _ h => h) (Or.inl ⟨by rfl, ?_⟩) ?_ ?_
              rotate_left
              · intro w'
                go_simp
                with_reducible rfl
              rotate_left
              · simp only [Act.put, lS, lZ, lC, i64_w, i32_w]
                rfl
              refine one_ (i := 8) (N := some 8) #[true, true, true, true, true, true, true, true, true, false, false] rfl rfl (one_of HT_.out (by kernel_rfl)) (by decide) (fun K hK => ?_)
              refine box_step ?hg (N := 8) ?hd (cs := #[.int .u64 0, .int .u64 0]) (t := 55) ?hr ?_; (case hd => rfl); (case hg => rfl); (case hr => first | (go_simp; done) | (go_simp; rfl))
              intro gb751 hg w198 hbox hb
              have n0_ := aM (bB3 BK740.out hb)
              have n1_ := aM (bB3 BK745.out hb)
              have n2_ := aM (bS3 HB.out hb)
              have n3_ := aM (hbox)
              have n4_ := aM ((bZ3 hg HB.out))
              have n5_ := aM ((bZ3 hg HB.out))
              have n6_ := aM ((bL3 hg BK740.out))
              have n7_ := aM ((bG3 hg BK740.out))
              have n8_ := aM ((bL3 hg BK745.out))
              have n9_ := aM ((bG3 hg BK745.out))
              clear BK740
              clear BK745
              clear HB
              have BK740 := n0_
              have BK745 := n1_
              have HB := n2_
              have BK751 := n3_
              have GW751 := n4_
              have GE751 := n5_
              have NB740_751 := n6_
              have NB751_740 := n7_
              have NB745_751 := n8_
              have NB751_745 := n9_
              clear n0_ n1_ n2_ n3_ n4_ n5_ n6_ n7_ n8_ n9_
              clear hb hbox hg
              refine hK.out _ _ ⟨(bC BK745.out 0).trans rfl, (bC BK745.out 1).trans rfl⟩ (fun hHeld => ?_)
              clear hK K
              refine norm_ (a' := ?_) ?_ ?_
              rotate_left
              · show Act.put _ (some 8) _ = _
                simp only [Act.put, lS, lZ, lC, i64_w, i32_w]
                rfl
              exact norm_ (by simp only [putAll, Act.put, lS, lZ, lC]) (hCont (gb751) _ ⟨hHeld, (by (with_reducible repeat (first | refine bN ?_ _ | refine bD ?_ | refine bA ?_ _)); exact BK740.out), (by (with_reducible repeat (first | refine bN ?_ _ | refine bD ?_ | refine bA ?_ _)); exact BK745.out), (by (with_reducible repeat (first | refine bN ?_ _ | refine bD ?_ | refine bA ?_ _)); exact BK751.out), GW751.out, GE751.out, NB740_751.out, NB751_740.out, NB745_751.out, NB751_745.out, (by repeat (first | (with_reducible first | exact HB.out | apply pA | apply pN | apply p1 | refine pS ?_ GE740.out | refine pS ?_ GE745.out | refine pS ?_ GE751.out) | exact HB.out))⟩)
            · skip
              refine box_step ?hg (N := 8) ?hd (cs := #[.int .u64 0, .int .u64 0]) (t := 55) ?hr ?_; (case hd => rfl); (case hg => rfl); (case hr => first | (go_simp; done) | (go_simp; rfl))
              intro gb751 hg w197 hbox hb
              have n0_ := aM (bB3 BK740.out hb)
              have n1_ := aM (bB3 BK745.out hb)
              have n2_ := aM (bS3 HB.out hb)
              have n3_ := aM (hbox)
              have n4_ := aM ((bZ3 hg HB.out))
              have n5_ := aM ((bZ3 hg HB.out))
              have n6_ := aM ((bL3 hg BK740.out))
              have n7_ := aM ((bG3 hg BK740.out))
              have n8_ := aM ((bL3 hg BK745.out))
              have n9_ := aM ((bG3 hg BK745.out))
              clear BK740
              clear BK745
              clear HB
              have BK740 := n0_
              have BK745 := n1_
              have HB := n2_
              have BK751 := n3_
              have GW751 := n4_
              have GE751 := n5_
              have NB740_751 := n6_
              have NB751_740 := n7_
              have NB745_751 := n8_
              have NB751_745 := n9_
              clear n0_ n1_ n2_ n3_ n4_ n5_ n6_ n7_ n8_ n9_
              clear hb hbox hg
              refine hK.out _ _ ⟨(bC BK745.out 0).trans rfl, (bC BK745.out 1).trans rfl⟩ (fun hHeld => ?_)
              clear hK K
              refine norm_ (a' := ?_) ?_ ?_
              rotate_left
              · show Act.put _ (some 8) _ = _
                simp only [Act.put, lS, lZ, lC, i64_w, i32_w]
                rfl
              refine one_ (i := 4) (N := some 26) #[true, true, true, true, true, false, false, false, true, false, false] rfl rfl (one_of HT_.out (by kernel_rfl)) (by decide) (fun K hK => ?_)
              refine goes_ Try.func50 (by kernel_rfl) rfl #[.agg #[.int .u64 t746, .int .u64 t747], .agg #[.int .u64 t743, .int .u64 t744]] (by rfl) rfl rfl (by (try simp only [List.map_toArray, List.map_cons, List.map_nil]); first | done | rfl | (simp only [List.length_drop, List.length_take]; rfl)) ?_
              with_reducible refine (twin_Add.calls t746 t747 t743 t744 t748 t749 false _ A6.out).mono ?_
              rintro e w198 ⟨rfl, hb⟩
              refine ⟨_, rfl, ?_⟩
              have n0_ := aM (bB3 BK740.out hb)
              have n1_ := aM (bB3 BK745.out hb)
              have n2_ := aM (bB3 BK751.out hb)
              have n3_ := aM (bS3 HB.out hb)
              clear BK740
              clear BK745
              clear BK751
              clear HB
              have BK740 := n0_
              have BK745 := n1_
              have BK751 := n2_
              have HB := n3_
              clear n0_ n1_ n2_ n3_
              (try clear hb)
              (try clear hb2)
              (try clear hk)
              (try clear hi)
              refine hK.out _ _ ⟨(bC BK745.out 0).trans rfl, (bC BK745.out 1).trans rfl⟩ (fun hHeld => ?_)
              clear hK K
              refine norm_ (a' := ?_) ?_ ?_
              rotate_left
              · show Act.put _ (some 26) _ = _
                simp only [Act.put, lS, lZ, lC, i64_w, i32_w]
                rfl
              refine pure_ (i := 5) (N := some 21) (v := ?_) (a' := ?_) #[true, true, true, true, true, true, false, false, true, false, false] rfl rfl (any_of HT_.out (by kernel_rfl)) (fun _ _ _ h => h) (Or.inl ⟨by rfl, ?_⟩) ?_ ?_
              rotate_left
              · intro w'
                go_simp
                with_reducible rfl
              rotate_left
              · simp only [Act.put, lS, lZ, lC, i64_w, i32_w]
                rfl
              refine pure_ (i := 6) (N := some 27) (v := ?_) (a' := ?_) #[true, true, true, true, true, true, true, false, true, false, false] rfl rfl (any_of HT_.out (by kernel_rfl)) (fun _ _ _ h => h) (Or.inl ⟨by rfl, ?_⟩) ?_ ?_
              rotate_left
              · intro w'
                go_simp
                with_reducible rfl
              rotate_left
              · simp only [Act.put, lS, lZ, lC, i64_w, i32_w]
                rfl
              refine pure_ (i := 7) (N := some 28) (v := ?_) (a' := ?_) #[true, true, true, true, true, true, true, true, true, false, false] rfl rfl (any_of HT_.out (by kernel_rfl)) (fun _ _ _ h => h) (Or.inl ⟨by rfl, ?_⟩) ?_ ?_
              rotate_left
              · intro w'
                go_simp
                with_reducible rfl
              rotate_left
              · simp only [Act.put, lS, lZ, lC, i64_w, i32_w]
                rfl
              exact norm_ (by simp only [putAll, Act.put, lS, lZ, lC]) (hCont (gb751) _ ⟨hHeld, (by (with_reducible repeat (first | refine bN ?_ _ | refine bD ?_ | refine bA ?_ _)); exact BK740.out), (by (with_reducible repeat (first | refine bN ?_ _ | refine bD ?_ | refine bA ?_ _)); exact BK745.out), (by (with_reducible repeat (first | refine bN ?_ _ | refine bD ?_ | refine bA ?_ _)); exact BK751.out), GW751.out, GE751.out, NB740_751.out, NB751_740.out, NB745_751.out, NB751_745.out, (by repeat (first | (with_reducible first | exact HB.out | apply pA | apply pN | apply p1 | refine pS ?_ GE740.out | refine pS ?_ GE745.out | refine pS ?_ GE751.out) | exact HB.out))⟩)
          · skip
            refine box_step ?hg (N := 8) ?hd (cs := #[.int .u64 0, .int .u64 0]) (t := 55) ?hr ?_; (case hd => rfl); (case hg => rfl); (case hr => first | (go_simp; done) | (go_simp; rfl))
            intro gb751 hg w196 hbox hb
            have n0_ := aM (bB3 BK740.out hb)
            have n1_ := aM (bB3 BK745.out hb)
            have n2_ := aM (bS3 HB.out hb)
            have n3_ := aM (hbox)
            have n4_ := aM ((bZ3 hg HB.out))
            have n5_ := aM ((bZ3 hg HB.out))
            have n6_ := aM ((bL3 hg BK740.out))
            have n7_ := aM ((bG3 hg BK740.out))
            have n8_ := aM ((bL3 hg BK745.out))
            have n9_ := aM ((bG3 hg BK745.out))
            clear BK740
            clear BK745
            clear HB
            have BK740 := n0_
            have BK745 := n1_
            have HB := n2_
            have BK751 := n3_
            have GW751 := n4_
            have GE751 := n5_
            have NB740_751 := n6_
            have NB751_740 := n7_
            have NB745_751 := n8_
            have NB751_745 := n9_
            clear n0_ n1_ n2_ n3_ n4_ n5_ n6_ n7_ n8_ n9_
            clear hb hbox hg
            refine hK.out _ _ ⟨(bC BK745.out 0).trans rfl, (bC BK745.out 1).trans rfl⟩ (fun hHeld => ?_)
            clear hK K
            refine norm_ (a' := ?_) ?_ ?_
            rotate_left
            · show Act.put _ (some 8) _ = _
              simp only [Act.put, lS, lZ, lC, i64_w, i32_w]
              rfl
            refine one_ (i := 2) (N := some 24) #[true, true, true, true, false, false, false, false, true, false, false] rfl rfl (one_of HT_.out (by kernel_rfl)) (by decide) (fun K hK => ?_)
            refine goes_ Try.func51 (by kernel_rfl) rfl #[.int .u64 t742, .int .u64 t742] (by rfl) rfl rfl (by (try simp only [List.map_toArray, List.map_cons, List.map_nil]); first | done | rfl | (simp only [List.length_drop, List.length_take]; rfl)) ?_
            with_reducible refine (twin_Mul.calls t742 t742 t746 t747 _ A5.out).mono ?_
            rintro e w197 ⟨rfl, hb⟩
            refine ⟨_, rfl, ?_⟩
            have n0_ := aM (bB3 BK740.out hb)
            have n1_ := aM (bB3 BK745.out hb)
            have n2_ := aM (bB3 BK751.out hb)
            have n3_ := aM (bS3 HB.out hb)
            clear BK740
            clear BK745
            clear BK751
            clear HB
            have BK740 := n0_
            have BK745 := n1_
            have BK751 := n2_
            have HB := n3_
            clear n0_ n1_ n2_ n3_
            (try clear hb)
            (try clear hb2)
            (try clear hk)
            (try clear hi)
            refine hK.out _ _ ⟨(bC BK745.out 0).trans rfl, (bC BK745.out 1).trans rfl⟩ (fun hHeld => ?_)
            clear hK K
            refine norm_ (a' := ?_) ?_ ?_
            rotate_left
            · show Act.put _ (some 24) _ = _
              simp only [Act.put, lS, lZ, lC, i64_w, i32_w]
              rfl
            refine one_ (i := 4) (N := some 26) #[true, true, true, true, true, false, false, false, true, false, false] rfl rfl (one_of HT_.out (by kernel_rfl)) (by decide) (fun K hK => ?_)
            refine goes_ Try.func50 (by kernel_rfl) rfl #[.agg #[.int .u64 t746, .int .u64 t747], .agg #[.int .u64 t743, .int .u64 t744]] (by rfl) rfl rfl (by (try simp only [List.map_toArray, List.map_cons, List.map_nil]); first | done | rfl | (simp only [List.length_drop, List.length_take]; rfl)) ?_
            with_reducible refine (twin_Add.calls t746 t747 t743 t744 t748 t749 false _ A6.out).mono ?_
            rintro e w198 ⟨rfl, hb⟩
            refine ⟨_, rfl, ?_⟩
            have n0_ := aM (bB3 BK740.out hb)
            have n1_ := aM (bB3 BK745.out hb)
            have n2_ := aM (bB3 BK751.out hb)
            have n3_ := aM (bS3 HB.out hb)
            clear BK740
            clear BK745
            clear BK751
            clear HB
            have BK740 := n0_
            have BK745 := n1_
            have BK751 := n2_
            have HB := n3_
            clear n0_ n1_ n2_ n3_
            (try clear hb)
            (try clear hb2)
            (try clear hk)
            (try clear hi)
            refine hK.out _ _ ⟨(bC BK745.out 0).trans rfl, (bC BK745.out 1).trans rfl⟩ (fun hHeld => ?_)
            clear hK K
            refine norm_ (a' := ?_) ?_ ?_
            rotate_left
            · show Act.put _ (some 26) _ = _
              simp only [Act.put, lS, lZ, lC, i64_w, i32_w]
              rfl
            refine pure_ (i := 5) (N := some 21) (v := ?_) (a' := ?_) #[true, true, true, true, true, true, false, false, true, false, false] rfl rfl (any_of HT_.out (by kernel_rfl)) (fun _ _ _ h => h) (Or.inl ⟨by rfl, ?_⟩) ?_ ?_
            rotate_left
            · intro w'
              go_simp
              with_reducible rfl
            rotate_left
            · simp only [Act.put, lS, lZ, lC, i64_w, i32_w]
              rfl
            refine pure_ (i := 6) (N := some 27) (v := ?_) (a' := ?_) #[true, true, true, true, true, true, true, false, true, false, false] rfl rfl (any_of HT_.out (by kernel_rfl)) (fun _ _ _ h => h) (Or.inl ⟨by rfl, ?_⟩) ?_ ?_
            rotate_left
            · intro w'
              go_simp
              with_reducible rfl
            rotate_left
            · simp only [Act.put, lS, lZ, lC, i64_w, i32_w]
              rfl
            refine pure_ (i := 7) (N := some 28) (v := ?_) (a' := ?_) #[true, true, true, true, true, true, true, true, true, false, false] rfl rfl (any_of HT_.out (by kernel_rfl)) (fun _ _ _ h => h) (Or.inl ⟨by rfl, ?_⟩) ?_ ?_
            rotate_left
            · intro w'
              go_simp
              with_reducible rfl
            rotate_left
            · simp only [Act.put, lS, lZ, lC, i64_w, i32_w]
              rfl
            exact norm_ (by simp only [putAll, Act.put, lS, lZ, lC]) (hCont (gb751) _ ⟨hHeld, (by (with_reducible repeat (first | refine bN ?_ _ | refine bD ?_ | refine bA ?_ _)); exact BK740.out), (by (with_reducible repeat (first | refine bN ?_ _ | refine bD ?_ | refine bA ?_ _)); exact BK745.out), (by (with_reducible repeat (first | refine bN ?_ _ | refine bD ?_ | refine bA ?_ _)); exact BK751.out), GW751.out, GE751.out, NB740_751.out, NB751_740.out, NB745_751.out, NB751_745.out, (by repeat (first | (with_reducible first | exact HB.out | apply pA | apply pN | apply p1 | refine pS ?_ GE740.out | refine pS ?_ GE745.out | refine pS ?_ GE751.out) | exact HB.out))⟩)
        rintro gb751 w199 ⟨hS_, h0_, h1_, h2_, h3_, h4_, h5_, h6_, h7_, h8_, h9_⟩
        have n0_ : Aside0 (w199.heap[gb740]? = some (.cells #[.int .u64 a0_0, .int .u64 a0_1] 55 (0, 0))) := ⟨h0_⟩
        have n1_ : Aside0 (w199.heap[gb745]? = some (.cells #[.int .u64 t743, .int .u64 t744] 55 (0, 0))) := ⟨h1_⟩
        have n2_ : Aside0 (w199.heap[gb751]? = some (.cells #[.int .u64 0, .int .u64 0] 55 (0, 0))) := ⟨h2_⟩
        have n3_ : Aside0 (w.heap.size ≤ gb751) := ⟨h3_⟩
        have n4_ : Aside0 (w.heap.size ≤ gb751) := ⟨h4_⟩
        have n5_ : Aside0 (gb740 ≠ gb751) := ⟨h5_⟩
        have n6_ : Aside0 (gb751 ≠ gb740) := ⟨h6_⟩
        have n7_ : Aside0 (gb745 ≠ gb751) := ⟨h7_⟩
        have n8_ : Aside0 (gb751 ≠ gb745) := ⟨h8_⟩
        have n9_ : Aside0 (Below w.heap.size w w199) := ⟨h9_⟩
        clear BK740
        clear BK745
        clear HB
        clear h0_ h1_ h2_ h3_ h4_ h5_ h6_ h7_ h8_ h9_
        have BK740 := n0_
        have BK745 := n1_
        have BK751 := n2_
        have GW751 := n3_
        have GE751 := n4_
        have NB740_751 := n5_
        have NB751_740 := n6_
        have NB745_751 := n7_
        have NB751_745 := n8_
        have HB := n9_
        clear n0_ n1_ n2_ n3_ n4_ n5_ n6_ n7_ n8_ n9_
        have hHeld : w199.cell? ⟨gb745, 0, none⟩ = some (.int .u64 t743) ∧ w199.cell? ⟨gb745, 1, none⟩ = some (.int .u64 t744) := hS_
        refine norm_ (a' := ?_) ?_ ?_
        rotate_left
        · simp only [putAll, Act.put, lS, lZ, lC]
          rfl
        refine one_ (i := 9) (N := none) #[true, true, true, true, true, true, true, true, true, true, false] rfl rfl (one_of HT_.out (by kernel_rfl)) (by decide) (fun K hK => ?_)
        have hs200 : w199.cell? ⟨gb751, 0, none⟩ = some (.int .u64 0) := (bC BK751.out 0).trans rfl
        have hfs200 := bF BK751.out 0
        have hns200_0 := NB740_751.out
        have hns200_1 := NB745_751.out
        have hms200_0 := NB751_740.out
        have hms200_1 := NB751_745.out
        have hs201 : w199.cell? ⟨gb751, 1, none⟩ = some (.int .u64 0) := (bC BK751.out 1).trans rfl
        have hfs201 := bF BK751.out 1
        have hns201_0 := NB740_751.out
        have hns201_1 := NB745_751.out
        have hms201_0 := NB751_740.out
        have hms201_1 := NB751_745.out
        refine skip_ (w1 := ?_) (by rfl) rfl ?_ ?_
        rotate_left
        · go_simp
          rfl
        refine hK.out _ _ ⟨((cell_far (p := ⟨gb751, _, none⟩) NB745_751.out _).trans (((cell_far (p := ⟨gb751, _, none⟩) NB745_751.out _).trans (hHeld.1)))), ((cell_far (p := ⟨gb751, _, none⟩) NB745_751.out _).trans (((cell_far (p := ⟨gb751, _, none⟩) NB745_751.out _).trans (hHeld.2))))⟩ (fun hHeld => ?_)
        clear hK K
        refine pure_ (i := 10) (N := some 9) (v := ?_) (a' := ?_) #[true, true, true, true, true, true, true, true, true, true, true] rfl rfl (any_of HT_.out (by kernel_rfl)) (fun _ _ _ h => h) (Or.inl ⟨by rfl, ?_⟩) ?_ ?_
        rotate_left
        · intro w'
          go_simp
          with_reducible rfl
        rotate_left
        · simp only [Act.put, lS, lZ, lC, i64_w, i32_w]
          rfl
        refine done_ (done_of HT_.out (by kernel_rfl)) ?_
        try go_wp2_with (first | ((with_reducible refine gC (f := 52) rfl ?_); refine gY (some 32) Try.func52 #[.agg #[.int .u64 0, .int .u64 t742], .int .i64 1] ?_; (with_reducible refine (twin_Shl.calls k 0 t742 1 t752 t753 t754 t755 _ A7.out).mono ?_); rintro e w202 ⟨rfl, hb⟩; refine ⟨_, rfl, ?_⟩; have n0_ := aM (bB (g := gb740) (o := .cells #[.int .u64 a0_0, .int .u64 a0_1] 55 (0, 0)) (by (with_reducible repeat (first | refine bN ?_ _ | refine bD ?_ | refine bA ?_ _)); refine blk_far ?_ NB740_751.out _; (with_reducible repeat (first | refine bN ?_ _ | refine bD ?_ | refine bA ?_ _)); refine blk_far ?_ NB740_751.out _; (with_reducible repeat (first | refine bN ?_ _ | refine bD ?_ | refine bA ?_ _)); exact BK740.out) hb); have n1_ := aM (bB (g := gb745) (o := .cells #[.int .u64 t743, .int .u64 t744] 55 (0, 0)) (by (with_reducible repeat (first | refine bN ?_ _ | refine bD ?_ | refine bA ?_ _)); refine blk_far ?_ NB745_751.out _; (with_reducible repeat (first | refine bN ?_ _ | refine bD ?_ | refine bA ?_ _)); refine blk_far ?_ NB745_751.out _; (with_reducible repeat (first | refine bN ?_ _ | refine bD ?_ | refine bA ?_ _)); exact BK745.out) hb); have n2_ := aM (bB (g := gb751) (o := .cells #[.int .u64 t748, .int .u64 t749] 55 (0, 0)) (by (with_reducible repeat (first | refine bN ?_ _ | refine bD ?_ | refine bA ?_ _)); refine blk_put (cs := #[.int .u64 t748, .int .u64 0]) ?_ 1 _ rfl; (with_reducible repeat (first | refine bN ?_ _ | refine bD ?_ | refine bA ?_ _)); refine blk_put (cs := #[.int .u64 0, .int .u64 0]) ?_ 0 _ rfl; (with_reducible repeat (first | refine bN ?_ _ | refine bD ?_ | refine bA ?_ _)); exact BK751.out) hb); have n3_ := aM (bS3 HB.out hb); clear BK740; clear BK745; clear BK751; clear HB; have BK740 := n0_; have BK745 := n1_; have BK751 := n2_; have HB := n3_; clear n0_ n1_ n2_ n3_; (try clear hb); (try simp only [errW_none, errW_some])) | ((with_reducible refine gD (N := 10) rfl ?_); refine bE3 10 #[.int .u64 0, .int .u64 0] 55 ?hr ?_; (case hr => first | (go_simp; done) | (go_simp; rfl)); intro gb756 hg w203 hbox hb; have n0_ := aM (bB3 BK740.out hb); have n1_ := aM (bB3 BK745.out hb); have n2_ := aM (bB3 BK751.out hb); have n3_ := aM (bS3 HB.out hb); have n4_ := aM (hbox); have n5_ := aM ((bZ3 hg HB.out)); have n6_ := aM ((bZ3 hg HB.out)); have n7_ := aM ((bL3 hg BK740.out)); have n8_ := aM ((bG3 hg BK740.out)); have n9_ := aM ((bL3 hg BK745.out)); have n10_ := aM ((bG3 hg BK745.out)); have n11_ := aM ((bL3 hg BK751.out)); have n12_ := aM ((bG3 hg BK751.out)); clear BK740; clear BK745; clear BK751; clear HB; have BK740 := n0_; have BK745 := n1_; have BK751 := n2_; have HB := n3_; have BK756 := n4_; have GW756 := n5_; have GE756 := n6_; have NB740_756 := n7_; have NB756_740 := n8_; have NB745_756 := n9_; have NB756_745 := n10_; have NB751_756 := n11_; have NB756_751 := n12_; clear n0_ n1_ n2_ n3_ n4_ n5_ n6_ n7_ n8_ n9_ n10_ n11_ n12_; clear hb hbox hg; have hnb204 := NB756_740.out; have hnc204 := NB740_756.out; have hnb205 := NB756_745.out; have hnc205 := NB745_756.out; have hnb206 := NB756_751.out; have hnc206 := NB751_756.out; have hcz207_0 : w203.cell? ⟨gb756, 0, none⟩ = some (.int .u64 0) := (bC BK756.out 0).trans rfl; have hcz207_1 : w203.cell? ⟨gb756, 1, none⟩ = some (.int .u64 0) := (bC BK756.out 1).trans rfl; have hfz207_0 := bF BK756.out 0; have hfz207_1 := bF BK756.out 1) | ((with_reducible refine gC (f := 51) rfl ?_); refine gY (some 39) Try.func51 #[.int .u64 a1, .int .u64 a1] ?_; (with_reducible refine (twin_Mul.calls a1 a1 t757 t758 _ A8.out).mono ?_); rintro e w208 ⟨rfl, hb⟩; refine ⟨_, rfl, ?_⟩; have n0_ := aM (bB (g := gb740) (o := .cells #[.int .u64 a0_0, .int .u64 a0_1] 55 (0, 0)) (by (with_reducible repeat (first | refine bN ?_ _ | refine bD ?_ | refine bA ?_ _)); refine blk_far ?_ NB740_756.out _; (with_reducible repeat (first | refine bN ?_ _ | refine bD ?_ | refine bA ?_ _)); refine blk_far ?_ NB740_756.out _; (with_reducible repeat (first | refine bN ?_ _ | refine bD ?_ | refine bA ?_ _)); exact BK740.out) hb); have n1_ := aM (bB (g := gb745) (o := .cells #[.int .u64 t743, .int .u64 t744] 55 (0, 0)) (by (with_reducible repeat (first | refine bN ?_ _ | refine bD ?_ | refine bA ?_ _)); refine blk_far ?_ NB745_756.out _; (with_reducible repeat (first | refine bN ?_ _ | refine bD ?_ | refine bA ?_ _)); refine blk_far ?_ NB745_756.out _; (with_reducible repeat (first | refine bN ?_ _ | refine bD ?_ | refine bA ?_ _)); exact BK745.out) hb); have n2_ := aM (bB (g := gb751) (o := .cells #[.int .u64 t748, .int .u64 t749] 55 (0, 0)) (by (with_reducible repeat (first | refine bN ?_ _ | refine bD ?_ | refine bA ?_ _)); refine blk_far ?_ NB751_756.out _; (with_reducible repeat (first | refine bN ?_ _ | refine bD ?_ | refine bA ?_ _)); refine blk_far ?_ NB751_756.out _; (with_reducible repeat (first | refine bN ?_ _ | refine bD ?_ | refine bA ?_ _)); exact BK751.out) hb); have n3_ := aM (bB (g := gb756) (o := .cells #[.int .u64 t752, .int .u64 t753] 55 (0, 0)) (by (with_reducible repeat (first | refine bN ?_ _ | refine bD ?_ | refine bA ?_ _)); refine blk_put (cs := #[.int .u64 t752, .int .u64 0]) ?_ 1 _ rfl; (with_reducible repeat (first | refine bN ?_ _ | refine bD ?_ | refine bA ?_ _)); refine blk_put (cs := #[.int .u64 0, .int .u64 0]) ?_ 0 _ rfl; (with_reducible repeat (first | refine bN ?_ _ | refine bD ?_ | refine bA ?_ _)); exact BK756.out) hb); have n4_ := aM (bS3 HB.out hb); clear BK740; clear BK745; clear BK751; clear BK756; clear HB; have BK740 := n0_; have BK745 := n1_; have BK751 := n2_; have BK756 := n3_; have HB := n4_; clear n0_ n1_ n2_ n3_ n4_; (try clear hb)) | ((with_reducible refine gC (f := 46) rfl ?_); refine gY (some 40) Try.func46 #[.agg #[.int .u64 t757, .int .u64 t758]] ?_; (with_reducible refine (part_Root.calls k t757 t758 t759 t760 t761 _ A9.out).mono ?_); rintro e w209 ⟨rfl, hb⟩; refine ⟨_, rfl, ?_⟩; have n0_ := aM (bB3 BK740.out hb); have n1_ := aM (bB3 BK745.out hb); have n2_ := aM (bB3 BK751.out hb); have n3_ := aM (bB3 BK756.out hb); have n4_ := aM (bS3 HB.out hb); clear BK740; clear BK745; clear BK751; clear BK756; clear HB; have BK740 := n0_; have BK745 := n1_; have BK751 := n2_; have BK756 := n3_; have HB := n4_; clear n0_ n1_ n2_ n3_ n4_; (try clear hb)) | ((with_reducible refine gD (N := 14) rfl ?_); refine bE3 14 #[.int .u64 0, .int .u64 0] 55 ?hr ?_; (case hr => first | (go_simp; done) | (go_simp; rfl)); intro gb762 hg w210 hbox hb; have n0_ := aM (bB3 BK740.out hb); have n1_ := aM (bB3 BK745.out hb); have n2_ := aM (bB3 BK751.out hb); have n3_ := aM (bB3 BK756.out hb); have n4_ := aM (bS3 HB.out hb); have n5_ := aM (hbox); have n6_ := aM ((bZ3 hg HB.out)); have n7_ := aM ((bZ3 hg HB.out)); have n8_ := aM ((bL3 hg BK740.out)); have n9_ := aM ((bG3 hg BK740.out)); have n10_ := aM ((bL3 hg BK745.out)); have n11_ := aM ((bG3 hg BK745.out)); have n12_ := aM ((bL3 hg BK751.out)); have n13_ := aM ((bG3 hg BK751.out)); have n14_ := aM ((bL3 hg BK756.out)); have n15_ := aM ((bG3 hg BK756.out)); clear BK740; clear BK745; clear BK751; clear BK756; clear HB; have BK740 := n0_; have BK745 := n1_; have BK751 := n2_; have BK756 := n3_; have HB := n4_; have BK762 := n5_; have GW762 := n6_; have GE762 := n7_; have NB740_762 := n8_; have NB762_740 := n9_; have NB745_762 := n10_; have NB762_745 := n11_; have NB751_762 := n12_; have NB762_751 := n13_; have NB756_762 := n14_; have NB762_756 := n15_; clear n0_ n1_ n2_ n3_ n4_ n5_ n6_ n7_ n8_ n9_ n10_ n11_ n12_ n13_ n14_ n15_; clear hb hbox hg; have hnb211 := NB762_740.out; have hnc211 := NB740_762.out; have hnb212 := NB762_745.out; have hnc212 := NB745_762.out; have hnb213 := NB762_751.out; have hnc213 := NB751_762.out; have hnb214 := NB762_756.out; have hnc214 := NB756_762.out; have hcz215_0 : w210.cell? ⟨gb762, 0, none⟩ = some (.int .u64 0) := (bC BK762.out 0).trans rfl; have hcz215_1 : w210.cell? ⟨gb762, 1, none⟩ = some (.int .u64 0) := (bC BK762.out 1).trans rfl; have hfz215_0 := bF BK762.out 0; have hfz215_1 := bF BK762.out 1; have hnb216 := NB751_740.out; have hnc216 := NB740_751.out; have hnb217 := NB751_745.out; have hnc217 := NB745_751.out; have hcz218_0 : w210.cell? ⟨gb751, 0, none⟩ = some (.int .u64 t748) := (bC BK751.out 0).trans rfl; have hcz218_1 : w210.cell? ⟨gb751, 1, none⟩ = some (.int .u64 t749) := (bC BK751.out 1).trans rfl; have hfz218_0 := bF BK751.out 0; have hfz218_1 := bF BK751.out 1; have hcz219_0 : w210.cell? ⟨gb740, 0, none⟩ = some (.int .u64 a0_0) := (bC BK740.out 0).trans rfl; have hcz219_1 : w210.cell? ⟨gb740, 1, none⟩ = some (.int .u64 a0_1) := (bC BK740.out 1).trans rfl; have hfz219_0 := bF BK740.out 0; have hfz219_1 := bF BK740.out 1))
        go_ret
        exact ⟨by first | rfl | (simp [errW_none, errW_some] <;> rfl) | (simp [*, errW_none, errW_some] <;> rfl), by repeat (first | (with_reducible first | exact HB.out | apply pA | apply pN | apply p1 | refine pS ?_ GE740.out | refine pS ?_ GE745.out | refine pS ?_ GE751.out | refine pS ?_ GE756.out | refine pS ?_ GE762.out) | exact HB.out)⟩
  · replace c10 := Bool.eq_false_iff.mpr c10
    subst c10
    have H1 : (some false) = some r := by rw [if_neg (show ¬ (false = true) by decide)] at H; exact H
    clear H
    have H := H1
    clear H1
    obtain rfl := Option.some.inj H
    go_enter Try.func14, Try.ntmps14
    try go_wp2_with (first | ((with_reducible refine gD (N := 2) rfl ?_); refine bE3 2 #[.int .u64 a0_0, .int .u64 a0_1] 55 ?hr ?_; (case hr => first | (go_simp; done) | (go_simp; rfl)); intro gb740 hg w220 hbox hb; have n0_ := aM (bS3 HB.out hb); have n1_ := aM (hbox); have n2_ := aM ((bZ3 hg HB.out)); have n3_ := aM ((bZ3 hg HB.out)); clear HB; have HB := n0_; have BK740 := n1_; have GW740 := n2_; have GE740 := n3_; clear n0_ n1_ n2_ n3_; clear hb hbox hg) | ((with_reducible refine gC (f := 43) rfl ?_); refine gY (some 15) Try.func43 #[] ?_; (with_reducible refine (vernierlaw03_up.calls k  false _ A3.out).mono ?_); rintro e w221 ⟨rfl, hb⟩; refine ⟨_, rfl, ?_⟩; have n0_ := aM (bB3 BK740.out hb); have n1_ := aM (bS3 HB.out hb); clear BK740; clear HB; have BK740 := n0_; have HB := n1_; clear n0_ n1_; (try clear hb); have hcz222_0 : w221.cell? ⟨gb740, 0, none⟩ = some (.int .u64 a0_0) := (bC BK740.out 0).trans rfl; have hcz222_1 : w221.cell? ⟨gb740, 1, none⟩ = some (.int .u64 a0_1) := (bC BK740.out 1).trans rfl; have hfz222_0 := bF BK740.out 0; have hfz222_1 := bF BK740.out 1) | ((with_reducible refine gC (f := 46) rfl ?_); refine gY (some 18) Try.func46 #[.agg #[.int .u64 a0_0, .int .u64 a0_1]] ?_; (with_reducible refine (part_Root.calls k a0_0 a0_1 t742 t743 t744 _ A4.out).mono ?_); rintro e w223 ⟨rfl, hb⟩; refine ⟨_, rfl, ?_⟩; have n0_ := aM (bB3 BK740.out hb); have n1_ := aM (bS3 HB.out hb); clear BK740; clear HB; have BK740 := n0_; have HB := n1_; clear n0_ n1_; (try clear hb)) | ((with_reducible refine gD (N := 7) rfl ?_); refine bE3 7 #[.int .u64 0, .int .u64 0] 55 ?hr ?_; (case hr => first | (go_simp; done) | (go_simp; rfl)); intro gb745 hg w224 hbox hb; have n0_ := aM (bB3 BK740.out hb); have n1_ := aM (bS3 HB.out hb); have n2_ := aM (hbox); have n3_ := aM ((bZ3 hg HB.out)); have n4_ := aM ((bZ3 hg HB.out)); have n5_ := aM ((bL3 hg BK740.out)); have n6_ := aM ((bG3 hg BK740.out)); clear BK740; clear HB; have BK740 := n0_; have HB := n1_; have BK745 := n2_; have GW745 := n3_; have GE745 := n4_; have NB740_745 := n5_; have NB745_740 := n6_; clear n0_ n1_ n2_ n3_ n4_ n5_ n6_; clear hb hbox hg; have hnb225 := NB745_740.out; have hnc225 := NB740_745.out; have hcz226_0 : w224.cell? ⟨gb745, 0, none⟩ = some (.int .u64 0) := (bC BK745.out 0).trans rfl; have hcz226_1 : w224.cell? ⟨gb745, 1, none⟩ = some (.int .u64 0) := (bC BK745.out 1).trans rfl; have hfz226_0 := bF BK745.out 0; have hfz226_1 := bF BK745.out 1))
    have n0_ : Aside0 (((w224.setCell ⟨gb745, 0, none⟩ (.int .u64 t743)).setCell ⟨gb745, 1, none⟩ (.int .u64 t744)).heap[gb740]? = some (.cells #[.int .u64 a0_0, .int .u64 a0_1] 55 (0, 0))) := ⟨by (with_reducible repeat (first | refine bN ?_ _ | refine bD ?_ | refine bA ?_ _)); refine blk_far ?_ NB740_745.out _; (with_reducible repeat (first | refine bN ?_ _ | refine bD ?_ | refine bA ?_ _)); refine blk_far ?_ NB740_745.out _; (with_reducible repeat (first | refine bN ?_ _ | refine bD ?_ | refine bA ?_ _)); exact BK740.out⟩
    have n1_ : Aside0 (((w224.setCell ⟨gb745, 0, none⟩ (.int .u64 t743)).setCell ⟨gb745, 1, none⟩ (.int .u64 t744)).heap[gb745]? = some (.cells #[.int .u64 t743, .int .u64 t744] 55 (0, 0))) := ⟨by (with_reducible repeat (first | refine bN ?_ _ | refine bD ?_ | refine bA ?_ _)); refine blk_put (cs := #[.int .u64 t743, .int .u64 0]) ?_ 1 _ rfl; (with_reducible repeat (first | refine bN ?_ _ | refine bD ?_ | refine bA ?_ _)); refine blk_put (cs := #[.int .u64 0, .int .u64 0]) ?_ 0 _ rfl; (with_reducible repeat (first | refine bN ?_ _ | refine bD ?_ | refine bA ?_ _)); exact BK745.out⟩
    have n2_ : Aside0 (Below w.heap.size w ((w224.setCell ⟨gb745, 0, none⟩ (.int .u64 t743)).setCell ⟨gb745, 1, none⟩ (.int .u64 t744))) := ⟨by repeat (first | (with_reducible first | exact HB.out | apply pA | apply pN | apply p1 | refine pS ?_ GE740.out | refine pS ?_ GE745.out) | exact HB.out)⟩
    (try clear BK740)
    (try clear BK745)
    (try clear HB)
    generalize ((w224.setCell ⟨gb745, 0, none⟩ (.int .u64 t743)).setCell ⟨gb745, 1, none⟩ (.int .u64 t744)) = w227 at n0_ n1_ n2_ ⊢
    have BK740 := n0_
    have BK745 := n1_
    have HB := n2_
    clear n0_ n1_ n2_
    have n0_ := aM (bD BK740.out)
    have n1_ := aM (bD BK745.out)
    have n2_ := aM (p1 HB.out)
    clear BK740
    clear BK745
    clear HB
    have BK740 := n0_
    have BK745 := n1_
    have HB := n2_
    clear n0_ n1_ n2_
    refine start_ (n := 11) (S := fun w' => w'.cell? ⟨gb745, 0, none⟩ = some (.int .u64 t743) ∧ w'.cell? ⟨gb745, 1, none⟩ = some (.int .u64 t744)) (ds := []) #[false, false, false, false, false, false, false, false, false, false, false] (by kernel_rfl) rfl rfl ⟨(bC BK745.out 0).trans rfl, (bC BK745.out 1).trans rfl⟩ (fun hHeld => ?_); refine with_tabW vernierlaw03_PartSquare.tab3 vernierlaw03_PartSquare.bits3 (fun HT_ HW_ => ?_)
    generalize w227.drew = w228 at BK740 BK745 HB hHeld ⊢
    refine pure_ (i := 0) (N := some 22) (v := ?_) (a' := ?_) #[true, false, false, false, false, false, false, false, false, false, false] rfl rfl (any_of HT_.out (by kernel_rfl)) (fun _ _ _ h => h) (Or.inl ⟨by rfl, ?_⟩) ?_ ?_
    rotate_left
    · intro w'
      go_simp
      with_reducible rfl
    rotate_left
    · simp only [Act.put, lS, lZ, lC, i64_w, i32_w]
      rfl
    refine pure_ (i := 1) (N := some 23) (v := ?_) (a' := ?_) #[true, true, false, false, false, false, false, false, false, false, false] rfl rfl (any_of HT_.out (by kernel_rfl)) (fun _ _ _ h => h) (Or.inl ⟨by rfl, ?_⟩) ?_ ?_
    rotate_left
    · intro w'
      go_simp
      with_reducible rfl
    rotate_left
    · simp only [Act.put, lS, lZ, lC, i64_w, i32_w]
      rfl
    refine take_ (i := 3) (N := some 25) (v := ?_) (a' := ?_) #[true, true, false, true, false, false, false, false, false, false, false] rfl rfl (take_ofW HT_.out HW_.out (by kernel_rfl)) (fun _ _ _ h => h) (Or.inl ⟨by rfl, ?_⟩) hHeld ?_ ?_
    rotate_left
    · rintro w' ⟨s0, s1⟩
      go_simp
      with_reducible rfl
    rotate_left
    · simp only [Act.put, lS, lZ, lC, i64_w, i32_w]
      rfl
    refine join_ (σ := Nat) 2 #[true, true, true, true, true, true, true, true, true, false, false] (fun s_ => [(24, .agg #[.int .u64 t746, .int .u64 t747]), (26, .tuple #[.agg #[.int .u64 t748, .int .u64 t749], .bool t750]), (8, .pointer (some ⟨s_, 0, none⟩)), (21, .tuple #[.agg #[.int .u64 t748, .int .u64 t749], .bool t750]), (27, .agg #[.int .u64 t748, .int .u64 t749]), (28, .bool t750)]) (fun s_ w' => (w'.cell? ⟨gb745, 0, none⟩ = some (.int .u64 t743) ∧ w'.cell? ⟨gb745, 1, none⟩ = some (.int .u64 t744)) ∧ (w'.heap[gb740]? = some (.cells #[.int .u64 a0_0, .int .u64 a0_1] 55 (0, 0))) ∧ (w'.heap[gb745]? = some (.cells #[.int .u64 t743, .int .u64 t744] 55 (0, 0))) ∧ (w'.heap[s_]? = some (.cells #[.int .u64 0, .int .u64 0] 55 (0, 0))) ∧ (w.heap.size ≤ s_) ∧ (w.heap.size ≤ s_) ∧ (gb740 ≠ s_) ∧ (s_ ≠ gb740) ∧ (gb745 ≠ s_) ∧ (s_ ≠ gb745) ∧ (Below w.heap.size w w')) ?_ ?_
    rotate_left
    · intro hCont
      refine two_ (i := 2) (j := 8) (Ni := some 24) (Nj := some 8) #[true, true, true, true, false, false, false, false, false, false, false] #[true, true, false, true, false, false, false, false, true, false, false] rfl rfl rfl rfl (two_of HT_.out (by kernel_rfl)) (by decide) (by decide) (fun K hK => ?_) (fun K hK => ?_)
      · skip
        refine goes_ Try.func51 (by kernel_rfl) rfl #[.int .u64 t742, .int .u64 t742] (by rfl) rfl rfl (by (try simp only [List.map_toArray, List.map_cons, List.map_nil]); first | done | rfl | (simp only [List.length_drop, List.length_take]; rfl)) ?_
        with_reducible refine (twin_Mul.calls t742 t742 t746 t747 _ A5.out).mono ?_
        rintro e w229 ⟨rfl, hb⟩
        refine ⟨_, rfl, ?_⟩
        have n0_ := aM (bB3 BK740.out hb)
        have n1_ := aM (bB3 BK745.out hb)
        have n2_ := aM (bS3 HB.out hb)
        clear BK740
        clear BK745
        clear HB
        have BK740 := n0_
        have BK745 := n1_
        have HB := n2_
        clear n0_ n1_ n2_
        (try clear hb)
        (try clear hb2)
        (try clear hk)
        (try clear hi)
        refine hK.out _ _ ⟨(bC BK745.out 0).trans rfl, (bC BK745.out 1).trans rfl⟩ (fun hHeld => ?_)
        clear hK K
        refine norm_ (a' := ?_) ?_ ?_
        rotate_left
        · show Act.put _ (some 24) _ = _
          simp only [Act.put, lS, lZ, lC, i64_w, i32_w]
          rfl
        refine two_ (i := 4) (j := 8) (Ni := some 26) (Nj := some 8) #[true, true, true, true, true, false, false, false, false, false, false] #[true, true, true, true, false, false, false, false, true, false, false] rfl rfl rfl rfl (two_of HT_.out (by kernel_rfl)) (by decide) (by decide) (fun K hK => ?_) (fun K hK => ?_)
        · skip
          refine goes_ Try.func50 (by kernel_rfl) rfl #[.agg #[.int .u64 t746, .int .u64 t747], .agg #[.int .u64 t743, .int .u64 t744]] (by rfl) rfl rfl (by (try simp only [List.map_toArray, List.map_cons, List.map_nil]); first | done | rfl | (simp only [List.length_drop, List.length_take]; rfl)) ?_
          with_reducible refine (twin_Add.calls t746 t747 t743 t744 t748 t749 t750 _ A6.out).mono ?_
          rintro e w230 ⟨rfl, hb⟩
          refine ⟨_, rfl, ?_⟩
          have n0_ := aM (bB3 BK740.out hb)
          have n1_ := aM (bB3 BK745.out hb)
          have n2_ := aM (bS3 HB.out hb)
          clear BK740
          clear BK745
          clear HB
          have BK740 := n0_
          have BK745 := n1_
          have HB := n2_
          clear n0_ n1_ n2_
          (try clear hb)
          (try clear hb2)
          (try clear hk)
          (try clear hi)
          refine hK.out _ _ ⟨(bC BK745.out 0).trans rfl, (bC BK745.out 1).trans rfl⟩ (fun hHeld => ?_)
          clear hK K
          refine norm_ (a' := ?_) ?_ ?_
          rotate_left
          · show Act.put _ (some 26) _ = _
            simp only [Act.put, lS, lZ, lC, i64_w, i32_w]
            rfl
          refine pure_ (i := 5) (N := some 21) (v := ?_) (a' := ?_) #[true, true, true, true, true, true, false, false, false, false, false] rfl rfl (any_of HT_.out (by kernel_rfl)) (fun _ _ _ h => h) (Or.inl ⟨by rfl, ?_⟩) ?_ ?_
          rotate_left
          · intro w'
            go_simp
            with_reducible rfl
          rotate_left
          · simp only [Act.put, lS, lZ, lC, i64_w, i32_w]
            rfl
          refine pure_ (i := 6) (N := some 27) (v := ?_) (a' := ?_) #[true, true, true, true, true, true, true, false, false, false, false] rfl rfl (any_of HT_.out (by kernel_rfl)) (fun _ _ _ h => h) (Or.inl ⟨by rfl, ?_⟩) ?_ ?_
          rotate_left
          · intro w'
            go_simp
            with_reducible rfl
          rotate_left
          · simp only [Act.put, lS, lZ, lC, i64_w, i32_w]
            rfl
          refine pure_ (i := 7) (N := some 28) (v := ?_) (a' := ?_) #[true, true, true, true, true, true, true, true, false, false, false] rfl rfl (any_of HT_.out (by kernel_rfl)) (fun _ _ _ h => h) (Or.inl ⟨by rfl, ?_⟩) ?_ ?_
          rotate_left
          · intro w'
            go_simp
            with_reducible rfl
          rotate_left
          · simp only [Act.put, lS, lZ, lC, i64_w, i32_w]
            rfl
          refine one_ (i := 8) (N := some 8) #[true, true, true, true, true, true, true, true, true, false, false] rfl rfl (one_of HT_.out (by kernel_rfl)) (by decide) (fun K hK => ?_)
          refine box_step ?hg (N := 8) ?hd (cs := #[.int .u64 0, .int .u64 0]) (t := 55) ?hr ?_; (case hd => rfl); (case hg => rfl); (case hr => first | (go_simp; done) | (go_simp; rfl))
          intro gb751 hg w231 hbox hb
          have n0_ := aM (bB3 BK740.out hb)
          have n1_ := aM (bB3 BK745.out hb)
          have n2_ := aM (bS3 HB.out hb)
          have n3_ := aM (hbox)
          have n4_ := aM ((bZ3 hg HB.out))
          have n5_ := aM ((bZ3 hg HB.out))
          have n6_ := aM ((bL3 hg BK740.out))
          have n7_ := aM ((bG3 hg BK740.out))
          have n8_ := aM ((bL3 hg BK745.out))
          have n9_ := aM ((bG3 hg BK745.out))
          clear BK740
          clear BK745
          clear HB
          have BK740 := n0_
          have BK745 := n1_
          have HB := n2_
          have BK751 := n3_
          have GW751 := n4_
          have GE751 := n5_
          have NB740_751 := n6_
          have NB751_740 := n7_
          have NB745_751 := n8_
          have NB751_745 := n9_
          clear n0_ n1_ n2_ n3_ n4_ n5_ n6_ n7_ n8_ n9_
          clear hb hbox hg
          refine hK.out _ _ ⟨(bC BK745.out 0).trans rfl, (bC BK745.out 1).trans rfl⟩ (fun hHeld => ?_)
          clear hK K
          refine norm_ (a' := ?_) ?_ ?_
          rotate_left
          · show Act.put _ (some 8) _ = _
            simp only [Act.put, lS, lZ, lC, i64_w, i32_w]
            rfl
          exact norm_ (by simp only [putAll, Act.put, lS, lZ, lC]) (hCont (gb751) _ ⟨hHeld, (by (with_reducible repeat (first | refine bN ?_ _ | refine bD ?_ | refine bA ?_ _)); exact BK740.out), (by (with_reducible repeat (first | refine bN ?_ _ | refine bD ?_ | refine bA ?_ _)); exact BK745.out), (by (with_reducible repeat (first | refine bN ?_ _ | refine bD ?_ | refine bA ?_ _)); exact BK751.out), GW751.out, GE751.out, NB740_751.out, NB751_740.out, NB745_751.out, NB751_745.out, (by repeat (first | (with_reducible first | exact HB.out | apply pA | apply pN | apply p1 | refine pS ?_ GE740.out | refine pS ?_ GE745.out | refine pS ?_ GE751.out) | exact HB.out))⟩)
        · skip
          refine box_step ?hg (N := 8) ?hd (cs := #[.int .u64 0, .int .u64 0]) (t := 55) ?hr ?_; (case hd => rfl); (case hg => rfl); (case hr => first | (go_simp; done) | (go_simp; rfl))
          intro gb751 hg w230 hbox hb
          have n0_ := aM (bB3 BK740.out hb)
          have n1_ := aM (bB3 BK745.out hb)
          have n2_ := aM (bS3 HB.out hb)
          have n3_ := aM (hbox)
          have n4_ := aM ((bZ3 hg HB.out))
          have n5_ := aM ((bZ3 hg HB.out))
          have n6_ := aM ((bL3 hg BK740.out))
          have n7_ := aM ((bG3 hg BK740.out))
          have n8_ := aM ((bL3 hg BK745.out))
          have n9_ := aM ((bG3 hg BK745.out))
          clear BK740
          clear BK745
          clear HB
          have BK740 := n0_
          have BK745 := n1_
          have HB := n2_
          have BK751 := n3_
          have GW751 := n4_
          have GE751 := n5_
          have NB740_751 := n6_
          have NB751_740 := n7_
          have NB745_751 := n8_
          have NB751_745 := n9_
          clear n0_ n1_ n2_ n3_ n4_ n5_ n6_ n7_ n8_ n9_
          clear hb hbox hg
          refine hK.out _ _ ⟨(bC BK745.out 0).trans rfl, (bC BK745.out 1).trans rfl⟩ (fun hHeld => ?_)
          clear hK K
          refine norm_ (a' := ?_) ?_ ?_
          rotate_left
          · show Act.put _ (some 8) _ = _
            simp only [Act.put, lS, lZ, lC, i64_w, i32_w]
            rfl
          refine one_ (i := 4) (N := some 26) #[true, true, true, true, true, false, false, false, true, false, false] rfl rfl (one_of HT_.out (by kernel_rfl)) (by decide) (fun K hK => ?_)
          refine goes_ Try.func50 (by kernel_rfl) rfl #[.agg #[.int .u64 t746, .int .u64 t747], .agg #[.int .u64 t743, .int .u64 t744]] (by rfl) rfl rfl (by (try simp only [List.map_toArray, List.map_cons, List.map_nil]); first | done | rfl | (simp only [List.length_drop, List.length_take]; rfl)) ?_
          with_reducible refine (twin_Add.calls t746 t747 t743 t744 t748 t749 t750 _ A6.out).mono ?_
          rintro e w231 ⟨rfl, hb⟩
          refine ⟨_, rfl, ?_⟩
          have n0_ := aM (bB3 BK740.out hb)
          have n1_ := aM (bB3 BK745.out hb)
          have n2_ := aM (bB3 BK751.out hb)
          have n3_ := aM (bS3 HB.out hb)
          clear BK740
          clear BK745
          clear BK751
          clear HB
          have BK740 := n0_
          have BK745 := n1_
          have BK751 := n2_
          have HB := n3_
          clear n0_ n1_ n2_ n3_
          (try clear hb)
          (try clear hb2)
          (try clear hk)
          (try clear hi)
          refine hK.out _ _ ⟨(bC BK745.out 0).trans rfl, (bC BK745.out 1).trans rfl⟩ (fun hHeld => ?_)
          clear hK K
          refine norm_ (a' := ?_) ?_ ?_
          rotate_left
          · show Act.put _ (some 26) _ = _
            simp only [Act.put, lS, lZ, lC, i64_w, i32_w]
            rfl
          refine pure_ (i := 5) (N := some 21) (v := ?_) (a' := ?_) #[true, true, true, true, true, true, false, false, true, false, false] rfl rfl (any_of HT_.out (by kernel_rfl)) (fun _ _ _ h => h) (Or.inl ⟨by rfl, ?_⟩) ?_ ?_
          rotate_left
          · intro w'
            go_simp
            with_reducible rfl
          rotate_left
          · simp only [Act.put, lS, lZ, lC, i64_w, i32_w]
            rfl
          refine pure_ (i := 6) (N := some 27) (v := ?_) (a' := ?_) #[true, true, true, true, true, true, true, false, true, false, false] rfl rfl (any_of HT_.out (by kernel_rfl)) (fun _ _ _ h => h) (Or.inl ⟨by rfl, ?_⟩) ?_ ?_
          rotate_left
          · intro w'
            go_simp
            with_reducible rfl
          rotate_left
          · simp only [Act.put, lS, lZ, lC, i64_w, i32_w]
            rfl
          refine pure_ (i := 7) (N := some 28) (v := ?_) (a' := ?_) #[true, true, true, true, true, true, true, true, true, false, false] rfl rfl (any_of HT_.out (by kernel_rfl)) (fun _ _ _ h => h) (Or.inl ⟨by rfl, ?_⟩) ?_ ?_
          rotate_left
          · intro w'
            go_simp
            with_reducible rfl
          rotate_left
          · simp only [Act.put, lS, lZ, lC, i64_w, i32_w]
            rfl
          exact norm_ (by simp only [putAll, Act.put, lS, lZ, lC]) (hCont (gb751) _ ⟨hHeld, (by (with_reducible repeat (first | refine bN ?_ _ | refine bD ?_ | refine bA ?_ _)); exact BK740.out), (by (with_reducible repeat (first | refine bN ?_ _ | refine bD ?_ | refine bA ?_ _)); exact BK745.out), (by (with_reducible repeat (first | refine bN ?_ _ | refine bD ?_ | refine bA ?_ _)); exact BK751.out), GW751.out, GE751.out, NB740_751.out, NB751_740.out, NB745_751.out, NB751_745.out, (by repeat (first | (with_reducible first | exact HB.out | apply pA | apply pN | apply p1 | refine pS ?_ GE740.out | refine pS ?_ GE745.out | refine pS ?_ GE751.out) | exact HB.out))⟩)
      · skip
        refine box_step ?hg (N := 8) ?hd (cs := #[.int .u64 0, .int .u64 0]) (t := 55) ?hr ?_; (case hd => rfl); (case hg => rfl); (case hr => first | (go_simp; done) | (go_simp; rfl))
        intro gb751 hg w229 hbox hb
        have n0_ := aM (bB3 BK740.out hb)
        have n1_ := aM (bB3 BK745.out hb)
        have n2_ := aM (bS3 HB.out hb)
        have n3_ := aM (hbox)
        have n4_ := aM ((bZ3 hg HB.out))
        have n5_ := aM ((bZ3 hg HB.out))
        have n6_ := aM ((bL3 hg BK740.out))
        have n7_ := aM ((bG3 hg BK740.out))
        have n8_ := aM ((bL3 hg BK745.out))
        have n9_ := aM ((bG3 hg BK745.out))
        clear BK740
        clear BK745
        clear HB
        have BK740 := n0_
        have BK745 := n1_
        have HB := n2_
        have BK751 := n3_
        have GW751 := n4_
        have GE751 := n5_
        have NB740_751 := n6_
        have NB751_740 := n7_
        have NB745_751 := n8_
        have NB751_745 := n9_
        clear n0_ n1_ n2_ n3_ n4_ n5_ n6_ n7_ n8_ n9_
        clear hb hbox hg
        refine hK.out _ _ ⟨(bC BK745.out 0).trans rfl, (bC BK745.out 1).trans rfl⟩ (fun hHeld => ?_)
        clear hK K
        refine norm_ (a' := ?_) ?_ ?_
        rotate_left
        · show Act.put _ (some 8) _ = _
          simp only [Act.put, lS, lZ, lC, i64_w, i32_w]
          rfl
        refine one_ (i := 2) (N := some 24) #[true, true, true, true, false, false, false, false, true, false, false] rfl rfl (one_of HT_.out (by kernel_rfl)) (by decide) (fun K hK => ?_)
        refine goes_ Try.func51 (by kernel_rfl) rfl #[.int .u64 t742, .int .u64 t742] (by rfl) rfl rfl (by (try simp only [List.map_toArray, List.map_cons, List.map_nil]); first | done | rfl | (simp only [List.length_drop, List.length_take]; rfl)) ?_
        with_reducible refine (twin_Mul.calls t742 t742 t746 t747 _ A5.out).mono ?_
        rintro e w230 ⟨rfl, hb⟩
        refine ⟨_, rfl, ?_⟩
        have n0_ := aM (bB3 BK740.out hb)
        have n1_ := aM (bB3 BK745.out hb)
        have n2_ := aM (bB3 BK751.out hb)
        have n3_ := aM (bS3 HB.out hb)
        clear BK740
        clear BK745
        clear BK751
        clear HB
        have BK740 := n0_
        have BK745 := n1_
        have BK751 := n2_
        have HB := n3_
        clear n0_ n1_ n2_ n3_
        (try clear hb)
        (try clear hb2)
        (try clear hk)
        (try clear hi)
        refine hK.out _ _ ⟨(bC BK745.out 0).trans rfl, (bC BK745.out 1).trans rfl⟩ (fun hHeld => ?_)
        clear hK K
        refine norm_ (a' := ?_) ?_ ?_
        rotate_left
        · show Act.put _ (some 24) _ = _
          simp only [Act.put, lS, lZ, lC, i64_w, i32_w]
          rfl
        refine one_ (i := 4) (N := some 26) #[true, true, true, true, true, false, false, false, true, false, false] rfl rfl (one_of HT_.out (by kernel_rfl)) (by decide) (fun K hK => ?_)
        refine goes_ Try.func50 (by kernel_rfl) rfl #[.agg #[.int .u64 t746, .int .u64 t747], .agg #[.int .u64 t743, .int .u64 t744]] (by rfl) rfl rfl (by (try simp only [List.map_toArray, List.map_cons, List.map_nil]); first | done | rfl | (simp only [List.length_drop, List.length_take]; rfl)) ?_
        with_reducible refine (twin_Add.calls t746 t747 t743 t744 t748 t749 t750 _ A6.out).mono ?_
        rintro e w231 ⟨rfl, hb⟩
        refine ⟨_, rfl, ?_⟩
        have n0_ := aM (bB3 BK740.out hb)
        have n1_ := aM (bB3 BK745.out hb)
        have n2_ := aM (bB3 BK751.out hb)
        have n3_ := aM (bS3 HB.out hb)
        clear BK740
        clear BK745
        clear BK751
        clear HB
        have BK740 := n0_
        have BK745 := n1_
        have BK751 := n2_
        have HB := n3_
        clear n0_ n1_ n2_ n3_
        (try clear hb)
        (try clear hb2)
        (try clear hk)
        (try clear hi)
        refine hK.out _ _ ⟨(bC BK745.out 0).trans rfl, (bC BK745.out 1).trans rfl⟩ (fun hHeld => ?_)
        clear hK K
        refine norm_ (a' := ?_) ?_ ?_
        rotate_left
        · show Act.put _ (some 26) _ = _
          simp only [Act.put, lS, lZ, lC, i64_w, i32_w]
          rfl
        refine pure_ (i := 5) (N := some 21) (v := ?_) (a' := ?_) #[true, true, true, true, true, true, false, false, true, false, false] rfl rfl (any_of HT_.out (by kernel_rfl)) (fun _ _ _ h => h) (Or.inl ⟨by rfl, ?_⟩) ?_ ?_
        rotate_left
        · intro w'
          go_simp
          with_reducible rfl
        rotate_left
        · simp only [Act.put, lS, lZ, lC, i64_w, i32_w]
          rfl
        refine pure_ (i := 6) (N := some 27) (v := ?_) (a' := ?_) #[true, true, true, true, true, true, true, false, true, false, false] rfl rfl (any_of HT_.out (by kernel_rfl)) (fun _ _ _ h => h) (Or.inl ⟨by rfl, ?_⟩) ?_ ?_
        rotate_left
        · intro w'
          go_simp
          with_reducible rfl
        rotate_left
        · simp only [Act.put, lS, lZ, lC, i64_w, i32_w]
          rfl
        refine pure_ (i := 7) (N := some 28) (v := ?_) (a' := ?_) #[true, true, true, true, true, true, true, true, true, false, false] rfl rfl (any_of HT_.out (by kernel_rfl)) (fun _ _ _ h => h) (Or.inl ⟨by rfl, ?_⟩) ?_ ?_
        rotate_left
        · intro w'
          go_simp
          with_reducible rfl
        rotate_left
        · simp only [Act.put, lS, lZ, lC, i64_w, i32_w]
          rfl
        exact norm_ (by simp only [putAll, Act.put, lS, lZ, lC]) (hCont (gb751) _ ⟨hHeld, (by (with_reducible repeat (first | refine bN ?_ _ | refine bD ?_ | refine bA ?_ _)); exact BK740.out), (by (with_reducible repeat (first | refine bN ?_ _ | refine bD ?_ | refine bA ?_ _)); exact BK745.out), (by (with_reducible repeat (first | refine bN ?_ _ | refine bD ?_ | refine bA ?_ _)); exact BK751.out), GW751.out, GE751.out, NB740_751.out, NB751_740.out, NB745_751.out, NB751_745.out, (by repeat (first | (with_reducible first | exact HB.out | apply pA | apply pN | apply p1 | refine pS ?_ GE740.out | refine pS ?_ GE745.out | refine pS ?_ GE751.out) | exact HB.out))⟩)
    rintro gb751 w232 ⟨hS_, h0_, h1_, h2_, h3_, h4_, h5_, h6_, h7_, h8_, h9_⟩
    have n0_ : Aside0 (w232.heap[gb740]? = some (.cells #[.int .u64 a0_0, .int .u64 a0_1] 55 (0, 0))) := ⟨h0_⟩
    have n1_ : Aside0 (w232.heap[gb745]? = some (.cells #[.int .u64 t743, .int .u64 t744] 55 (0, 0))) := ⟨h1_⟩
    have n2_ : Aside0 (w232.heap[gb751]? = some (.cells #[.int .u64 0, .int .u64 0] 55 (0, 0))) := ⟨h2_⟩
    have n3_ : Aside0 (w.heap.size ≤ gb751) := ⟨h3_⟩
    have n4_ : Aside0 (w.heap.size ≤ gb751) := ⟨h4_⟩
    have n5_ : Aside0 (gb740 ≠ gb751) := ⟨h5_⟩
    have n6_ : Aside0 (gb751 ≠ gb740) := ⟨h6_⟩
    have n7_ : Aside0 (gb745 ≠ gb751) := ⟨h7_⟩
    have n8_ : Aside0 (gb751 ≠ gb745) := ⟨h8_⟩
    have n9_ : Aside0 (Below w.heap.size w w232) := ⟨h9_⟩
    clear BK740
    clear BK745
    clear HB
    clear h0_ h1_ h2_ h3_ h4_ h5_ h6_ h7_ h8_ h9_
    have BK740 := n0_
    have BK745 := n1_
    have BK751 := n2_
    have GW751 := n3_
    have GE751 := n4_
    have NB740_751 := n5_
    have NB751_740 := n6_
    have NB745_751 := n7_
    have NB751_745 := n8_
    have HB := n9_
    clear n0_ n1_ n2_ n3_ n4_ n5_ n6_ n7_ n8_ n9_
    have hHeld : w232.cell? ⟨gb745, 0, none⟩ = some (.int .u64 t743) ∧ w232.cell? ⟨gb745, 1, none⟩ = some (.int .u64 t744) := hS_
    refine norm_ (a' := ?_) ?_ ?_
    rotate_left
    · simp only [putAll, Act.put, lS, lZ, lC]
      rfl
    refine one_ (i := 9) (N := none) #[true, true, true, true, true, true, true, true, true, true, false] rfl rfl (one_of HT_.out (by kernel_rfl)) (by decide) (fun K hK => ?_)
    have hs233 : w232.cell? ⟨gb751, 0, none⟩ = some (.int .u64 0) := (bC BK751.out 0).trans rfl
    have hfs233 := bF BK751.out 0
    have hns233_0 := NB740_751.out
    have hns233_1 := NB745_751.out
    have hms233_0 := NB751_740.out
    have hms233_1 := NB751_745.out
    have hs234 : w232.cell? ⟨gb751, 1, none⟩ = some (.int .u64 0) := (bC BK751.out 1).trans rfl
    have hfs234 := bF BK751.out 1
    have hns234_0 := NB740_751.out
    have hns234_1 := NB745_751.out
    have hms234_0 := NB751_740.out
    have hms234_1 := NB751_745.out
    refine skip_ (w1 := ?_) (by rfl) rfl ?_ ?_
    rotate_left
    · go_simp
      rfl
    refine hK.out _ _ ⟨((cell_far (p := ⟨gb751, _, none⟩) NB745_751.out _).trans (((cell_far (p := ⟨gb751, _, none⟩) NB745_751.out _).trans (hHeld.1)))), ((cell_far (p := ⟨gb751, _, none⟩) NB745_751.out _).trans (((cell_far (p := ⟨gb751, _, none⟩) NB745_751.out _).trans (hHeld.2))))⟩ (fun hHeld => ?_)
    clear hK K
    refine pure_ (i := 10) (N := some 9) (v := ?_) (a' := ?_) #[true, true, true, true, true, true, true, true, true, true, true] rfl rfl (any_of HT_.out (by kernel_rfl)) (fun _ _ _ h => h) (Or.inl ⟨by rfl, ?_⟩) ?_ ?_
    rotate_left
    · intro w'
      go_simp
      with_reducible rfl
    rotate_left
    · simp only [Act.put, lS, lZ, lC, i64_w, i32_w]
      rfl
    refine done_ (done_of HT_.out (by kernel_rfl)) ?_
    try go_wp2_with (first | ((with_reducible refine gC (f := 52) rfl ?_); refine gY (some 32) Try.func52 #[.agg #[.int .u64 0, .int .u64 t742], .int .i64 1] ?_; (with_reducible refine (twin_Shl.calls k 0 t742 1 t752 t753 t754 t755 _ A7.out).mono ?_); rintro e w235 ⟨rfl, hb⟩; refine ⟨_, rfl, ?_⟩; have n0_ := aM (bB (g := gb740) (o := .cells #[.int .u64 a0_0, .int .u64 a0_1] 55 (0, 0)) (by (with_reducible repeat (first | refine bN ?_ _ | refine bD ?_ | refine bA ?_ _)); refine blk_far ?_ NB740_751.out _; (with_reducible repeat (first | refine bN ?_ _ | refine bD ?_ | refine bA ?_ _)); refine blk_far ?_ NB740_751.out _; (with_reducible repeat (first | refine bN ?_ _ | refine bD ?_ | refine bA ?_ _)); exact BK740.out) hb); have n1_ := aM (bB (g := gb745) (o := .cells #[.int .u64 t743, .int .u64 t744] 55 (0, 0)) (by (with_reducible repeat (first | refine bN ?_ _ | refine bD ?_ | refine bA ?_ _)); refine blk_far ?_ NB745_751.out _; (with_reducible repeat (first | refine bN ?_ _ | refine bD ?_ | refine bA ?_ _)); refine blk_far ?_ NB745_751.out _; (with_reducible repeat (first | refine bN ?_ _ | refine bD ?_ | refine bA ?_ _)); exact BK745.out) hb); have n2_ := aM (bB (g := gb751) (o := .cells #[.int .u64 t748, .int .u64 t749] 55 (0, 0)) (by (with_reducible repeat (first | refine bN ?_ _ | refine bD ?_ | refine bA ?_ _)); refine blk_put (cs := #[.int .u64 t748, .int .u64 0]) ?_ 1 _ rfl; (with_reducible repeat (first | refine bN ?_ _ | refine bD ?_ | refine bA ?_ _)); refine blk_put (cs := #[.int .u64 0, .int .u64 0]) ?_ 0 _ rfl; (with_reducible repeat (first | refine bN ?_ _ | refine bD ?_ | refine bA ?_ _)); exact BK751.out) hb); have n3_ := aM (bS3 HB.out hb); clear BK740; clear BK745; clear BK751; clear HB; have BK740 := n0_; have BK745 := n1_; have BK751 := n2_; have HB := n3_; clear n0_ n1_ n2_ n3_; (try clear hb); (try simp only [errW_none, errW_some])) | ((with_reducible refine gD (N := 10) rfl ?_); refine bE3 10 #[.int .u64 0, .int .u64 0] 55 ?hr ?_; (case hr => first | (go_simp; done) | (go_simp; rfl)); intro gb756 hg w236 hbox hb; have n0_ := aM (bB3 BK740.out hb); have n1_ := aM (bB3 BK745.out hb); have n2_ := aM (bB3 BK751.out hb); have n3_ := aM (bS3 HB.out hb); have n4_ := aM (hbox); have n5_ := aM ((bZ3 hg HB.out)); have n6_ := aM ((bZ3 hg HB.out)); have n7_ := aM ((bL3 hg BK740.out)); have n8_ := aM ((bG3 hg BK740.out)); have n9_ := aM ((bL3 hg BK745.out)); have n10_ := aM ((bG3 hg BK745.out)); have n11_ := aM ((bL3 hg BK751.out)); have n12_ := aM ((bG3 hg BK751.out)); clear BK740; clear BK745; clear BK751; clear HB; have BK740 := n0_; have BK745 := n1_; have BK751 := n2_; have HB := n3_; have BK756 := n4_; have GW756 := n5_; have GE756 := n6_; have NB740_756 := n7_; have NB756_740 := n8_; have NB745_756 := n9_; have NB756_745 := n10_; have NB751_756 := n11_; have NB756_751 := n12_; clear n0_ n1_ n2_ n3_ n4_ n5_ n6_ n7_ n8_ n9_ n10_ n11_ n12_; clear hb hbox hg; have hnb237 := NB756_740.out; have hnc237 := NB740_756.out; have hnb238 := NB756_745.out; have hnc238 := NB745_756.out; have hnb239 := NB756_751.out; have hnc239 := NB751_756.out; have hcz240_0 : w236.cell? ⟨gb756, 0, none⟩ = some (.int .u64 0) := (bC BK756.out 0).trans rfl; have hcz240_1 : w236.cell? ⟨gb756, 1, none⟩ = some (.int .u64 0) := (bC BK756.out 1).trans rfl; have hfz240_0 := bF BK756.out 0; have hfz240_1 := bF BK756.out 1) | ((with_reducible refine gC (f := 51) rfl ?_); refine gY (some 39) Try.func51 #[.int .u64 a1, .int .u64 a1] ?_; (with_reducible refine (twin_Mul.calls a1 a1 t757 t758 _ A8.out).mono ?_); rintro e w241 ⟨rfl, hb⟩; refine ⟨_, rfl, ?_⟩; have n0_ := aM (bB (g := gb740) (o := .cells #[.int .u64 a0_0, .int .u64 a0_1] 55 (0, 0)) (by (with_reducible repeat (first | refine bN ?_ _ | refine bD ?_ | refine bA ?_ _)); refine blk_far ?_ NB740_756.out _; (with_reducible repeat (first | refine bN ?_ _ | refine bD ?_ | refine bA ?_ _)); refine blk_far ?_ NB740_756.out _; (with_reducible repeat (first | refine bN ?_ _ | refine bD ?_ | refine bA ?_ _)); exact BK740.out) hb); have n1_ := aM (bB (g := gb745) (o := .cells #[.int .u64 t743, .int .u64 t744] 55 (0, 0)) (by (with_reducible repeat (first | refine bN ?_ _ | refine bD ?_ | refine bA ?_ _)); refine blk_far ?_ NB745_756.out _; (with_reducible repeat (first | refine bN ?_ _ | refine bD ?_ | refine bA ?_ _)); refine blk_far ?_ NB745_756.out _; (with_reducible repeat (first | refine bN ?_ _ | refine bD ?_ | refine bA ?_ _)); exact BK745.out) hb); have n2_ := aM (bB (g := gb751) (o := .cells #[.int .u64 t748, .int .u64 t749] 55 (0, 0)) (by (with_reducible repeat (first | refine bN ?_ _ | refine bD ?_ | refine bA ?_ _)); refine blk_far ?_ NB751_756.out _; (with_reducible repeat (first | refine bN ?_ _ | refine bD ?_ | refine bA ?_ _)); refine blk_far ?_ NB751_756.out _; (with_reducible repeat (first | refine bN ?_ _ | refine bD ?_ | refine bA ?_ _)); exact BK751.out) hb); have n3_ := aM (bB (g := gb756) (o := .cells #[.int .u64 t752, .int .u64 t753] 55 (0, 0)) (by (with_reducible repeat (first | refine bN ?_ _ | refine bD ?_ | refine bA ?_ _)); refine blk_put (cs := #[.int .u64 t752, .int .u64 0]) ?_ 1 _ rfl; (with_reducible repeat (first | refine bN ?_ _ | refine bD ?_ | refine bA ?_ _)); refine blk_put (cs := #[.int .u64 0, .int .u64 0]) ?_ 0 _ rfl; (with_reducible repeat (first | refine bN ?_ _ | refine bD ?_ | refine bA ?_ _)); exact BK756.out) hb); have n4_ := aM (bS3 HB.out hb); clear BK740; clear BK745; clear BK751; clear BK756; clear HB; have BK740 := n0_; have BK745 := n1_; have BK751 := n2_; have BK756 := n3_; have HB := n4_; clear n0_ n1_ n2_ n3_ n4_; (try clear hb)) | ((with_reducible refine gC (f := 46) rfl ?_); refine gY (some 40) Try.func46 #[.agg #[.int .u64 t757, .int .u64 t758]] ?_; (with_reducible refine (part_Root.calls k t757 t758 t759 t760 t761 _ A9.out).mono ?_); rintro e w242 ⟨rfl, hb⟩; refine ⟨_, rfl, ?_⟩; have n0_ := aM (bB3 BK740.out hb); have n1_ := aM (bB3 BK745.out hb); have n2_ := aM (bB3 BK751.out hb); have n3_ := aM (bB3 BK756.out hb); have n4_ := aM (bS3 HB.out hb); clear BK740; clear BK745; clear BK751; clear BK756; clear HB; have BK740 := n0_; have BK745 := n1_; have BK751 := n2_; have BK756 := n3_; have HB := n4_; clear n0_ n1_ n2_ n3_ n4_; (try clear hb)) | ((with_reducible refine gD (N := 14) rfl ?_); refine bE3 14 #[.int .u64 0, .int .u64 0] 55 ?hr ?_; (case hr => first | (go_simp; done) | (go_simp; rfl)); intro gb762 hg w243 hbox hb; have n0_ := aM (bB3 BK740.out hb); have n1_ := aM (bB3 BK745.out hb); have n2_ := aM (bB3 BK751.out hb); have n3_ := aM (bB3 BK756.out hb); have n4_ := aM (bS3 HB.out hb); have n5_ := aM (hbox); have n6_ := aM ((bZ3 hg HB.out)); have n7_ := aM ((bZ3 hg HB.out)); have n8_ := aM ((bL3 hg BK740.out)); have n9_ := aM ((bG3 hg BK740.out)); have n10_ := aM ((bL3 hg BK745.out)); have n11_ := aM ((bG3 hg BK745.out)); have n12_ := aM ((bL3 hg BK751.out)); have n13_ := aM ((bG3 hg BK751.out)); have n14_ := aM ((bL3 hg BK756.out)); have n15_ := aM ((bG3 hg BK756.out)); clear BK740; clear BK745; clear BK751; clear BK756; clear HB; have BK740 := n0_; have BK745 := n1_; have BK751 := n2_; have BK756 := n3_; have HB := n4_; have BK762 := n5_; have GW762 := n6_; have GE762 := n7_; have NB740_762 := n8_; have NB762_740 := n9_; have NB745_762 := n10_; have NB762_745 := n11_; have NB751_762 := n12_; have NB762_751 := n13_; have NB756_762 := n14_; have NB762_756 := n15_; clear n0_ n1_ n2_ n3_ n4_ n5_ n6_ n7_ n8_ n9_ n10_ n11_ n12_ n13_ n14_ n15_; clear hb hbox hg; have hnb244 := NB762_740.out; have hnc244 := NB740_762.out; have hnb245 := NB762_745.out; have hnc245 := NB745_762.out; have hnb246 := NB762_751.out; have hnc246 := NB751_762.out; have hnb247 := NB762_756.out; have hnc247 := NB756_762.out; have hcz248_0 : w243.cell? ⟨gb762, 0, none⟩ = some (.int .u64 0) := (bC BK762.out 0).trans rfl; have hcz248_1 : w243.cell? ⟨gb762, 1, none⟩ = some (.int .u64 0) := (bC BK762.out 1).trans rfl; have hfz248_0 := bF BK762.out 0; have hfz248_1 := bF BK762.out 1))
    go_ret
    exact ⟨by first | rfl | (simp [errW_none, errW_some] <;> rfl) | (simp [*, errW_none, errW_some] <;> rfl), by repeat (first | (with_reducible first | exact HB.out | apply pA | apply pN | apply p1 | refine pS ?_ GE740.out | refine pS ?_ GE745.out | refine pS ?_ GE751.out | refine pS ?_ GE756.out | refine pS ?_ GE762.out) | exact HB.out)⟩

/-- THE ONE PURE STATEMENT of vernierlaw03_PartSquare: yours. -/
def vernierlaw03_PartSquare.Pure : Prop := ∀ (a0_0 : Int) (a0_1 : Int) (a1 : Int), (Lit.int .u64 a0_0).wf = true → (Lit.int .u64 a0_1).wf = true → (Lit.int .u64 a1).wf = true → ∃ k, vernierlaw03_PartSquare.f k a0_0 a0_1 a1 = some true
theorem vernierlaw03_PartSquare.walk (P : vernierlaw03_PartSquare.Pure) (a0_0 : Int) (a0_1 : Int) (a1 : Int) (w : World) (w0_0 : (Lit.int .u64 a0_0).wf = true) (w0_1 : (Lit.int .u64 a0_1).wf = true) (w1 : (Lit.int .u64 a1).wf = true) :
    Calls Try.prog 14 #[.agg #[.int .u64 a0_0, .int .u64 a0_1], .int .u64 a1] w fun e w' => e = .returned (.bool true) ∧ Below w.heap.size w w' := by
  obtain ⟨k, h⟩ := P a0_0 a0_1 a1 w0_0 w0_1 w1
  refine (vernierlaw03_PartSquare.calls k a0_0 a0_1 a1 true w h).mono ?_
  rintro e w' ⟨rfl, hd⟩
  exact ⟨rfl, hd⟩

end Go.Proofs.Yteekhbmffdmgjaa.F
