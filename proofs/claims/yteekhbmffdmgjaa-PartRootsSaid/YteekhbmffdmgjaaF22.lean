/- Functions of the given program as plain Lean functions, and for each a proof that the program's call comes to just these answers; no further conditions. (Written by a program of this repo out of the translation.) -/
import Derived.Test.YteekhbmffdmgjaaF0
import Derived.Test.YteekhbmffdmgjaaF21
import Derived.Test.YteekhbmffdmgjaaF23
namespace Go.Proofs.Yteekhbmffdmgjaa.F
open Go.RowKit Go.Proofs.YteekhbmffdmgjaaW.PrintWords Go.Proofs.YteekhbmffdmgjaaW.PrintLast Go.Proofs.YteekhbmffdmgjaaW.PrintMore
attribute [local go_sem high] xor_u64 xor_u32 eqErr25 neErr25 eqErrL25 neErrL25
attribute [local go_sem] max2_int min2_int max_two min_two max_three min_three max_four min_four   -- for this text's walks alone
set_option linter.unusedVariables false
set_option linter.unusedSimpArgs false

/-! ### part_Div: function 44 -/
def part_Div.f (k : Nat) (a0_0 : Int) (a0_1 : Int) (a1 : Int) : Option (Int × Int × Option Int) := if a1 = 0 then (some (0, 0, some 4)) else (if a0_0 ≥ a1 then (some (0, 0, some 5)) else ((bits_Div64.f k a0_0 a0_1 a1).bind fun bt430 => (some (bt430.1, bt430.2, none))))
theorem part_Div.mono : ∀ a0 a1 a2 k, LeO (part_Div.f k a0 a1 a2) (part_Div.f (k + 1) a0 a1 a2) := by
  intro a0 a1 a2 k
  unfold part_Div.f
  repeat' first
      | (with_reducible exact bits_Div64.mono _ _ _ _)
      | (with_reducible exact LeO.refl _)
      | (with_reducible exact LeO.none _)
      | (with_reducible refine LeO.ite ?_ ?_)
      | (with_reducible refine LeO.bind ?_ (fun _ => ?_))
      | exact bits_Div64.mono _ _ _ _
      | exact LeO.none _
      | refine LeO.ite ?_ ?_
      | refine LeO.bind ?_ (fun _ => ?_)
set_option maxHeartbeats 8000000 in
set_option maxRecDepth 100000 in
theorem part_Div.calls (k : Nat) (a0_0 : Int) (a0_1 : Int) (a1 : Int) (r1 : Int) (r2 : Int) (r3 : Option Int) (w : World) (h : part_Div.f k a0_0 a0_1 a1 = some (r1, r2, r3)) :
    Calls Try.prog 44 #[.agg #[.int .u64 a0_0, .int .u64 a0_1], .int .u64 a1] w fun e w' => e = .returned (.tuple #[.int .u64 r1, .int .u64 r2, errW r3]) ∧ Below w.heap.size w w' := by
  have hu55 := Try.underlying55
  have hu25 := Try.underlying25
  have hu33 := Try.underlying33
  have HB := Aside0.mk (Below.refl w.heap.size w)
  have H : (if a1 = 0 then (some (0, 0, some 4)) else (if a0_0 ≥ a1 then (some (0, 0, some 5)) else ((bits_Div64.f k a0_0 a0_1 a1).bind fun bt430 => (some (bt430.1, bt430.2, none))))) = some (r1, r2, r3) := h
  clear h
  by_cases c3 : a1 = 0
  · rw [if_pos c3] at H
    have c3b0 : (a1 == 0) = true := beq_iff_eq.mpr c3
    have c3b1 : (a1 != 0) = false := bne_eq_false_iff_eq.mpr c3
    clear c3
    simp only [Option.some.injEq, Prod.mk.injEq] at H
    obtain ⟨rfl, rfl, rfl⟩ := H
    go_enter Try.func44, Try.ntmps44
    go_wp2_with (first | ((with_reducible refine gD (N := 2) rfl ?_); refine bE3 2 #[.int .u64 a0_0, .int .u64 a0_1] 55 ?hr ?_; (case hr => first | (go_simp; done) | (go_simp; rfl)); intro gb429 hg w4 hbox hb; have n0_ := Aside0.mk (bS3 HB.out hb); have n1_ := Aside0.mk (hbox); have n2_ := Aside0.mk ((bZ3 hg HB.out)); have n3_ := Aside0.mk ((bZ3 hg HB.out)); clear HB; have HB := n0_; have BK429 := n1_; have GW429 := n2_; have GE429 := n3_; clear n0_ n1_ n2_ n3_; clear hb hbox hg))
    go_ret3
    exact ⟨by first | rfl | (simp [errW_none, errW_some] <;> rfl) | (simp [*, errW_none, errW_some] <;> rfl), by repeat (first | (with_reducible first | exact HB.out | apply pA | apply pN | apply p1 | refine pS ?_ GE429.out) | exact HB.out)⟩
  · rw [if_neg c3] at H
    have c3b0 : (a1 == 0) = false := beq_eq_false_iff_ne.mpr c3
    have c3b1 : (a1 != 0) = true := bne_iff_ne.mpr c3
    by_cases c5 : a0_0 ≥ a1
    · rw [if_pos c5] at H
      have c5b0 : decide (a1 ≤ a0_0) = true := decide_eq_true c5
      clear c5
      simp only [Option.some.injEq, Prod.mk.injEq] at H
      obtain ⟨rfl, rfl, rfl⟩ := H
      go_enter Try.func44, Try.ntmps44
      go_wp2_with (first | ((with_reducible refine gD (N := 2) rfl ?_); refine bE3 2 #[.int .u64 a0_0, .int .u64 a0_1] 55 ?hr ?_; (case hr => first | (go_simp; done) | (go_simp; rfl)); intro gb429 hg w6 hbox hb; have n0_ := Aside0.mk (bS3 HB.out hb); have n1_ := Aside0.mk (hbox); have n2_ := Aside0.mk ((bZ3 hg HB.out)); have n3_ := Aside0.mk ((bZ3 hg HB.out)); clear HB; have HB := n0_; have BK429 := n1_; have GW429 := n2_; have GE429 := n3_; clear n0_ n1_ n2_ n3_; clear hb hbox hg; have hcz7_0 : w6.cell? ⟨gb429, 0, none⟩ = some (.int .u64 a0_0) := (blk_cell BK429.out 0).trans rfl; have hcz7_1 : w6.cell? ⟨gb429, 1, none⟩ = some (.int .u64 a0_1) := (blk_cell BK429.out 1).trans rfl; have hfz7_0 := blk_frozen BK429.out 0; have hfz7_1 := blk_frozen BK429.out 1))
      go_ret3
      exact ⟨by first | rfl | (simp [errW_none, errW_some] <;> rfl) | (simp [*, errW_none, errW_some] <;> rfl), by repeat (first | (with_reducible first | exact HB.out | apply pA | apply pN | apply p1 | refine pS ?_ GE429.out) | exact HB.out)⟩
    · rw [if_neg c5] at H
      have c5b0 : decide (a1 ≤ a0_0) = false := decide_eq_false c5
      clear c5
      replace H := Option.bind_eq_some_iff.mp H
      obtain ⟨⟨t430, t431⟩, A80, H⟩ := H
      replace H : (some (t430, t431, none)) = some (r1, r2, r3) := H
      have A8 := Aside0.mk A80
      clear A80
      simp only [Option.some.injEq, Prod.mk.injEq] at H
      obtain ⟨rfl, rfl, rfl⟩ := H
      go_enter Try.func44, Try.ntmps44
      go_wp2_with (first | ((with_reducible refine gD (N := 2) rfl ?_); refine bE3 2 #[.int .u64 a0_0, .int .u64 a0_1] 55 ?hr ?_; (case hr => first | (go_simp; done) | (go_simp; rfl)); intro gb429 hg w9 hbox hb; have n0_ := Aside0.mk (bS3 HB.out hb); have n1_ := Aside0.mk (hbox); have n2_ := Aside0.mk ((bZ3 hg HB.out)); have n3_ := Aside0.mk ((bZ3 hg HB.out)); clear HB; have HB := n0_; have BK429 := n1_; have GW429 := n2_; have GE429 := n3_; clear n0_ n1_ n2_ n3_; clear hb hbox hg; have hcz10_0 : w9.cell? ⟨gb429, 0, none⟩ = some (.int .u64 a0_0) := (blk_cell BK429.out 0).trans rfl; have hcz10_1 : w9.cell? ⟨gb429, 1, none⟩ = some (.int .u64 a0_1) := (blk_cell BK429.out 1).trans rfl; have hfz10_0 := blk_frozen BK429.out 0; have hfz10_1 := blk_frozen BK429.out 1) | ((with_reducible refine gC (f := 70) rfl ?_); refine goesY_ (some 23) Try.func70 #[.int .u64 a0_0, .int .u64 a0_1, .int .u64 a1] ?_; (with_reducible refine (bits_Div64.calls k a0_0 a0_1 a1 t430 t431 _ A8.out).mono ?_); rintro e w' ⟨rfl, ⟨nd, rfl⟩⟩; refine ⟨_, rfl, ?_⟩))
      go_ret3
      exact ⟨by first | rfl | (simp [errW_none, errW_some] <;> rfl) | (simp [*, errW_none, errW_some] <;> rfl), by repeat (first | (with_reducible first | exact HB.out | apply pA | apply pN | apply p1 | refine pS ?_ GE429.out) | exact HB.out)⟩

/-! ### part_Root: function 46 -/
def part_Root.l0 : Nat → Int → Int → Int → Int → Option (Int × Int × Int)
  | 0, _, _, _, _ => none
  | k + 1, x4, x5, x445000, x445001 => if x5 ≥ 0 then (if 0 ≤ x5 then ((twin_Mul.f (Go.bits .or .u64 x4 (shl .u64 1 x5)) (Go.bits .or .u64 x4 (shl .u64 1 x5))).bind fun bt452 => ((twin_Cmp.f bt452.1 bt452.2 x445000 x445001).bind fun t454 => (if t454 ≤ 0 then (part_Root.l0 k (Go.bits .or .u64 x4 (shl .u64 1 x5)) (wrap64 (x5 - 1)) x445000 x445001) else (part_Root.l0 k x4 (wrap64 (x5 - 1)) x445000 x445001)))) else (none)) else ((twin_Mul.f x4 x4).bind fun bt446 => ((twin_Sub.f x445000 x445001 bt446.1 bt446.2).bind fun bt448 => (some (x4, bt448.1, bt448.2.1))))
def part_Root.f (k : Nat) (a0_0 : Int) (a0_1 : Int) : Option (Int × Int × Int) := part_Root.l0 k 0 63 a0_0 a0_1
theorem part_Root.mono_l : ∀ k, (∀ y0 y1 y2 y3, LeO (part_Root.l0 k y0 y1 y2 y3) (part_Root.l0 (k + 1) y0 y1 y2 y3))
  | 0 => fun _ _ _ _ r h => by simp [part_Root.l0] at h
  | k + 1 => by
    have ih0 := part_Root.mono_l k
    · intro y0 y1 y2 y3
      unfold part_Root.l0
      repeat' first
      | (with_reducible exact ih0 _ _ _ _)
      | (with_reducible exact LeO.refl _)
      | (with_reducible exact LeO.none _)
      | (with_reducible refine LeO.ite ?_ ?_)
      | (with_reducible refine LeO.bind ?_ (fun _ => ?_))
      | exact ih0 _ _ _ _
      | exact LeO.none _
      | refine LeO.ite ?_ ?_
      | refine LeO.bind ?_ (fun _ => ?_)
theorem part_Root.mono : ∀ a0 a1 k, LeO (part_Root.f k a0 a1) (part_Root.f (k + 1) a0 a1) := by
  intro a0 a1 k
  have ih0 := part_Root.mono_l k
  unfold part_Root.f
  repeat' first
      | (with_reducible exact ih0 _ _ _ _)
      | (with_reducible exact LeO.refl _)
      | (with_reducible exact LeO.none _)
      | (with_reducible refine LeO.ite ?_ ?_)
      | (with_reducible refine LeO.bind ?_ (fun _ => ?_))
      | exact ih0 _ _ _ _
      | exact LeO.none _
      | refine LeO.ite ?_ ?_
      | refine LeO.bind ?_ (fun _ => ?_)
def part_Root.T8 : Bool × List (List Nat × List Nat) := (true, [([], []), ([], []), ([], []), ([1, 2], [1, 2]), ([0, 3, 3], [0, 3]), ([4], [4]), ([5], [5]), ([5], [5]), ([], []), ([8, 6, 4, 0, 1, 2, 3, 4, 5, 6, 8], [6, 8]), ([7, 9, 0, 1, 2, 3, 4, 5, 6, 7, 8, 9], [7])])
def part_Root.B8 : List Nat := [0, 0, 0, 6, 15, 31, 63, 63, 0, 383, 1023]
theorem part_Root.tab8 : rtab .any (opsOf Try.f46 8) = part_Root.T8 := by kernel_rfl
theorem part_Root.bits8 : waitsOk part_Root.T8.2 part_Root.B8 = true := by kernel_rfl
set_option maxHeartbeats 8000000 in
set_option maxRecDepth 100000 in
theorem part_Root.calls (k : Nat) (a0_0 : Int) (a0_1 : Int) (r1 : Int) (r2 : Int) (r3 : Int) (w : World) (h : part_Root.f k a0_0 a0_1 = some (r1, r2, r3)) :
    Calls Try.prog 46 #[.agg #[.int .u64 a0_0, .int .u64 a0_1]] w fun e w' => e = .returned (.tuple #[.int .u64 r1, .agg #[.int .u64 r2, .int .u64 r3]]) ∧ Below w.heap.size w w' := by
  have hu55 := Try.underlying55
  have HB := Aside0.mk (Below.refl w.heap.size w)
  have H : (part_Root.l0 k 0 63 a0_0 a0_1) = some (r1, r2, r3) := h
  clear h
  have H' := Aside0.mk H
  clear H
  go_enter Try.func46, Try.ntmps46
  go_wp2_with (first | ((with_reducible refine gD (N := 1) rfl ?_); refine bE3 1 #[.int .u64 a0_0, .int .u64 a0_1] 55 ?hr ?_; (case hr => first | (go_simp; done) | (go_simp; rfl)); intro gb444 hg w2 hbox hb; have n0_ := Aside0.mk (bS3 HB.out hb); have n1_ := Aside0.mk (hbox); have n2_ := Aside0.mk ((bZ3 hg HB.out)); have n3_ := Aside0.mk ((bZ3 hg HB.out)); clear HB; have HB := n0_; have BK444 := n1_; have GW444 := n2_; have GE444 := n3_; clear n0_ n1_ n2_ n3_; clear hb hbox hg) | ((with_reducible refine gD (N := 3) rfl ?_); refine bE3 3 #[.int .u64 0, .int .u64 0] 55 ?hr ?_; (case hr => first | (go_simp; done) | (go_simp; rfl)); intro gb445 hg w3 hbox hb; have n0_ := Aside0.mk (bB3 BK444.out hb); have n1_ := Aside0.mk (bS3 HB.out hb); have n2_ := Aside0.mk (hbox); have n3_ := Aside0.mk ((bZ3 hg HB.out)); have n4_ := Aside0.mk ((bZ3 hg HB.out)); have n5_ := Aside0.mk ((bL3 hg BK444.out)); have n6_ := Aside0.mk ((bG3 hg BK444.out)); clear BK444; clear HB; have BK444 := n0_; have HB := n1_; have BK445 := n2_; have GW445 := n3_; have GE445 := n4_; have NB444_445 := n5_; have NB445_444 := n6_; clear n0_ n1_ n2_ n3_ n4_ n5_ n6_; clear hb hbox hg))
  go_loopg [4, 5] k (fun kq v4 v5 w' => ∃ (x4_1 : Int) (x5_1 : Int), v4 = .int .u64 x4_1 ∧ v5 = .int .i64 x5_1 ∧ Aside0 (part_Root.l0 kq x4_1 x5_1 a0_0 a0_1 = some (r1, r2, r3)) ∧ Aside0 (kq ≤ k) ∧ Aside0 (w'.heap[gb444]? = some (.cells #[.int .u64 a0_0, .int .u64 a0_1] 55 (0, 0))) ∧ Aside0 (w'.heap[gb445]? = some (.cells #[.int .u64 0, .int .u64 0] 55 (0, 0))) ∧ Aside0 (Below w.heap.size w w'))
  case atStart => exact ⟨(0), (63), (by first | rfl | (simp; done) | (simp [*]; done)), (by first | rfl | (simp; done) | (simp [*]; done)), H', ⟨Nat.le_refl _⟩, ⟨by (with_reducible repeat (first | refine bN ?_ _ | refine bD ?_ | refine bA ?_ _)); exact BK444.out⟩, ⟨by (with_reducible repeat (first | refine bN ?_ _ | refine bD ?_ | refine bA ?_ _)); exact BK445.out⟩, ⟨by repeat (first | (with_reducible first | exact HB.out | apply pA | apply pN | apply p1 | refine pS ?_ GE444.out | refine pS ?_ GE445.out) | exact HB.out)⟩⟩
  case round =>
    clear H'
    try clear p2
    obtain ⟨x4_1, x5_1, rfl, rfl, HA, HK1, BK444, BK445, HB⟩ := hrel
    cases gk with
    | zero => exact absurd HA.out (by simp [part_Root.l0])
    | succ k1 =>
      have H := HA.out
      clear HA
      simp only [part_Root.l0] at H
      by_cases c4 : x5_1 ≥ 0
      · rw [if_pos c4] at H
        have c4b0 : decide (0 ≤ x5_1) = true := decide_eq_true c4
        clear c4
        by_cases c5 : 0 ≤ x5_1
        · rw [if_pos c5] at H
          have c5b0 := eq_true c5
          have c5b1 : decide (0 ≤ x5_1) = true := decide_eq_true c5
          clear c5
          obtain ⟨ji6, hji6⟩ : ∃ j_ : Int, (shl .u64 1 x5_1) = j_ := ⟨_, rfl⟩
          replace H : ((twin_Mul.f (Go.bits .or .u64 x4_1 (ji6)) (Go.bits .or .u64 x4_1 (ji6))).bind fun bt452 => ((twin_Cmp.f bt452.1 bt452.2 a0_0 a0_1).bind fun t454 => (if t454 ≤ 0 then (part_Root.l0 k1 (Go.bits .or .u64 x4_1 (ji6)) (wrap64 (x5_1 - 1)) a0_0 a0_1) else (part_Root.l0 k1 x4_1 (wrap64 (x5_1 - 1)) a0_0 a0_1)))) = some (r1, r2, r3) := by first | (rw [hji6] at H; exact H) | (simp only [hji6] at H ⊢; exact H)
          have hji6_ : (IntKind.u64.wrap (1 * 2 ^ min x5_1.toNat 64)) = ji6 := hji6
          have hji6z : x5_1 ≤ 64 → (IntKind.u64.wrap (1 * 2 ^ x5_1.toNat)) = ji6 := shl_small hji6
          have hji6u : (IntKind.u64.wrap (2 ^ min x5_1.toNat 64)) = ji6 := by have h_ := hji6_; rw [Int.one_mul] at h_; exact h_
          have hji6v : x5_1 ≤ 64 → (IntKind.u64.wrap (2 ^ x5_1.toNat)) = ji6 := fun hle_ => by have h_ := hji6z hle_; rw [Int.one_mul] at h_; exact h_
          replace H := Option.bind_eq_some_iff.mp H
          obtain ⟨⟨t452, t453⟩, A70, H⟩ := H
          replace H : ((twin_Cmp.f t452 t453 a0_0 a0_1).bind fun t454 => (if t454 ≤ 0 then (part_Root.l0 k1 (Go.bits .or .u64 x4_1 (ji6)) (wrap64 (x5_1 - 1)) a0_0 a0_1) else (part_Root.l0 k1 x4_1 (wrap64 (x5_1 - 1)) a0_0 a0_1))) = some (r1, r2, r3) := H
          have A7 := Aside0.mk A70
          clear A70
          replace H := Option.bind_eq_some_iff.mp H
          obtain ⟨t454, A80, H⟩ := H
          replace H : (if t454 ≤ 0 then (part_Root.l0 k1 (Go.bits .or .u64 x4_1 (ji6)) (wrap64 (x5_1 - 1)) a0_0 a0_1) else (part_Root.l0 k1 x4_1 (wrap64 (x5_1 - 1)) a0_0 a0_1)) = some (r1, r2, r3) := H
          have A8 := Aside0.mk A80
          clear A80
          by_cases c9 : t454 ≤ 0
          · rw [if_pos c9] at H
            have c9b0 : decide (t454 ≤ 0) = true := decide_eq_true c9
            clear c9
            have H' := Aside0.mk H
            clear H
            try go_wp2
            have n0_ := Aside0.mk (bD BK444.out)
            have n1_ := Aside0.mk (bD BK445.out)
            have n2_ := Aside0.mk (p1 HB.out)
            clear BK444
            clear BK445
            clear HB
            have BK444 := n0_
            have BK445 := n1_
            have HB := n2_
            clear n0_ n1_ n2_
            refine start_ (n := 6) (S := fun w' => w'.cell? ⟨gb444, 0, none⟩ = some (.int .u64 a0_0) ∧ w'.cell? ⟨gb444, 1, none⟩ = some (.int .u64 a0_1)) (ds := []) #[false, false, false, false, false, false] (by kernel_rfl) rfl rfl ⟨(blk_cell BK444.out 0).trans rfl, (blk_cell BK444.out 1).trans rfl⟩ (fun hHeld => ?_)
            generalize wr.drew = w10 at BK444 BK445 HB hHeld ⊢
            refine pure_ (i := 0) (N := some 17) (v := ?_) (a' := ?_) #[true, false, false, false, false, false] rfl rfl (by kernel_rfl) (fun _ _ _ h => h) (Or.inl ⟨by rfl, ?_⟩) ?_ ?_
            rotate_left
            · intro w'
              go_simp
              with_reducible rfl
            rotate_left
            · simp only [Act.put, List.setIfInBounds_toArray, List.set_cons_zero, List.set_cons_succ, i64_w, i32_w]
              rfl
            refine pure_ (i := 1) (N := some 18) (v := ?_) (a' := ?_) #[true, true, false, false, false, false] rfl rfl (by kernel_rfl) (fun _ _ _ h => h) (Or.inl ⟨by rfl, ?_⟩) ?_ ?_
            rotate_left
            · intro w'
              go_simp
              with_reducible rfl
            rotate_left
            · simp only [Act.put, List.setIfInBounds_toArray, List.set_cons_zero, List.set_cons_succ, i64_w, i32_w]
              rfl
            refine take_ (i := 3) (N := some 20) (v := ?_) (a' := ?_) #[true, true, false, true, false, false] rfl rfl (by kernel_rfl) (fun _ _ _ h => h) (Or.inl ⟨by rfl, ?_⟩) hHeld ?_ ?_
            rotate_left
            · rintro w' ⟨s0, s1⟩
              go_simp
              with_reducible rfl
            rotate_left
            · simp only [Act.put, List.setIfInBounds_toArray, List.set_cons_zero, List.set_cons_succ, i64_w, i32_w]
              rfl
            refine one_ (i := 2) (N := some 19) #[true, true, true, true, false, false] rfl rfl (by kernel_rfl) (by decide) (fun K hK => ?_)
            refine goes_ Try.func51 (by kernel_rfl) rfl #[.int .u64 (Go.bits .or .u64 x4_1 (ji6)), .int .u64 (Go.bits .or .u64 x4_1 (ji6))] (by rfl) rfl rfl (by (try simp only [List.map_toArray, List.map_cons, List.map_nil]); first | done | (simp only [hji6]; rfl) | rfl | (simp only [List.length_drop, List.length_take]; rfl)) ?_
            with_reducible refine (twin_Mul.calls (Go.bits .or .u64 x4_1 (ji6)) (Go.bits .or .u64 x4_1 (ji6)) t452 t453 _ A7.out).mono ?_
            rintro e w11 ⟨rfl, hb⟩
            refine ⟨_, rfl, ?_⟩
            have n0_ := Aside0.mk (bB3 BK444.out hb)
            have n1_ := Aside0.mk (bB3 BK445.out hb)
            have n2_ := Aside0.mk (bS3 HB.out hb)
            clear BK444
            clear BK445
            clear HB
            have BK444 := n0_
            have BK445 := n1_
            have HB := n2_
            clear n0_ n1_ n2_
            (try clear hb)
            (try clear hb2)
            (try clear hk)
            (try clear hi)
            refine hK.out _ _ ⟨(blk_cell BK444.out 0).trans rfl, (blk_cell BK444.out 1).trans rfl⟩ (fun hHeld => ?_)
            clear hK K
            refine norm_ (a' := ?_) ?_ ?_
            rotate_left
            · show Act.put _ (some 19) _ = _
              simp only [Act.put, List.setIfInBounds_toArray, List.set_cons_zero, List.set_cons_succ, i64_w, i32_w]
              rfl
            refine one_ (i := 4) (N := some 21) #[true, true, true, true, true, false] rfl rfl (by kernel_rfl) (by decide) (fun K hK => ?_)
            refine goes_ Try.func53 (by kernel_rfl) rfl #[.agg #[.int .u64 t452, .int .u64 t453], .agg #[.int .u64 a0_0, .int .u64 a0_1]] (by rfl) rfl rfl (by (try simp only [List.map_toArray, List.map_cons, List.map_nil]); first | done | rfl | (simp only [List.length_drop, List.length_take]; rfl)) ?_
            with_reducible refine (twin_Cmp.calls t452 t453 a0_0 a0_1 t454 _ A8.out).mono ?_
            rintro e w12 ⟨rfl, hb⟩
            refine ⟨_, rfl, ?_⟩
            have n0_ := Aside0.mk (bB3 BK444.out hb)
            have n1_ := Aside0.mk (bB3 BK445.out hb)
            have n2_ := Aside0.mk (bS3 HB.out hb)
            clear BK444
            clear BK445
            clear HB
            have BK444 := n0_
            have BK445 := n1_
            have HB := n2_
            clear n0_ n1_ n2_
            (try clear hb)
            (try clear hb2)
            (try clear hk)
            (try clear hi)
            refine hK.out _ _ ⟨(blk_cell BK444.out 0).trans rfl, (blk_cell BK444.out 1).trans rfl⟩ (fun hHeld => ?_)
            clear hK K
            refine norm_ (a' := ?_) ?_ ?_
            rotate_left
            · show Act.put _ (some 21) _ = _
              simp only [Act.put, List.setIfInBounds_toArray, List.set_cons_zero, List.set_cons_succ, i64_w, i32_w]
              rfl
            refine pure_ (i := 5) (N := some 22) (v := ?_) (a' := ?_) #[true, true, true, true, true, true] rfl rfl (by kernel_rfl) (fun _ _ _ h => h) (Or.inl ⟨by rfl, ?_⟩) ?_ ?_
            rotate_left
            · intro w'
              go_simp
              with_reducible rfl
            rotate_left
            · simp only [Act.put, List.setIfInBounds_toArray, List.set_cons_zero, List.set_cons_succ, i64_w, i32_w]
              rfl
            refine done_ (by kernel_rfl) ?_
            try go_wp2
            go_roundg k1
            case measure => have := HK1.out; omega
            case rel => exact ⟨(Go.bits .or .u64 x4_1 (ji6)), (wrap64 (x5_1 - 1)), (by first | rfl | (simp; done) | (simp only [← hji6] <;> (first | rfl | simp)) | (simp [*]; done)), (by first | rfl | (simp; done) | (simp [*]; done)), H', ⟨by have := HK1.out; omega⟩, ⟨by (with_reducible repeat (first | refine bN ?_ _ | refine bD ?_ | refine bA ?_ _)); exact BK444.out⟩, ⟨by (with_reducible repeat (first | refine bN ?_ _ | refine bD ?_ | refine bA ?_ _)); exact BK445.out⟩, ⟨by repeat (first | (with_reducible first | exact HB.out | apply pA | apply pN | apply p1 | refine pS ?_ GE444.out | refine pS ?_ GE445.out) | exact HB.out)⟩⟩
          · rw [if_neg c9] at H
            have c9b0 : decide (t454 ≤ 0) = false := decide_eq_false c9
            clear c9
            have H' := Aside0.mk H
            clear H
            try go_wp2
            have n0_ := Aside0.mk (bD BK444.out)
            have n1_ := Aside0.mk (bD BK445.out)
            have n2_ := Aside0.mk (p1 HB.out)
            clear BK444
            clear BK445
            clear HB
            have BK444 := n0_
            have BK445 := n1_
            have HB := n2_
            clear n0_ n1_ n2_
            refine start_ (n := 6) (S := fun w' => w'.cell? ⟨gb444, 0, none⟩ = some (.int .u64 a0_0) ∧ w'.cell? ⟨gb444, 1, none⟩ = some (.int .u64 a0_1)) (ds := []) #[false, false, false, false, false, false] (by kernel_rfl) rfl rfl ⟨(blk_cell BK444.out 0).trans rfl, (blk_cell BK444.out 1).trans rfl⟩ (fun hHeld => ?_)
            generalize wr.drew = w13 at BK444 BK445 HB hHeld ⊢
            refine pure_ (i := 0) (N := some 17) (v := ?_) (a' := ?_) #[true, false, false, false, false, false] rfl rfl (by kernel_rfl) (fun _ _ _ h => h) (Or.inl ⟨by rfl, ?_⟩) ?_ ?_
            rotate_left
            · intro w'
              go_simp
              with_reducible rfl
            rotate_left
            · simp only [Act.put, List.setIfInBounds_toArray, List.set_cons_zero, List.set_cons_succ, i64_w, i32_w]
              rfl
            refine pure_ (i := 1) (N := some 18) (v := ?_) (a' := ?_) #[true, true, false, false, false, false] rfl rfl (by kernel_rfl) (fun _ _ _ h => h) (Or.inl ⟨by rfl, ?_⟩) ?_ ?_
            rotate_left
            · intro w'
              go_simp
              with_reducible rfl
            rotate_left
            · simp only [Act.put, List.setIfInBounds_toArray, List.set_cons_zero, List.set_cons_succ, i64_w, i32_w]
              rfl
            refine take_ (i := 3) (N := some 20) (v := ?_) (a' := ?_) #[true, true, false, true, false, false] rfl rfl (by kernel_rfl) (fun _ _ _ h => h) (Or.inl ⟨by rfl, ?_⟩) hHeld ?_ ?_
            rotate_left
            · rintro w' ⟨s0, s1⟩
              go_simp
              with_reducible rfl
            rotate_left
            · simp only [Act.put, List.setIfInBounds_toArray, List.set_cons_zero, List.set_cons_succ, i64_w, i32_w]
              rfl
            refine one_ (i := 2) (N := some 19) #[true, true, true, true, false, false] rfl rfl (by kernel_rfl) (by decide) (fun K hK => ?_)
            refine goes_ Try.func51 (by kernel_rfl) rfl #[.int .u64 (Go.bits .or .u64 x4_1 (ji6)), .int .u64 (Go.bits .or .u64 x4_1 (ji6))] (by rfl) rfl rfl (by (try simp only [List.map_toArray, List.map_cons, List.map_nil]); first | done | (simp only [hji6]; rfl) | rfl | (simp only [List.length_drop, List.length_take]; rfl)) ?_
            with_reducible refine (twin_Mul.calls (Go.bits .or .u64 x4_1 (ji6)) (Go.bits .or .u64 x4_1 (ji6)) t452 t453 _ A7.out).mono ?_
            rintro e w14 ⟨rfl, hb⟩
            refine ⟨_, rfl, ?_⟩
            have n0_ := Aside0.mk (bB3 BK444.out hb)
            have n1_ := Aside0.mk (bB3 BK445.out hb)
            have n2_ := Aside0.mk (bS3 HB.out hb)
            clear BK444
            clear BK445
            clear HB
            have BK444 := n0_
            have BK445 := n1_
            have HB := n2_
            clear n0_ n1_ n2_
            (try clear hb)
            (try clear hb2)
            (try clear hk)
            (try clear hi)
            refine hK.out _ _ ⟨(blk_cell BK444.out 0).trans rfl, (blk_cell BK444.out 1).trans rfl⟩ (fun hHeld => ?_)
            clear hK K
            refine norm_ (a' := ?_) ?_ ?_
            rotate_left
            · show Act.put _ (some 19) _ = _
              simp only [Act.put, List.setIfInBounds_toArray, List.set_cons_zero, List.set_cons_succ, i64_w, i32_w]
              rfl
            refine one_ (i := 4) (N := some 21) #[true, true, true, true, true, false] rfl rfl (by kernel_rfl) (by decide) (fun K hK => ?_)
            refine goes_ Try.func53 (by kernel_rfl) rfl #[.agg #[.int .u64 t452, .int .u64 t453], .agg #[.int .u64 a0_0, .int .u64 a0_1]] (by rfl) rfl rfl (by (try simp only [List.map_toArray, List.map_cons, List.map_nil]); first | done | rfl | (simp only [List.length_drop, List.length_take]; rfl)) ?_
            with_reducible refine (twin_Cmp.calls t452 t453 a0_0 a0_1 t454 _ A8.out).mono ?_
            rintro e w15 ⟨rfl, hb⟩
            refine ⟨_, rfl, ?_⟩
            have n0_ := Aside0.mk (bB3 BK444.out hb)
            have n1_ := Aside0.mk (bB3 BK445.out hb)
            have n2_ := Aside0.mk (bS3 HB.out hb)
            clear BK444
            clear BK445
            clear HB
            have BK444 := n0_
            have BK445 := n1_
            have HB := n2_
            clear n0_ n1_ n2_
            (try clear hb)
            (try clear hb2)
            (try clear hk)
            (try clear hi)
            refine hK.out _ _ ⟨(blk_cell BK444.out 0).trans rfl, (blk_cell BK444.out 1).trans rfl⟩ (fun hHeld => ?_)
            clear hK K
            refine norm_ (a' := ?_) ?_ ?_
            rotate_left
            · show Act.put _ (some 21) _ = _
              simp only [Act.put, List.setIfInBounds_toArray, List.set_cons_zero, List.set_cons_succ, i64_w, i32_w]
              rfl
            refine pure_ (i := 5) (N := some 22) (v := ?_) (a' := ?_) #[true, true, true, true, true, true] rfl rfl (by kernel_rfl) (fun _ _ _ h => h) (Or.inl ⟨by rfl, ?_⟩) ?_ ?_
            rotate_left
            · intro w'
              go_simp
              with_reducible rfl
            rotate_left
            · simp only [Act.put, List.setIfInBounds_toArray, List.set_cons_zero, List.set_cons_succ, i64_w, i32_w]
              rfl
            refine done_ (by kernel_rfl) ?_
            try go_wp2
            go_roundg k1
            case measure => have := HK1.out; omega
            case rel => exact ⟨(x4_1), (wrap64 (x5_1 - 1)), (by first | rfl | (simp; done) | (simp [*]; done)), (by first | rfl | (simp; done) | (simp [*]; done)), H', ⟨by have := HK1.out; omega⟩, ⟨by (with_reducible repeat (first | refine bN ?_ _ | refine bD ?_ | refine bA ?_ _)); exact BK444.out⟩, ⟨by (with_reducible repeat (first | refine bN ?_ _ | refine bD ?_ | refine bA ?_ _)); exact BK445.out⟩, ⟨by repeat (first | (with_reducible first | exact HB.out | apply pA | apply pN | apply p1 | refine pS ?_ GE444.out | refine pS ?_ GE445.out) | exact HB.out)⟩⟩
        · rw [if_neg c5] at H
          exact absurd H (by simp)
      · rw [if_neg c4] at H
        have c4b0 : decide (0 ≤ x5_1) = false := decide_eq_false c4
        clear c4
        replace H := Option.bind_eq_some_iff.mp H
        obtain ⟨⟨t446, t447⟩, A160, H⟩ := H
        replace H : ((twin_Sub.f a0_0 a0_1 t446 t447).bind fun bt448 => (some (x4_1, bt448.1, bt448.2.1))) = some (r1, r2, r3) := H
        have A16 := Aside0.mk A160
        clear A160
        replace H := Option.bind_eq_some_iff.mp H
        obtain ⟨⟨t448, t449, t450⟩, A170, H⟩ := H
        replace H : (some (x4_1, t448, t449)) = some (r1, r2, r3) := H
        have A17 := Aside0.mk A170
        clear A170
        simp only [Option.some.injEq, Prod.mk.injEq] at H
        obtain ⟨rfl, rfl, rfl⟩ := H
        try go_wp2
        have n0_ := Aside0.mk (bD BK444.out)
        have n1_ := Aside0.mk (bD BK445.out)
        have n2_ := Aside0.mk (p1 HB.out)
        clear BK444
        clear BK445
        clear HB
        have BK444 := n0_
        have BK445 := n1_
        have HB := n2_
        clear n0_ n1_ n2_
        refine start_ (n := 11) (S := fun w' => w'.cell? ⟨gb444, 0, none⟩ = some (.int .u64 a0_0) ∧ w'.cell? ⟨gb444, 1, none⟩ = some (.int .u64 a0_1)) (ds := []) #[false, false, false, false, false, false, false, false, false, false, false] (by kernel_rfl) rfl rfl ⟨(blk_cell BK444.out 0).trans rfl, (blk_cell BK444.out 1).trans rfl⟩ (fun hHeld => ?_); refine with_tabW part_Root.tab8 part_Root.bits8 (fun HT_ HW_ => ?_)
        generalize wr.drew = w18 at BK444 BK445 HB hHeld ⊢
        refine pure_ (i := 1) (N := some 26) (v := ?_) (a' := ?_) #[false, true, false, false, false, false, false, false, false, false, false] rfl rfl (any_of HT_.out (by kernel_rfl)) (fun _ _ _ h => h) (Or.inl ⟨by rfl, ?_⟩) ?_ ?_
        rotate_left
        · intro w'
          go_simp
          with_reducible rfl
        rotate_left
        · simp only [Act.put, List.setIfInBounds_toArray, List.set_cons_zero, List.set_cons_succ, i64_w, i32_w]
          rfl
        refine pure_ (i := 2) (N := some 27) (v := ?_) (a' := ?_) #[false, true, true, false, false, false, false, false, false, false, false] rfl rfl (any_of HT_.out (by kernel_rfl)) (fun _ _ _ h => h) (Or.inl ⟨by rfl, ?_⟩) ?_ ?_
        rotate_left
        · intro w'
          go_simp
          with_reducible rfl
        rotate_left
        · simp only [Act.put, List.setIfInBounds_toArray, List.set_cons_zero, List.set_cons_succ, i64_w, i32_w]
          rfl
        refine take_ (i := 0) (N := some 25) (v := ?_) (a' := ?_) #[true, true, true, false, false, false, false, false, false, false, false] rfl rfl (take_ofW HT_.out HW_.out (by kernel_rfl)) (fun _ _ _ h => h) (Or.inl ⟨by rfl, ?_⟩) hHeld ?_ ?_
        rotate_left
        · rintro w' ⟨s0, s1⟩
          go_simp
          with_reducible rfl
        rotate_left
        · simp only [Act.put, List.setIfInBounds_toArray, List.set_cons_zero, List.set_cons_succ, i64_w, i32_w]
          rfl
        refine join_ (σ := Nat) 2 #[true, true, true, true, true, true, true, true, true, false, false] (fun s_ => [(28, .agg #[.int .u64 t446, .int .u64 t447]), (29, .tuple #[.agg #[.int .u64 t448, .int .u64 t449], .bool t450]), (7, .pointer (some ⟨s_, 0, none⟩)), (24, .tuple #[.agg #[.int .u64 t448, .int .u64 t449], .bool t450]), (30, .agg #[.int .u64 t448, .int .u64 t449]), (31, .bool t450)]) (fun s_ w' => (w'.cell? ⟨gb444, 0, none⟩ = some (.int .u64 a0_0) ∧ w'.cell? ⟨gb444, 1, none⟩ = some (.int .u64 a0_1)) ∧ (w'.heap[gb444]? = some (.cells #[.int .u64 a0_0, .int .u64 a0_1] 55 (0, 0))) ∧ (w'.heap[gb445]? = some (.cells #[.int .u64 0, .int .u64 0] 55 (0, 0))) ∧ (w'.heap[s_]? = some (.cells #[.int .u64 0, .int .u64 0] 55 (0, 0))) ∧ (w.heap.size ≤ s_) ∧ (w.heap.size ≤ s_) ∧ (gb444 ≠ s_) ∧ (s_ ≠ gb444) ∧ (gb445 ≠ s_) ∧ (s_ ≠ gb445) ∧ (Below w.heap.size w w')) ?_ ?_
        rotate_left
        · intro hCont
          refine two_ (i := 3) (j := 8) (Ni := some 28) (Nj := some 7) #[true, true, true, true, false, false, false, false, false, false, false] #[true, true, true, false, false, false, false, false, true, false, false] rfl rfl rfl rfl (two_of HT_.out (by kernel_rfl)) (by decide) (by decide) (fun K hK => ?_) (fun K hK => ?_)
          · skip
            refine goes_ Try.func51 (by kernel_rfl) rfl #[.int .u64 x4_1, .int .u64 x4_1] (by rfl) rfl rfl (by (try simp only [List.map_toArray, List.map_cons, List.map_nil]); first | done | rfl | (simp only [List.length_drop, List.length_take]; rfl)) ?_
            with_reducible refine (twin_Mul.calls x4_1 x4_1 t446 t447 _ A16.out).mono ?_
            rintro e w19 ⟨rfl, hb⟩
            refine ⟨_, rfl, ?_⟩
            have n0_ := Aside0.mk (bB3 BK444.out hb)
            have n1_ := Aside0.mk (bB3 BK445.out hb)
            have n2_ := Aside0.mk (bS3 HB.out hb)
            clear BK444
            clear BK445
            clear HB
            have BK444 := n0_
            have BK445 := n1_
            have HB := n2_
            clear n0_ n1_ n2_
            (try clear hb)
            (try clear hb2)
            (try clear hk)
            (try clear hi)
            refine hK.out _ _ ⟨(blk_cell BK444.out 0).trans rfl, (blk_cell BK444.out 1).trans rfl⟩ (fun hHeld => ?_)
            clear hK K
            refine norm_ (a' := ?_) ?_ ?_
            rotate_left
            · show Act.put _ (some 28) _ = _
              simp only [Act.put, List.setIfInBounds_toArray, List.set_cons_zero, List.set_cons_succ, i64_w, i32_w]
              rfl
            refine two_ (i := 4) (j := 8) (Ni := some 29) (Nj := some 7) #[true, true, true, true, true, false, false, false, false, false, false] #[true, true, true, true, false, false, false, false, true, false, false] rfl rfl rfl rfl (two_of HT_.out (by kernel_rfl)) (by decide) (by decide) (fun K hK => ?_) (fun K hK => ?_)
            · skip
              refine goes_ Try.func71 (by kernel_rfl) rfl #[.agg #[.int .u64 a0_0, .int .u64 a0_1], .agg #[.int .u64 t446, .int .u64 t447]] (by rfl) rfl rfl (by (try simp only [List.map_toArray, List.map_cons, List.map_nil]); first | done | rfl | (simp only [List.length_drop, List.length_take]; rfl)) ?_
              with_reducible refine (twin_Sub.calls a0_0 a0_1 t446 t447 t448 t449 t450 _ A17.out).mono ?_
              rintro e w20 ⟨rfl, hb⟩
              refine ⟨_, rfl, ?_⟩
              have n0_ := Aside0.mk (bB3 BK444.out hb)
              have n1_ := Aside0.mk (bB3 BK445.out hb)
              have n2_ := Aside0.mk (bS3 HB.out hb)
              clear BK444
              clear BK445
              clear HB
              have BK444 := n0_
              have BK445 := n1_
              have HB := n2_
              clear n0_ n1_ n2_
              (try clear hb)
              (try clear hb2)
              (try clear hk)
              (try clear hi)
              refine hK.out _ _ ⟨(blk_cell BK444.out 0).trans rfl, (blk_cell BK444.out 1).trans rfl⟩ (fun hHeld => ?_)
              clear hK K
              refine norm_ (a' := ?_) ?_ ?_
              rotate_left
              · show Act.put _ (some 29) _ = _
                simp only [Act.put, List.setIfInBounds_toArray, List.set_cons_zero, List.set_cons_succ, i64_w, i32_w]
                rfl
              refine pure_ (i := 5) (N := some 24) (v := ?_) (a' := ?_) #[true, true, true, true, true, true, false, false, false, false, false] rfl rfl (any_of HT_.out (by kernel_rfl)) (fun _ _ _ h => h) (Or.inl ⟨by rfl, ?_⟩) ?_ ?_
              rotate_left
              · intro w'
                go_simp
                with_reducible rfl
              rotate_left
              · simp only [Act.put, List.setIfInBounds_toArray, List.set_cons_zero, List.set_cons_succ, i64_w, i32_w]
                rfl
              refine pure_ (i := 6) (N := some 30) (v := ?_) (a' := ?_) #[true, true, true, true, true, true, true, false, false, false, false] rfl rfl (any_of HT_.out (by kernel_rfl)) (fun _ _ _ h => h) (Or.inl ⟨by rfl, ?_⟩) ?_ ?_
              rotate_left
              · intro w'
                go_simp
                with_reducible rfl
              rotate_left
              · simp only [Act.put, List.setIfInBounds_toArray, List.set_cons_zero, List.set_cons_succ, i64_w, i32_w]
                rfl
              refine pure_ (i := 7) (N := some 31) (v := ?_) (a' := ?_) #[true, true, true, true, true, true, true, true, false, false, false] rfl rfl (any_of HT_.out (by kernel_rfl)) (fun _ _ _ h => h) (Or.inl ⟨by rfl, ?_⟩) ?_ ?_
              rotate_left
              · intro w'
                go_simp
                with_reducible rfl
              rotate_left
              · simp only [Act.put, List.setIfInBounds_toArray, List.set_cons_zero, List.set_cons_succ, i64_w, i32_w]
                rfl
              refine one_ (i := 8) (N := some 7) #[true, true, true, true, true, true, true, true, true, false, false] rfl rfl (one_of HT_.out (by kernel_rfl)) (by decide) (fun K hK => ?_)
              refine box_step ?hg (N := 7) ?hd (cs := #[.int .u64 0, .int .u64 0]) (t := 55) ?hr ?_; (case hd => rfl); (case hg => rfl); (case hr => first | (go_simp; done) | (go_simp; rfl))
              intro gb451 hg w21 hbox hb
              have n0_ := Aside0.mk (bB3 BK444.out hb)
              have n1_ := Aside0.mk (bB3 BK445.out hb)
              have n2_ := Aside0.mk (bS3 HB.out hb)
              have n3_ := Aside0.mk (hbox)
              have n4_ := Aside0.mk ((bZ3 hg HB.out))
              have n5_ := Aside0.mk ((bZ3 hg HB.out))
              have n6_ := Aside0.mk ((bL3 hg BK444.out))
              have n7_ := Aside0.mk ((bG3 hg BK444.out))
              have n8_ := Aside0.mk ((bL3 hg BK445.out))
              have n9_ := Aside0.mk ((bG3 hg BK445.out))
              clear BK444
              clear BK445
              clear HB
              have BK444 := n0_
              have BK445 := n1_
              have HB := n2_
              have BK451 := n3_
              have GW451 := n4_
              have GE451 := n5_
              have NB444_451 := n6_
              have NB451_444 := n7_
              have NB445_451 := n8_
              have NB451_445 := n9_
              clear n0_ n1_ n2_ n3_ n4_ n5_ n6_ n7_ n8_ n9_
              clear hb hbox hg
              refine hK.out _ _ ⟨(blk_cell BK444.out 0).trans rfl, (blk_cell BK444.out 1).trans rfl⟩ (fun hHeld => ?_)
              clear hK K
              refine norm_ (a' := ?_) ?_ ?_
              rotate_left
              · show Act.put _ (some 7) _ = _
                simp only [Act.put, List.setIfInBounds_toArray, List.set_cons_zero, List.set_cons_succ, i64_w, i32_w]
                rfl
              exact norm_ (by simp only [putAll, Act.put, List.setIfInBounds_toArray, List.set_cons_zero, List.set_cons_succ]) (hCont (gb451) _ ⟨hHeld, (by (with_reducible repeat (first | refine bN ?_ _ | refine bD ?_ | refine bA ?_ _)); exact BK444.out), (by (with_reducible repeat (first | refine bN ?_ _ | refine bD ?_ | refine bA ?_ _)); exact BK445.out), (by (with_reducible repeat (first | refine bN ?_ _ | refine bD ?_ | refine bA ?_ _)); exact BK451.out), GW451.out, GE451.out, NB444_451.out, NB451_444.out, NB445_451.out, NB451_445.out, (by repeat (first | (with_reducible first | exact HB.out | apply pA | apply pN | apply p1 | refine pS ?_ GE444.out | refine pS ?_ GE445.out | refine pS ?_ GE451.out) | exact HB.out))⟩)
            · skip
              refine box_step ?hg (N := 7) ?hd (cs := #[.int .u64 0, .int .u64 0]) (t := 55) ?hr ?_; (case hd => rfl); (case hg => rfl); (case hr => first | (go_simp; done) | (go_simp; rfl))
              intro gb451 hg w20 hbox hb
              have n0_ := Aside0.mk (bB3 BK444.out hb)
              have n1_ := Aside0.mk (bB3 BK445.out hb)
              have n2_ := Aside0.mk (bS3 HB.out hb)
              have n3_ := Aside0.mk (hbox)
              have n4_ := Aside0.mk ((bZ3 hg HB.out))
              have n5_ := Aside0.mk ((bZ3 hg HB.out))
              have n6_ := Aside0.mk ((bL3 hg BK444.out))
              have n7_ := Aside0.mk ((bG3 hg BK444.out))
              have n8_ := Aside0.mk ((bL3 hg BK445.out))
              have n9_ := Aside0.mk ((bG3 hg BK445.out))
              clear BK444
              clear BK445
              clear HB
              have BK444 := n0_
              have BK445 := n1_
              have HB := n2_
              have BK451 := n3_
              have GW451 := n4_
              have GE451 := n5_
              have NB444_451 := n6_
              have NB451_444 := n7_
              have NB445_451 := n8_
              have NB451_445 := n9_
              clear n0_ n1_ n2_ n3_ n4_ n5_ n6_ n7_ n8_ n9_
              clear hb hbox hg
              refine hK.out _ _ ⟨(blk_cell BK444.out 0).trans rfl, (blk_cell BK444.out 1).trans rfl⟩ (fun hHeld => ?_)
              clear hK K
              refine norm_ (a' := ?_) ?_ ?_
              rotate_left
              · show Act.put _ (some 7) _ = _
                simp only [Act.put, List.setIfInBounds_toArray, List.set_cons_zero, List.set_cons_succ, i64_w, i32_w]
                rfl
              refine one_ (i := 4) (N := some 29) #[true, true, true, true, true, false, false, false, true, false, false] rfl rfl (one_of HT_.out (by kernel_rfl)) (by decide) (fun K hK => ?_)
              refine goes_ Try.func71 (by kernel_rfl) rfl #[.agg #[.int .u64 a0_0, .int .u64 a0_1], .agg #[.int .u64 t446, .int .u64 t447]] (by rfl) rfl rfl (by (try simp only [List.map_toArray, List.map_cons, List.map_nil]); first | done | rfl | (simp only [List.length_drop, List.length_take]; rfl)) ?_
              with_reducible refine (twin_Sub.calls a0_0 a0_1 t446 t447 t448 t449 t450 _ A17.out).mono ?_
              rintro e w21 ⟨rfl, hb⟩
              refine ⟨_, rfl, ?_⟩
              have n0_ := Aside0.mk (bB3 BK444.out hb)
              have n1_ := Aside0.mk (bB3 BK445.out hb)
              have n2_ := Aside0.mk (bB3 BK451.out hb)
              have n3_ := Aside0.mk (bS3 HB.out hb)
              clear BK444
              clear BK445
              clear BK451
              clear HB
              have BK444 := n0_
              have BK445 := n1_
              have BK451 := n2_
              have HB := n3_
              clear n0_ n1_ n2_ n3_
              (try clear hb)
              (try clear hb2)
              (try clear hk)
              (try clear hi)
              refine hK.out _ _ ⟨(blk_cell BK444.out 0).trans rfl, (blk_cell BK444.out 1).trans rfl⟩ (fun hHeld => ?_)
              clear hK K
              refine norm_ (a' := ?_) ?_ ?_
              rotate_left
              · show Act.put _ (some 29) _ = _
                simp only [Act.put, List.setIfInBounds_toArray, List.set_cons_zero, List.set_cons_succ, i64_w, i32_w]
                rfl
              refine pure_ (i := 5) (N := some 24) (v := ?_) (a' := ?_) #[true, true, true, true, true, true, false, false, true, false, false] rfl rfl (any_of HT_.out (by kernel_rfl)) (fun _ _ _ h => h) (Or.inl ⟨by rfl, ?_⟩) ?_ ?_
              rotate_left
              · intro w'
                go_simp
                with_reducible rfl
              rotate_left
              · simp only [Act.put, List.setIfInBounds_toArray, List.set_cons_zero, List.set_cons_succ, i64_w, i32_w]
                rfl
              refine pure_ (i := 6) (N := some 30) (v := ?_) (a' := ?_) #[true, true, true, true, true, true, true, false, true, false, false] rfl rfl (any_of HT_.out (by kernel_rfl)) (fun _ _ _ h => h) (Or.inl ⟨by rfl, ?_⟩) ?_ ?_
              rotate_left
              · intro w'
                go_simp
                with_reducible rfl
              rotate_left
              · simp only [Act.put, List.setIfInBounds_toArray, List.set_cons_zero, List.set_cons_succ, i64_w, i32_w]
                rfl
              refine pure_ (i := 7) (N := some 31) (v := ?_) (a' := ?_) #[true, true, true, true, true, true, true, true, true, false, false] rfl rfl (any_of HT_.out (by kernel_rfl)) (fun _ _ _ h => h) (Or.inl ⟨by rfl, ?_⟩) ?_ ?_
              rotate_left
              · intro w'
                go_simp
                with_reducible rfl
              rotate_left
              · simp only [Act.put, List.setIfInBounds_toArray, List.set_cons_zero, List.set_cons_succ, i64_w, i32_w]
                rfl
              exact norm_ (by simp only [putAll, Act.put, List.setIfInBounds_toArray, List.set_cons_zero, List.set_cons_succ]) (hCont (gb451) _ ⟨hHeld, (by (with_reducible repeat (first | refine bN ?_ _ | refine bD ?_ | refine bA ?_ _)); exact BK444.out), (by (with_reducible repeat (first | refine bN ?_ _ | refine bD ?_ | refine bA ?_ _)); exact BK445.out), (by (with_reducible repeat (first | refine bN ?_ _ | refine bD ?_ | refine bA ?_ _)); exact BK451.out), GW451.out, GE451.out, NB444_451.out, NB451_444.out, NB445_451.out, NB451_445.out, (by repeat (first | (with_reducible first | exact HB.out | apply pA | apply pN | apply p1 | refine pS ?_ GE444.out | refine pS ?_ GE445.out | refine pS ?_ GE451.out) | exact HB.out))⟩)
          · skip
            refine box_step ?hg (N := 7) ?hd (cs := #[.int .u64 0, .int .u64 0]) (t := 55) ?hr ?_; (case hd => rfl); (case hg => rfl); (case hr => first | (go_simp; done) | (go_simp; rfl))
            intro gb451 hg w19 hbox hb
            have n0_ := Aside0.mk (bB3 BK444.out hb)
            have n1_ := Aside0.mk (bB3 BK445.out hb)
            have n2_ := Aside0.mk (bS3 HB.out hb)
            have n3_ := Aside0.mk (hbox)
            have n4_ := Aside0.mk ((bZ3 hg HB.out))
            have n5_ := Aside0.mk ((bZ3 hg HB.out))
            have n6_ := Aside0.mk ((bL3 hg BK444.out))
            have n7_ := Aside0.mk ((bG3 hg BK444.out))
            have n8_ := Aside0.mk ((bL3 hg BK445.out))
            have n9_ := Aside0.mk ((bG3 hg BK445.out))
            clear BK444
            clear BK445
            clear HB
            have BK444 := n0_
            have BK445 := n1_
            have HB := n2_
            have BK451 := n3_
            have GW451 := n4_
            have GE451 := n5_
            have NB444_451 := n6_
            have NB451_444 := n7_
            have NB445_451 := n8_
            have NB451_445 := n9_
            clear n0_ n1_ n2_ n3_ n4_ n5_ n6_ n7_ n8_ n9_
            clear hb hbox hg
            refine hK.out _ _ ⟨(blk_cell BK444.out 0).trans rfl, (blk_cell BK444.out 1).trans rfl⟩ (fun hHeld => ?_)
            clear hK K
            refine norm_ (a' := ?_) ?_ ?_
            rotate_left
            · show Act.put _ (some 7) _ = _
              simp only [Act.put, List.setIfInBounds_toArray, List.set_cons_zero, List.set_cons_succ, i64_w, i32_w]
              rfl
            refine one_ (i := 3) (N := some 28) #[true, true, true, true, false, false, false, false, true, false, false] rfl rfl (one_of HT_.out (by kernel_rfl)) (by decide) (fun K hK => ?_)
            refine goes_ Try.func51 (by kernel_rfl) rfl #[.int .u64 x4_1, .int .u64 x4_1] (by rfl) rfl rfl (by (try simp only [List.map_toArray, List.map_cons, List.map_nil]); first | done | rfl | (simp only [List.length_drop, List.length_take]; rfl)) ?_
            with_reducible refine (twin_Mul.calls x4_1 x4_1 t446 t447 _ A16.out).mono ?_
            rintro e w20 ⟨rfl, hb⟩
            refine ⟨_, rfl, ?_⟩
            have n0_ := Aside0.mk (bB3 BK444.out hb)
            have n1_ := Aside0.mk (bB3 BK445.out hb)
            have n2_ := Aside0.mk (bB3 BK451.out hb)
            have n3_ := Aside0.mk (bS3 HB.out hb)
            clear BK444
            clear BK445
            clear BK451
            clear HB
            have BK444 := n0_
            have BK445 := n1_
            have BK451 := n2_
            have HB := n3_
            clear n0_ n1_ n2_ n3_
            (try clear hb)
            (try clear hb2)
            (try clear hk)
            (try clear hi)
            refine hK.out _ _ ⟨(blk_cell BK444.out 0).trans rfl, (blk_cell BK444.out 1).trans rfl⟩ (fun hHeld => ?_)
            clear hK K
            refine norm_ (a' := ?_) ?_ ?_
            rotate_left
            · show Act.put _ (some 28) _ = _
              simp only [Act.put, List.setIfInBounds_toArray, List.set_cons_zero, List.set_cons_succ, i64_w, i32_w]
              rfl
            refine one_ (i := 4) (N := some 29) #[true, true, true, true, true, false, false, false, true, false, false] rfl rfl (one_of HT_.out (by kernel_rfl)) (by decide) (fun K hK => ?_)
            refine goes_ Try.func71 (by kernel_rfl) rfl #[.agg #[.int .u64 a0_0, .int .u64 a0_1], .agg #[.int .u64 t446, .int .u64 t447]] (by rfl) rfl rfl (by (try simp only [List.map_toArray, List.map_cons, List.map_nil]); first | done | rfl | (simp only [List.length_drop, List.length_take]; rfl)) ?_
            with_reducible refine (twin_Sub.calls a0_0 a0_1 t446 t447 t448 t449 t450 _ A17.out).mono ?_
            rintro e w21 ⟨rfl, hb⟩
            refine ⟨_, rfl, ?_⟩
            have n0_ := Aside0.mk (bB3 BK444.out hb)
            have n1_ := Aside0.mk (bB3 BK445.out hb)
            have n2_ := Aside0.mk (bB3 BK451.out hb)
            have n3_ := Aside0.mk (bS3 HB.out hb)
            clear BK444
            clear BK445
            clear BK451
            clear HB
            have BK444 := n0_
            have BK445 := n1_
            have BK451 := n2_
            have HB := n3_
            clear n0_ n1_ n2_ n3_
            (try clear hb)
            (try clear hb2)
            (try clear hk)
            (try clear hi)
            refine hK.out _ _ ⟨(blk_cell BK444.out 0).trans rfl, (blk_cell BK444.out 1).trans rfl⟩ (fun hHeld => ?_)
            clear hK K
            refine norm_ (a' := ?_) ?_ ?_
            rotate_left
            · show Act.put _ (some 29) _ = _
              simp only [Act.put, List.setIfInBounds_toArray, List.set_cons_zero, List.set_cons_succ, i64_w, i32_w]
              rfl
            refine pure_ (i := 5) (N := some 24) (v := ?_) (a' := ?_) #[true, true, true, true, true, true, false, false, true, false, false] rfl rfl (any_of HT_.out (by kernel_rfl)) (fun _ _ _ h => h) (Or.inl ⟨by rfl, ?_⟩) ?_ ?_
            rotate_left
            · intro w'
              go_simp
              with_reducible rfl
            rotate_left
            · simp only [Act.put, List.setIfInBounds_toArray, List.set_cons_zero, List.set_cons_succ, i64_w, i32_w]
              rfl
            refine pure_ (i := 6) (N := some 30) (v := ?_) (a' := ?_) #[true, true, true, true, true, true, true, false, true, false, false] rfl rfl (any_of HT_.out (by kernel_rfl)) (fun _ _ _ h => h) (Or.inl ⟨by rfl, ?_⟩) ?_ ?_
            rotate_left
            · intro w'
              go_simp
              with_reducible rfl
            rotate_left
            · simp only [Act.put, List.setIfInBounds_toArray, List.set_cons_zero, List.set_cons_succ, i64_w, i32_w]
              rfl
            refine pure_ (i := 7) (N := some 31) (v := ?_) (a' := ?_) #[true, true, true, true, true, true, true, true, true, false, false] rfl rfl (any_of HT_.out (by kernel_rfl)) (fun _ _ _ h => h) (Or.inl ⟨by rfl, ?_⟩) ?_ ?_
            rotate_left
            · intro w'
              go_simp
              with_reducible rfl
            rotate_left
            · simp only [Act.put, List.setIfInBounds_toArray, List.set_cons_zero, List.set_cons_succ, i64_w, i32_w]
              rfl
            exact norm_ (by simp only [putAll, Act.put, List.setIfInBounds_toArray, List.set_cons_zero, List.set_cons_succ]) (hCont (gb451) _ ⟨hHeld, (by (with_reducible repeat (first | refine bN ?_ _ | refine bD ?_ | refine bA ?_ _)); exact BK444.out), (by (with_reducible repeat (first | refine bN ?_ _ | refine bD ?_ | refine bA ?_ _)); exact BK445.out), (by (with_reducible repeat (first | refine bN ?_ _ | refine bD ?_ | refine bA ?_ _)); exact BK451.out), GW451.out, GE451.out, NB444_451.out, NB451_444.out, NB445_451.out, NB451_445.out, (by repeat (first | (with_reducible first | exact HB.out | apply pA | apply pN | apply p1 | refine pS ?_ GE444.out | refine pS ?_ GE445.out | refine pS ?_ GE451.out) | exact HB.out))⟩)
        rintro gb451 w22 ⟨hS_, h0_, h1_, h2_, h3_, h4_, h5_, h6_, h7_, h8_, h9_⟩
        have n0_ : Aside0 (w22.heap[gb444]? = some (.cells #[.int .u64 a0_0, .int .u64 a0_1] 55 (0, 0))) := ⟨h0_⟩
        have n1_ : Aside0 (w22.heap[gb445]? = some (.cells #[.int .u64 0, .int .u64 0] 55 (0, 0))) := ⟨h1_⟩
        have n2_ : Aside0 (w22.heap[gb451]? = some (.cells #[.int .u64 0, .int .u64 0] 55 (0, 0))) := ⟨h2_⟩
        have n3_ : Aside0 (w.heap.size ≤ gb451) := ⟨h3_⟩
        have n4_ : Aside0 (w.heap.size ≤ gb451) := ⟨h4_⟩
        have n5_ : Aside0 (gb444 ≠ gb451) := ⟨h5_⟩
        have n6_ : Aside0 (gb451 ≠ gb444) := ⟨h6_⟩
        have n7_ : Aside0 (gb445 ≠ gb451) := ⟨h7_⟩
        have n8_ : Aside0 (gb451 ≠ gb445) := ⟨h8_⟩
        have n9_ : Aside0 (Below w.heap.size w w22) := ⟨h9_⟩
        clear BK444
        clear BK445
        clear HB
        clear h0_ h1_ h2_ h3_ h4_ h5_ h6_ h7_ h8_ h9_
        have BK444 := n0_
        have BK445 := n1_
        have BK451 := n2_
        have GW451 := n3_
        have GE451 := n4_
        have NB444_451 := n5_
        have NB451_444 := n6_
        have NB445_451 := n7_
        have NB451_445 := n8_
        have HB := n9_
        clear n0_ n1_ n2_ n3_ n4_ n5_ n6_ n7_ n8_ n9_
        have hHeld : w22.cell? ⟨gb444, 0, none⟩ = some (.int .u64 a0_0) ∧ w22.cell? ⟨gb444, 1, none⟩ = some (.int .u64 a0_1) := hS_
        refine norm_ (a' := ?_) ?_ ?_
        rotate_left
        · simp only [putAll, Act.put, List.setIfInBounds_toArray, List.set_cons_zero, List.set_cons_succ]
          rfl
        refine one_ (i := 9) (N := none) #[true, true, true, true, true, true, true, true, true, true, false] rfl rfl (one_of HT_.out (by kernel_rfl)) (by decide) (fun K hK => ?_)
        have hs23 : w22.cell? ⟨gb451, 0, none⟩ = some (.int .u64 0) := (blk_cell BK451.out 0).trans rfl
        have hfs23 := blk_frozen BK451.out 0
        have hns23_0 := NB444_451.out
        have hns23_1 := NB445_451.out
        have hms23_0 := NB451_444.out
        have hms23_1 := NB451_445.out
        have hs24 : w22.cell? ⟨gb451, 1, none⟩ = some (.int .u64 0) := (blk_cell BK451.out 1).trans rfl
        have hfs24 := blk_frozen BK451.out 1
        have hns24_0 := NB444_451.out
        have hns24_1 := NB445_451.out
        have hms24_0 := NB451_444.out
        have hms24_1 := NB451_445.out
        refine skip_ (w1 := ?_) (by rfl) rfl ?_ ?_
        rotate_left
        · go_simp
          rfl
        refine hK.out _ _ ⟨((cell_far (p := ⟨gb451, _, none⟩) NB444_451.out _).trans (((cell_far (p := ⟨gb451, _, none⟩) NB444_451.out _).trans (hHeld.1)))), ((cell_far (p := ⟨gb451, _, none⟩) NB444_451.out _).trans (((cell_far (p := ⟨gb451, _, none⟩) NB444_451.out _).trans (hHeld.2))))⟩ (fun hHeld => ?_)
        clear hK K
        refine pure_ (i := 10) (N := some 8) (v := ?_) (a' := ?_) #[true, true, true, true, true, true, true, true, true, true, true] rfl rfl (any_of HT_.out (by kernel_rfl)) (fun _ _ _ h => h) (Or.inl ⟨by rfl, ?_⟩) ?_ ?_
        rotate_left
        · intro w'
          go_simp
          with_reducible rfl
        rotate_left
        · simp only [Act.put, List.setIfInBounds_toArray, List.set_cons_zero, List.set_cons_succ, i64_w, i32_w]
          rfl
        refine done_ (done_of HT_.out (by kernel_rfl)) ?_
        try go_wp2
        have n0_ : Aside0 (((w22.setCell ⟨gb451, 0, none⟩ (.int .u64 t448)).setCell ⟨gb451, 1, none⟩ (.int .u64 t449)).heap[gb444]? = some (.cells #[.int .u64 a0_0, .int .u64 a0_1] 55 (0, 0))) := ⟨by (with_reducible repeat (first | refine bN ?_ _ | refine bD ?_ | refine bA ?_ _)); refine blk_far ?_ NB444_451.out _; (with_reducible repeat (first | refine bN ?_ _ | refine bD ?_ | refine bA ?_ _)); refine blk_far ?_ NB444_451.out _; (with_reducible repeat (first | refine bN ?_ _ | refine bD ?_ | refine bA ?_ _)); exact BK444.out⟩
        have n1_ : Aside0 (((w22.setCell ⟨gb451, 0, none⟩ (.int .u64 t448)).setCell ⟨gb451, 1, none⟩ (.int .u64 t449)).heap[gb445]? = some (.cells #[.int .u64 0, .int .u64 0] 55 (0, 0))) := ⟨by (with_reducible repeat (first | refine bN ?_ _ | refine bD ?_ | refine bA ?_ _)); refine blk_far ?_ NB445_451.out _; (with_reducible repeat (first | refine bN ?_ _ | refine bD ?_ | refine bA ?_ _)); refine blk_far ?_ NB445_451.out _; (with_reducible repeat (first | refine bN ?_ _ | refine bD ?_ | refine bA ?_ _)); exact BK445.out⟩
        have n2_ : Aside0 (((w22.setCell ⟨gb451, 0, none⟩ (.int .u64 t448)).setCell ⟨gb451, 1, none⟩ (.int .u64 t449)).heap[gb451]? = some (.cells #[.int .u64 t448, .int .u64 t449] 55 (0, 0))) := ⟨by (with_reducible repeat (first | refine bN ?_ _ | refine bD ?_ | refine bA ?_ _)); refine blk_put (cs := #[.int .u64 t448, .int .u64 0]) ?_ 1 _ rfl; (with_reducible repeat (first | refine bN ?_ _ | refine bD ?_ | refine bA ?_ _)); refine blk_put (cs := #[.int .u64 0, .int .u64 0]) ?_ 0 _ rfl; (with_reducible repeat (first | refine bN ?_ _ | refine bD ?_ | refine bA ?_ _)); exact BK451.out⟩
        have n3_ : Aside0 (Below w.heap.size w ((w22.setCell ⟨gb451, 0, none⟩ (.int .u64 t448)).setCell ⟨gb451, 1, none⟩ (.int .u64 t449))) := ⟨by repeat (first | (with_reducible first | exact HB.out | apply pA | apply pN | apply p1 | refine pS ?_ GE444.out | refine pS ?_ GE445.out | refine pS ?_ GE451.out) | exact HB.out)⟩
        (try clear BK444)
        (try clear BK445)
        (try clear BK451)
        (try clear HB)
        generalize ((w22.setCell ⟨gb451, 0, none⟩ (.int .u64 t448)).setCell ⟨gb451, 1, none⟩ (.int .u64 t449)) = w25 at n0_ n1_ n2_ n3_ ⊢
        have BK444 := n0_
        have BK445 := n1_
        have BK451 := n2_
        have HB := n3_
        clear n0_ n1_ n2_ n3_
        have n0_ := Aside0.mk (bD BK444.out)
        have n1_ := Aside0.mk (bD BK445.out)
        have n2_ := Aside0.mk (bD BK451.out)
        have n3_ := Aside0.mk (p1 HB.out)
        clear BK444
        clear BK445
        clear BK451
        clear HB
        have BK444 := n0_
        have BK445 := n1_
        have BK451 := n2_
        have HB := n3_
        clear n0_ n1_ n2_ n3_
        refine start_ (n := 4) (S := fun w' => w'.cell? ⟨gb451, 0, none⟩ = some (.int .u64 t448) ∧ w'.cell? ⟨gb451, 1, none⟩ = some (.int .u64 t449)) (ds := []) #[false, false, false, false] (by kernel_rfl) rfl rfl ⟨(blk_cell BK451.out 0).trans rfl, (blk_cell BK451.out 1).trans rfl⟩ (fun hHeld => ?_)
        generalize w25.drew = w26 at BK444 BK445 BK451 HB hHeld ⊢
        refine pure_ (i := 0) (N := some 32) (v := ?_) (a' := ?_) #[true, false, false, false] rfl rfl (by kernel_rfl) (fun _ _ _ h => h) (Or.inl ⟨by rfl, ?_⟩) ?_ ?_
        rotate_left
        · intro w'
          go_simp
          with_reducible rfl
        rotate_left
        · simp only [Act.put, List.setIfInBounds_toArray, List.set_cons_zero, List.set_cons_succ, i64_w, i32_w]
          rfl
        refine pure_ (i := 2) (N := some 2) (v := ?_) (a' := ?_) #[true, false, true, false] rfl rfl (by kernel_rfl) (fun _ _ _ h => h) (Or.inl ⟨by rfl, ?_⟩) ?_ ?_
        rotate_left
        · intro w'
          go_simp
          with_reducible rfl
        rotate_left
        · simp only [Act.put, List.setIfInBounds_toArray, List.set_cons_zero, List.set_cons_succ, i64_w, i32_w]
          rfl
        refine take_ (i := 1) (N := some 33) (v := ?_) (a' := ?_) #[true, true, true, false] rfl rfl (by kernel_rfl) (fun _ _ _ h => h) (Or.inl ⟨by rfl, ?_⟩) hHeld ?_ ?_
        rotate_left
        · rintro w' ⟨s0, s1⟩
          go_simp
          with_reducible rfl
        rotate_left
        · simp only [Act.put, List.setIfInBounds_toArray, List.set_cons_zero, List.set_cons_succ, i64_w, i32_w]
          rfl
        refine one_ (i := 3) (N := none) #[true, true, true, true] rfl rfl (by kernel_rfl) (by decide) (fun K hK => ?_)
        have hs27 : w26.cell? ⟨gb445, 0, none⟩ = some (.int .u64 0) := (blk_cell BK445.out 0).trans rfl
        have hfs27 := blk_frozen BK445.out 0
        have hns27_0 := NB444_445.out
        have hns27_2 := NB451_445.out
        have hms27_0 := NB445_444.out
        have hms27_2 := NB445_451.out
        have hs28 : w26.cell? ⟨gb445, 1, none⟩ = some (.int .u64 0) := (blk_cell BK445.out 1).trans rfl
        have hfs28 := blk_frozen BK445.out 1
        have hns28_0 := NB444_445.out
        have hns28_2 := NB451_445.out
        have hms28_0 := NB445_444.out
        have hms28_2 := NB445_451.out
        refine skip_ (w1 := ?_) (by rfl) rfl ?_ ?_
        rotate_left
        · go_simp
          rfl
        refine hK.out _ _ ⟨((cell_far (p := ⟨gb445, _, none⟩) NB451_445.out _).trans (((cell_far (p := ⟨gb445, _, none⟩) NB451_445.out _).trans (hHeld.1)))), ((cell_far (p := ⟨gb445, _, none⟩) NB451_445.out _).trans (((cell_far (p := ⟨gb445, _, none⟩) NB451_445.out _).trans (hHeld.2))))⟩ (fun hHeld => ?_)
        clear hK K
        refine done_ (by kernel_rfl) ?_
        try go_wp2
        refine bodyPost_ret (results_tc rfl _ _ gb445 55 #[.int .u64 t448, .int .u64 t449] (0, 0) _ rfl (by (with_reducible repeat (first | refine bN ?_ _ | refine bD ?_ | refine bA ?_ _)); refine blk_put (cs := #[.int .u64 t448, .int .u64 0]) ?_ 1 _ rfl; (with_reducible repeat (first | refine bN ?_ _ | refine bD ?_ | refine bA ?_ _)); refine blk_put (cs := #[.int .u64 0, .int .u64 0]) ?_ 0 _ rfl; (with_reducible repeat (first | refine bN ?_ _ | refine bD ?_ | refine bA ?_ _)); exact BK445.out) Try.underlying55 rfl (by kernel_rfl)) rfl ?_
        exact ⟨by first | rfl | (simp [errW_none, errW_some] <;> rfl) | (simp [*, errW_none, errW_some] <;> rfl), by repeat (first | (with_reducible first | exact HB.out | apply pA | apply pN | apply p1 | refine pS ?_ GE444.out | refine pS ?_ GE445.out | refine pS ?_ GE451.out) | exact HB.out)⟩

/-! ### part_Long: function 48 -/
def part_Long.f (k : Nat) (a0_0 : Int) (a0_1 : Int) (a1 : Int) : Option (Int × Int × Int × Option Int) := if a1 = 0 then (some (0, 0, 0, some 4)) else ((bits_Div64.f k (Int.tmod a0_0 a1) a0_1 a1).bind fun bt708 => (some (IntKind.u64.wrap (Int.tdiv a0_0 a1), bt708.1, bt708.2, none)))
theorem part_Long.mono : ∀ a0 a1 a2 k, LeO (part_Long.f k a0 a1 a2) (part_Long.f (k + 1) a0 a1 a2) := by
  intro a0 a1 a2 k
  unfold part_Long.f
  repeat' first
      | (with_reducible exact bits_Div64.mono _ _ _ _)
      | (with_reducible exact LeO.refl _)
      | (with_reducible exact LeO.none _)
      | (with_reducible refine LeO.ite ?_ ?_)
      | (with_reducible refine LeO.bind ?_ (fun _ => ?_))
      | exact bits_Div64.mono _ _ _ _
      | exact LeO.none _
      | refine LeO.ite ?_ ?_
      | refine LeO.bind ?_ (fun _ => ?_)
set_option maxHeartbeats 8000000 in
set_option maxRecDepth 100000 in
theorem part_Long.calls (k : Nat) (a0_0 : Int) (a0_1 : Int) (a1 : Int) (r1 : Int) (r2 : Int) (r3 : Int) (r4 : Option Int) (w : World) (h : part_Long.f k a0_0 a0_1 a1 = some (r1, r2, r3, r4)) :
    Calls Try.prog 48 #[.agg #[.int .u64 a0_0, .int .u64 a0_1], .int .u64 a1] w fun e w' => e = .returned (.tuple #[.agg #[.int .u64 r1, .int .u64 r2], .int .u64 r3, errW r4]) ∧ Below w.heap.size w w' := by
  have hu55 := Try.underlying55
  have hu25 := Try.underlying25
  have hu33 := Try.underlying33
  have HB := Aside0.mk (Below.refl w.heap.size w)
  have H : (if a1 = 0 then (some (0, 0, 0, some 4)) else ((bits_Div64.f k (Int.tmod a0_0 a1) a0_1 a1).bind fun bt708 => (some (IntKind.u64.wrap (Int.tdiv a0_0 a1), bt708.1, bt708.2, none)))) = some (r1, r2, r3, r4) := h
  clear h
  by_cases c3 : a1 = 0
  · rw [if_pos c3] at H
    have c3b0 : (a1 == 0) = true := beq_iff_eq.mpr c3
    have c3b1 : (a1 != 0) = false := bne_eq_false_iff_eq.mpr c3
    clear c3
    simp only [Option.some.injEq, Prod.mk.injEq] at H
    obtain ⟨rfl, rfl, rfl, rfl⟩ := H
    go_enter Try.func48, Try.ntmps48
    go_wp2_with (first | ((with_reducible refine gD (N := 2) rfl ?_); refine bE3 2 #[.int .u64 a0_0, .int .u64 a0_1] 55 ?hr ?_; (case hr => first | (go_simp; done) | (go_simp; rfl)); intro gb706 hg w4 hbox hb; have n0_ := Aside0.mk (bS3 HB.out hb); have n1_ := Aside0.mk (hbox); have n2_ := Aside0.mk ((bZ3 hg HB.out)); have n3_ := Aside0.mk ((bZ3 hg HB.out)); clear HB; have HB := n0_; have BK706 := n1_; have GW706 := n2_; have GE706 := n3_; clear n0_ n1_ n2_ n3_; clear hb hbox hg) | ((with_reducible refine gD (N := 4) rfl ?_); refine bE3 4 #[.int .u64 0, .int .u64 0] 55 ?hr ?_; (case hr => first | (go_simp; done) | (go_simp; rfl)); intro gb707 hg w5 hbox hb; have n0_ := Aside0.mk (bB3 BK706.out hb); have n1_ := Aside0.mk (bS3 HB.out hb); have n2_ := Aside0.mk (hbox); have n3_ := Aside0.mk ((bZ3 hg HB.out)); have n4_ := Aside0.mk ((bZ3 hg HB.out)); have n5_ := Aside0.mk ((bL3 hg BK706.out)); have n6_ := Aside0.mk ((bG3 hg BK706.out)); clear BK706; clear HB; have BK706 := n0_; have HB := n1_; have BK707 := n2_; have GW707 := n3_; have GE707 := n4_; have NB706_707 := n5_; have NB707_706 := n6_; clear n0_ n1_ n2_ n3_ n4_ n5_ n6_; clear hb hbox hg; have hnb6 := NB707_706.out; have hnc6 := NB706_707.out; have hcz7_0 : w5.cell? ⟨gb707, 0, none⟩ = some (.int .u64 0) := (blk_cell BK707.out 0).trans rfl; have hcz7_1 : w5.cell? ⟨gb707, 1, none⟩ = some (.int .u64 0) := (blk_cell BK707.out 1).trans rfl; have hfz7_0 := blk_frozen BK707.out 0; have hfz7_1 := blk_frozen BK707.out 1))
    repeat (go_quiet (first | ((with_reducible refine gD (N := 2) rfl ?_); refine bE3 2 #[.int .u64 a0_0, .int .u64 a0_1] 55 ?hr ?_; (case hr => first | (go_simp; done) | (go_simp; rfl)); intro gb706 hg w4 hbox hb; have n0_ := Aside0.mk (bS3 HB.out hb); have n1_ := Aside0.mk (hbox); have n2_ := Aside0.mk ((bZ3 hg HB.out)); have n3_ := Aside0.mk ((bZ3 hg HB.out)); clear HB; have HB := n0_; have BK706 := n1_; have GW706 := n2_; have GE706 := n3_; clear n0_ n1_ n2_ n3_; clear hb hbox hg) | ((with_reducible refine gD (N := 4) rfl ?_); refine bE3 4 #[.int .u64 0, .int .u64 0] 55 ?hr ?_; (case hr => first | (go_simp; done) | (go_simp; rfl)); intro gb707 hg w5 hbox hb; have n0_ := Aside0.mk (bB3 BK706.out hb); have n1_ := Aside0.mk (bS3 HB.out hb); have n2_ := Aside0.mk (hbox); have n3_ := Aside0.mk ((bZ3 hg HB.out)); have n4_ := Aside0.mk ((bZ3 hg HB.out)); have n5_ := Aside0.mk ((bL3 hg BK706.out)); have n6_ := Aside0.mk ((bG3 hg BK706.out)); clear BK706; clear HB; have BK706 := n0_; have HB := n1_; have BK707 := n2_; have GW707 := n3_; have GE707 := n4_; have NB706_707 := n5_; have NB707_706 := n6_; clear n0_ n1_ n2_ n3_ n4_ n5_ n6_; clear hb hbox hg; have hnb6 := NB707_706.out; have hnc6 := NB706_707.out; have hcz7_0 : w5.cell? ⟨gb707, 0, none⟩ = some (.int .u64 0) := (blk_cell BK707.out 0).trans rfl; have hcz7_1 : w5.cell? ⟨gb707, 1, none⟩ = some (.int .u64 0) := (blk_cell BK707.out 1).trans rfl; have hfz7_0 := blk_frozen BK707.out 0; have hfz7_1 := blk_frozen BK707.out 1)); try go_wp2_with (first | ((with_reducible refine gD (N := 2) rfl ?_); refine bE3 2 #[.int .u64 a0_0, .int .u64 a0_1] 55 ?hr ?_; (case hr => first | (go_simp; done) | (go_simp; rfl)); intro gb706 hg w4 hbox hb; have n0_ := Aside0.mk (bS3 HB.out hb); have n1_ := Aside0.mk (hbox); have n2_ := Aside0.mk ((bZ3 hg HB.out)); have n3_ := Aside0.mk ((bZ3 hg HB.out)); clear HB; have HB := n0_; have BK706 := n1_; have GW706 := n2_; have GE706 := n3_; clear n0_ n1_ n2_ n3_; clear hb hbox hg) | ((with_reducible refine gD (N := 4) rfl ?_); refine bE3 4 #[.int .u64 0, .int .u64 0] 55 ?hr ?_; (case hr => first | (go_simp; done) | (go_simp; rfl)); intro gb707 hg w5 hbox hb; have n0_ := Aside0.mk (bB3 BK706.out hb); have n1_ := Aside0.mk (bS3 HB.out hb); have n2_ := Aside0.mk (hbox); have n3_ := Aside0.mk ((bZ3 hg HB.out)); have n4_ := Aside0.mk ((bZ3 hg HB.out)); have n5_ := Aside0.mk ((bL3 hg BK706.out)); have n6_ := Aside0.mk ((bG3 hg BK706.out)); clear BK706; clear HB; have BK706 := n0_; have HB := n1_; have BK707 := n2_; have GW707 := n3_; have GE707 := n4_; have NB706_707 := n5_; have NB707_706 := n6_; clear n0_ n1_ n2_ n3_ n4_ n5_ n6_; clear hb hbox hg; have hnb6 := NB707_706.out; have hnc6 := NB706_707.out; have hcz7_0 : w5.cell? ⟨gb707, 0, none⟩ = some (.int .u64 0) := (blk_cell BK707.out 0).trans rfl; have hcz7_1 : w5.cell? ⟨gb707, 1, none⟩ = some (.int .u64 0) := (blk_cell BK707.out 1).trans rfl; have hfz7_0 := blk_frozen BK707.out 0; have hfz7_1 := blk_frozen BK707.out 1)))
    refine bodyPost_ret (results_ctt rfl _ _ gb707 55 #[.int .u64 0, .int .u64 0] (0, 0) _ rfl (by (with_reducible repeat (first | refine bN ?_ _ | refine bD ?_ | refine bA ?_ _)); refine blk_put (cs := #[.int .u64 0, .int .u64 0]) ?_ 1 _ rfl; (with_reducible repeat (first | refine bN ?_ _ | refine bD ?_ | refine bA ?_ _)); refine blk_put (cs := #[.int .u64 0, .int .u64 0]) ?_ 0 _ rfl; (with_reducible repeat (first | refine bN ?_ _ | refine bD ?_ | refine bA ?_ _)); exact BK707.out) Try.underlying55 rfl (by kernel_rfl)) rfl ?_
    exact ⟨by first | rfl | (simp [errW_none, errW_some] <;> rfl) | (simp [*, errW_none, errW_some] <;> rfl), by repeat (first | (with_reducible first | exact HB.out | apply pA | apply pN | apply p1 | refine pS ?_ GE706.out | refine pS ?_ GE707.out) | exact HB.out)⟩
  · rw [if_neg c3] at H
    have c3b0 : (a1 == 0) = false := beq_eq_false_iff_ne.mpr c3
    have c3b1 : (a1 != 0) = true := bne_iff_ne.mpr c3
    replace H := Option.bind_eq_some_iff.mp H
    obtain ⟨⟨t708, t709⟩, A80, H⟩ := H
    replace H : (some (IntKind.u64.wrap (Int.tdiv a0_0 a1), t708, t709, none)) = some (r1, r2, r3, r4) := H
    have A8 := Aside0.mk A80
    clear A80
    simp only [Option.some.injEq, Prod.mk.injEq] at H
    obtain ⟨rfl, rfl, rfl, rfl⟩ := H
    go_enter Try.func48, Try.ntmps48
    go_wp2_with (first | ((with_reducible refine gD (N := 2) rfl ?_); refine bE3 2 #[.int .u64 a0_0, .int .u64 a0_1] 55 ?hr ?_; (case hr => first | (go_simp; done) | (go_simp; rfl)); intro gb706 hg w9 hbox hb; have n0_ := Aside0.mk (bS3 HB.out hb); have n1_ := Aside0.mk (hbox); have n2_ := Aside0.mk ((bZ3 hg HB.out)); have n3_ := Aside0.mk ((bZ3 hg HB.out)); clear HB; have HB := n0_; have BK706 := n1_; have GW706 := n2_; have GE706 := n3_; clear n0_ n1_ n2_ n3_; clear hb hbox hg) | ((with_reducible refine gD (N := 4) rfl ?_); refine bE3 4 #[.int .u64 0, .int .u64 0] 55 ?hr ?_; (case hr => first | (go_simp; done) | (go_simp; rfl)); intro gb707 hg w10 hbox hb; have n0_ := Aside0.mk (bB3 BK706.out hb); have n1_ := Aside0.mk (bS3 HB.out hb); have n2_ := Aside0.mk (hbox); have n3_ := Aside0.mk ((bZ3 hg HB.out)); have n4_ := Aside0.mk ((bZ3 hg HB.out)); have n5_ := Aside0.mk ((bL3 hg BK706.out)); have n6_ := Aside0.mk ((bG3 hg BK706.out)); clear BK706; clear HB; have BK706 := n0_; have HB := n1_; have BK707 := n2_; have GW707 := n3_; have GE707 := n4_; have NB706_707 := n5_; have NB707_706 := n6_; clear n0_ n1_ n2_ n3_ n4_ n5_ n6_; clear hb hbox hg; have hnb11 := NB706_707.out; have hnc11 := NB707_706.out; have hcz12_0 : w10.cell? ⟨gb706, 0, none⟩ = some (.int .u64 a0_0) := (blk_cell BK706.out 0).trans rfl; have hcz12_1 : w10.cell? ⟨gb706, 1, none⟩ = some (.int .u64 a0_1) := (blk_cell BK706.out 1).trans rfl; have hfz12_0 := blk_frozen BK706.out 0; have hfz12_1 := blk_frozen BK706.out 1) | (go_at_call 70; (with_reducible refine (bits_Div64.calls k (Int.tmod a0_0 a1) a0_1 a1 t708 t709 _ A8.out).mono ?_); rintro e w' ⟨rfl, ⟨nd, rfl⟩⟩; (try first | exact ⟨rfl, _, World.drewN_drewN _ _ _⟩ | exact ⟨rfl, _, Eq.trans (World.drewN_drewN _ _ _) (congrArg (World.drewN _) (Nat.add_assoc _ _ _))⟩); have hcz13_0 : w10.cell? ⟨gb707, 0, none⟩ = some (.int .u64 0) := (blk_cell BK707.out 0).trans rfl; have hcz13_1 : w10.cell? ⟨gb707, 1, none⟩ = some (.int .u64 0) := (blk_cell BK707.out 1).trans rfl; have hfz13_0 := blk_frozen BK707.out 0; have hfz13_1 := blk_frozen BK707.out 1))
    repeat (go_quiet (first | ((with_reducible refine gD (N := 2) rfl ?_); refine bE3 2 #[.int .u64 a0_0, .int .u64 a0_1] 55 ?hr ?_; (case hr => first | (go_simp; done) | (go_simp; rfl)); intro gb706 hg w9 hbox hb; have n0_ := Aside0.mk (bS3 HB.out hb); have n1_ := Aside0.mk (hbox); have n2_ := Aside0.mk ((bZ3 hg HB.out)); have n3_ := Aside0.mk ((bZ3 hg HB.out)); clear HB; have HB := n0_; have BK706 := n1_; have GW706 := n2_; have GE706 := n3_; clear n0_ n1_ n2_ n3_; clear hb hbox hg) | ((with_reducible refine gD (N := 4) rfl ?_); refine bE3 4 #[.int .u64 0, .int .u64 0] 55 ?hr ?_; (case hr => first | (go_simp; done) | (go_simp; rfl)); intro gb707 hg w10 hbox hb; have n0_ := Aside0.mk (bB3 BK706.out hb); have n1_ := Aside0.mk (bS3 HB.out hb); have n2_ := Aside0.mk (hbox); have n3_ := Aside0.mk ((bZ3 hg HB.out)); have n4_ := Aside0.mk ((bZ3 hg HB.out)); have n5_ := Aside0.mk ((bL3 hg BK706.out)); have n6_ := Aside0.mk ((bG3 hg BK706.out)); clear BK706; clear HB; have BK706 := n0_; have HB := n1_; have BK707 := n2_; have GW707 := n3_; have GE707 := n4_; have NB706_707 := n5_; have NB707_706 := n6_; clear n0_ n1_ n2_ n3_ n4_ n5_ n6_; clear hb hbox hg; have hnb11 := NB706_707.out; have hnc11 := NB707_706.out; have hcz12_0 : w10.cell? ⟨gb706, 0, none⟩ = some (.int .u64 a0_0) := (blk_cell BK706.out 0).trans rfl; have hcz12_1 : w10.cell? ⟨gb706, 1, none⟩ = some (.int .u64 a0_1) := (blk_cell BK706.out 1).trans rfl; have hfz12_0 := blk_frozen BK706.out 0; have hfz12_1 := blk_frozen BK706.out 1) | (go_at_call 70; (with_reducible refine (bits_Div64.calls k (Int.tmod a0_0 a1) a0_1 a1 t708 t709 _ A8.out).mono ?_); rintro e w' ⟨rfl, ⟨nd, rfl⟩⟩; (try first | exact ⟨rfl, _, World.drewN_drewN _ _ _⟩ | exact ⟨rfl, _, Eq.trans (World.drewN_drewN _ _ _) (congrArg (World.drewN _) (Nat.add_assoc _ _ _))⟩); have hcz13_0 : w10.cell? ⟨gb707, 0, none⟩ = some (.int .u64 0) := (blk_cell BK707.out 0).trans rfl; have hcz13_1 : w10.cell? ⟨gb707, 1, none⟩ = some (.int .u64 0) := (blk_cell BK707.out 1).trans rfl; have hfz13_0 := blk_frozen BK707.out 0; have hfz13_1 := blk_frozen BK707.out 1)); try go_wp2_with (first | ((with_reducible refine gD (N := 2) rfl ?_); refine bE3 2 #[.int .u64 a0_0, .int .u64 a0_1] 55 ?hr ?_; (case hr => first | (go_simp; done) | (go_simp; rfl)); intro gb706 hg w9 hbox hb; have n0_ := Aside0.mk (bS3 HB.out hb); have n1_ := Aside0.mk (hbox); have n2_ := Aside0.mk ((bZ3 hg HB.out)); have n3_ := Aside0.mk ((bZ3 hg HB.out)); clear HB; have HB := n0_; have BK706 := n1_; have GW706 := n2_; have GE706 := n3_; clear n0_ n1_ n2_ n3_; clear hb hbox hg) | ((with_reducible refine gD (N := 4) rfl ?_); refine bE3 4 #[.int .u64 0, .int .u64 0] 55 ?hr ?_; (case hr => first | (go_simp; done) | (go_simp; rfl)); intro gb707 hg w10 hbox hb; have n0_ := Aside0.mk (bB3 BK706.out hb); have n1_ := Aside0.mk (bS3 HB.out hb); have n2_ := Aside0.mk (hbox); have n3_ := Aside0.mk ((bZ3 hg HB.out)); have n4_ := Aside0.mk ((bZ3 hg HB.out)); have n5_ := Aside0.mk ((bL3 hg BK706.out)); have n6_ := Aside0.mk ((bG3 hg BK706.out)); clear BK706; clear HB; have BK706 := n0_; have HB := n1_; have BK707 := n2_; have GW707 := n3_; have GE707 := n4_; have NB706_707 := n5_; have NB707_706 := n6_; clear n0_ n1_ n2_ n3_ n4_ n5_ n6_; clear hb hbox hg; have hnb11 := NB706_707.out; have hnc11 := NB707_706.out; have hcz12_0 : w10.cell? ⟨gb706, 0, none⟩ = some (.int .u64 a0_0) := (blk_cell BK706.out 0).trans rfl; have hcz12_1 : w10.cell? ⟨gb706, 1, none⟩ = some (.int .u64 a0_1) := (blk_cell BK706.out 1).trans rfl; have hfz12_0 := blk_frozen BK706.out 0; have hfz12_1 := blk_frozen BK706.out 1) | (go_at_call 70; (with_reducible refine (bits_Div64.calls k (Int.tmod a0_0 a1) a0_1 a1 t708 t709 _ A8.out).mono ?_); rintro e w' ⟨rfl, ⟨nd, rfl⟩⟩; (try first | exact ⟨rfl, _, World.drewN_drewN _ _ _⟩ | exact ⟨rfl, _, Eq.trans (World.drewN_drewN _ _ _) (congrArg (World.drewN _) (Nat.add_assoc _ _ _))⟩); have hcz13_0 : w10.cell? ⟨gb707, 0, none⟩ = some (.int .u64 0) := (blk_cell BK707.out 0).trans rfl; have hcz13_1 : w10.cell? ⟨gb707, 1, none⟩ = some (.int .u64 0) := (blk_cell BK707.out 1).trans rfl; have hfz13_0 := blk_frozen BK707.out 0; have hfz13_1 := blk_frozen BK707.out 1)))
    refine bodyPost_ret (results_ctt rfl _ _ gb707 55 #[.int .u64 (IntKind.u64.wrap (Int.tdiv a0_0 a1)), .int .u64 t708] (0, 0) _ rfl (by (with_reducible repeat (first | refine bN ?_ _ | refine bD ?_ | refine bA ?_ _)); refine blk_put (cs := #[.int .u64 (IntKind.u64.wrap (Int.tdiv a0_0 a1)), .int .u64 0]) ?_ 1 _ rfl; (with_reducible repeat (first | refine bN ?_ _ | refine bD ?_ | refine bA ?_ _)); refine blk_put (cs := #[.int .u64 0, .int .u64 0]) ?_ 0 _ rfl; (with_reducible repeat (first | refine bN ?_ _ | refine bD ?_ | refine bA ?_ _)); exact BK707.out) Try.underlying55 rfl (by kernel_rfl)) rfl ?_
    exact ⟨by first | rfl | (simp [errW_none, errW_some] <;> rfl) | (simp [*, errW_none, errW_some] <;> rfl), by repeat (first | (with_reducible first | exact HB.out | apply pA | apply pN | apply p1 | refine pS ?_ GE706.out | refine pS ?_ GE707.out) | exact HB.out)⟩

/-! ### part_times: function 86 -/
def part_times.f (a0_0 : Int) (a0_1 : Int) (a1 : Int) : Option (Int × Int) := (twin_Mul.f a0_1 a1).bind fun bt776 => (some (IntKind.u64.wrap (bt776.1 + (IntKind.u64.wrap (a0_0 * a1))), bt776.2))
set_option maxHeartbeats 8000000 in
set_option maxRecDepth 100000 in
theorem part_times.calls (a0_0 : Int) (a0_1 : Int) (a1 : Int) (r1 : Int) (r2 : Int) (w : World) (h : part_times.f a0_0 a0_1 a1 = some (r1, r2)) :
    Calls Try.prog 86 #[.agg #[.int .u64 a0_0, .int .u64 a0_1], .int .u64 a1] w fun e w' => e = .returned (.agg #[.int .u64 r1, .int .u64 r2]) ∧ Below w.heap.size w w' := by
  have hu55 := Try.underlying55
  have HB := Aside0.mk (Below.refl w.heap.size w)
  have H : ((twin_Mul.f a0_1 a1).bind fun bt776 => (some (IntKind.u64.wrap (bt776.1 + (IntKind.u64.wrap (a0_0 * a1))), bt776.2))) = some (r1, r2) := h
  clear h
  replace H := Option.bind_eq_some_iff.mp H
  obtain ⟨⟨t776, t777⟩, A30, H⟩ := H
  replace H : (some (IntKind.u64.wrap (t776 + (IntKind.u64.wrap (a0_0 * a1))), t777)) = some (r1, r2) := H
  have A3 := Aside0.mk A30
  clear A30
  simp only [Option.some.injEq, Prod.mk.injEq] at H
  obtain ⟨rfl, rfl⟩ := H
  go_enter Try.func86, Try.ntmps86
  go_wp2_with (first | ((with_reducible refine gD (N := 2) rfl ?_); refine bE3 2 #[.int .u64 a0_0, .int .u64 a0_1] 55 ?hr ?_; (case hr => first | (go_simp; done) | (go_simp; rfl)); intro gb774 hg w4 hbox hb; have n0_ := Aside0.mk (bS3 HB.out hb); have n1_ := Aside0.mk (hbox); have n2_ := Aside0.mk ((bZ3 hg HB.out)); have n3_ := Aside0.mk ((bZ3 hg HB.out)); clear HB; have HB := n0_; have BK774 := n1_; have GW774 := n2_; have GE774 := n3_; clear n0_ n1_ n2_ n3_; clear hb hbox hg) | ((with_reducible refine gD (N := 4) rfl ?_); refine bE3 4 #[.int .u64 0, .int .u64 0] 55 ?hr ?_; (case hr => first | (go_simp; done) | (go_simp; rfl)); intro gb775 hg w5 hbox hb; have n0_ := Aside0.mk (bB3 BK774.out hb); have n1_ := Aside0.mk (bS3 HB.out hb); have n2_ := Aside0.mk (hbox); have n3_ := Aside0.mk ((bZ3 hg HB.out)); have n4_ := Aside0.mk ((bZ3 hg HB.out)); have n5_ := Aside0.mk ((bL3 hg BK774.out)); have n6_ := Aside0.mk ((bG3 hg BK774.out)); clear BK774; clear HB; have BK774 := n0_; have HB := n1_; have BK775 := n2_; have GW775 := n3_; have GE775 := n4_; have NB774_775 := n5_; have NB775_774 := n6_; clear n0_ n1_ n2_ n3_ n4_ n5_ n6_; clear hb hbox hg; have hnb6 := NB774_775.out; have hnc6 := NB775_774.out; have hcz7_0 : w5.cell? ⟨gb774, 0, none⟩ = some (.int .u64 a0_0) := (blk_cell BK774.out 0).trans rfl; have hcz7_1 : w5.cell? ⟨gb774, 1, none⟩ = some (.int .u64 a0_1) := (blk_cell BK774.out 1).trans rfl; have hfz7_0 := blk_frozen BK774.out 0; have hfz7_1 := blk_frozen BK774.out 1) | ((with_reducible refine gC (f := 51) rfl ?_); refine goesY_ (some 9) Try.func51 #[.int .u64 a0_1, .int .u64 a1] ?_; (with_reducible refine (twin_Mul.calls a0_1 a1 t776 t777 _ A3.out).mono ?_); rintro e w8 ⟨rfl, hb⟩; refine ⟨_, rfl, ?_⟩; have n0_ := Aside0.mk (bB3 BK774.out hb); have n1_ := Aside0.mk (bB3 BK775.out hb); have n2_ := Aside0.mk (bS3 HB.out hb); clear BK774; clear BK775; clear HB; have BK774 := n0_; have BK775 := n1_; have HB := n2_; clear n0_ n1_ n2_; (try clear hb); (try clear hb2); (try clear hk); (try clear hi)) | ((with_reducible refine gD (N := 5) rfl ?_); refine bE3 5 #[.int .u64 0, .int .u64 0] 55 ?hr ?_; (case hr => first | (go_simp; done) | (go_simp; rfl)); intro gb778 hg w9 hbox hb; have n0_ := Aside0.mk (bB3 BK774.out hb); have n1_ := Aside0.mk (bB3 BK775.out hb); have n2_ := Aside0.mk (bS3 HB.out hb); have n3_ := Aside0.mk (hbox); have n4_ := Aside0.mk ((bZ3 hg HB.out)); have n5_ := Aside0.mk ((bZ3 hg HB.out)); have n6_ := Aside0.mk ((bL3 hg BK774.out)); have n7_ := Aside0.mk ((bG3 hg BK774.out)); have n8_ := Aside0.mk ((bL3 hg BK775.out)); have n9_ := Aside0.mk ((bG3 hg BK775.out)); clear BK774; clear BK775; clear HB; have BK774 := n0_; have BK775 := n1_; have HB := n2_; have BK778 := n3_; have GW778 := n4_; have GE778 := n5_; have NB774_778 := n6_; have NB778_774 := n7_; have NB775_778 := n8_; have NB778_775 := n9_; clear n0_ n1_ n2_ n3_ n4_ n5_ n6_ n7_ n8_ n9_; clear hb hbox hg; have hnb10 := NB778_774.out; have hnc10 := NB774_778.out; have hnb11 := NB778_775.out; have hnc11 := NB775_778.out; have hcz12_0 : w9.cell? ⟨gb778, 0, none⟩ = some (.int .u64 0) := (blk_cell BK778.out 0).trans rfl; have hcz12_1 : w9.cell? ⟨gb778, 1, none⟩ = some (.int .u64 0) := (blk_cell BK778.out 1).trans rfl; have hfz12_0 := blk_frozen BK778.out 0; have hfz12_1 := blk_frozen BK778.out 1; have hcz13_0 : w9.cell? ⟨gb774, 0, none⟩ = some (.int .u64 a0_0) := (blk_cell BK774.out 0).trans rfl; have hcz13_1 : w9.cell? ⟨gb774, 1, none⟩ = some (.int .u64 a0_1) := (blk_cell BK774.out 1).trans rfl; have hfz13_0 := blk_frozen BK774.out 0; have hfz13_1 := blk_frozen BK774.out 1; have hcz14_0 : w9.cell? ⟨gb775, 0, none⟩ = some (.int .u64 0) := (blk_cell BK775.out 0).trans rfl; have hcz14_1 : w9.cell? ⟨gb775, 1, none⟩ = some (.int .u64 0) := (blk_cell BK775.out 1).trans rfl; have hfz14_0 := blk_frozen BK775.out 0; have hfz14_1 := blk_frozen BK775.out 1))
  refine bodyPost_ret (results_cell_row rfl _ _ gb775 55 #[.int .u64 (IntKind.u64.wrap (t776 + (IntKind.u64.wrap (a0_0 * a1)))), .int .u64 t777] (0, 0) _ rfl (by (with_reducible repeat (first | refine bN ?_ _ | refine bD ?_ | refine bA ?_ _)); refine blk_put (cs := #[.int .u64 (IntKind.u64.wrap (t776 + (IntKind.u64.wrap (a0_0 * a1)))), .int .u64 0]) ?_ 1 _ rfl; (with_reducible repeat (first | refine bN ?_ _ | refine bD ?_ | refine bA ?_ _)); refine blk_put (cs := #[.int .u64 0, .int .u64 0]) ?_ 0 _ rfl; (with_reducible repeat (first | refine bN ?_ _ | refine bD ?_ | refine bA ?_ _)); refine blk_far ?_ NB775_778.out _; (with_reducible repeat (first | refine bN ?_ _ | refine bD ?_ | refine bA ?_ _)); refine blk_far ?_ NB775_778.out _; (with_reducible repeat (first | refine bN ?_ _ | refine bD ?_ | refine bA ?_ _)); refine blk_far ?_ NB775_778.out _; (with_reducible repeat (first | refine bN ?_ _ | refine bD ?_ | refine bA ?_ _)); exact BK775.out) Try.underlying55 rfl (by kernel_rfl)) rfl ?_
  exact ⟨by first | rfl | (simp [errW_none, errW_some] <;> rfl) | (simp [*, errW_none, errW_some] <;> rfl), by repeat (first | (with_reducible first | exact HB.out | apply pA | apply pN | apply p1 | refine pS ?_ GE774.out | refine pS ?_ GE775.out | refine pS ?_ GE778.out) | exact HB.out)⟩

/-! ### part_Wide: function 54 -/
def part_Wide.j0 : Nat → Int → Int → Int → Int → Int → Option (Int × Int × Int × Int × Option Int)
  | 0, _, _, _, _, _ => none
  | k + 1, x17, x780000, x780001, x781000, x781001 => (part_times.f x781000 x781001 x17).bind fun bt801 => ((twin_Sub.f x780000 x780001 bt801.1 bt801.2).bind fun bt804 => ((twin_Cmp.f bt804.1 bt804.2.1 x781000 x781001).bind fun t808 => (if t808 ≥ 0 then ((twin_Sub.f bt804.1 bt804.2.1 x781000 x781001).bind fun bt809 => (some (0, IntKind.u64.wrap (x17 + 1), bt809.1, bt809.2.1, none))) else (some (0, x17, bt804.1, bt804.2.1, none)))))
def part_Wide.f (k : Nat) (a0_0 : Int) (a0_1 : Int) (a1_0 : Int) (a1_1 : Int) : Option (Int × Int × Int × Int × Option Int) := if a1_0 = 0 then ((part_Long.f k a0_0 a0_1 a1_1).bind fun bt783 => (some (bt783.1, bt783.2.1, 0, bt783.2.2.1, bt783.2.2.2))) else ((bits_LeadingZeros64.f k a1_0).bind fun t788 => ((twin_Shl.f k a1_0 a1_1 t788).bind fun bt789 => ((twin_Shr.f a0_0 a0_1 1).bind fun bt794 => ((bits_Div64.f k bt794.1 bt794.2.1 bt789.1).bind fun bt799 => (if 0 ≤ (wrap64 (63 - t788)) then (if (shr .u64 bt799.1 (wrap64 (63 - t788))) > 0 then (part_Wide.j0 k (IntKind.u64.wrap ((shr .u64 bt799.1 (wrap64 (63 - t788))) - 1)) a0_0 a0_1 a1_0 a1_1) else (part_Wide.j0 k (shr .u64 bt799.1 (wrap64 (63 - t788))) a0_0 a0_1 a1_0 a1_1)) else (none))))))
theorem part_Wide.mono_l : ∀ k, (∀ y0 y1 y2 y3 y4, LeO (part_Wide.j0 k y0 y1 y2 y3 y4) (part_Wide.j0 (k + 1) y0 y1 y2 y3 y4))
  | 0 => fun _ _ _ _ _ r h => by simp [part_Wide.j0] at h
  | k + 1 => by
    have ih0 := part_Wide.mono_l k
    · intro y0 y1 y2 y3 y4
      unfold part_Wide.j0
      repeat' first
      | (with_reducible exact ih0 _ _ _ _ _)
      | (with_reducible exact bits_Div64.mono _ _ _ _)
      | (with_reducible exact bits_LeadingZeros64.mono _ _)
      | (with_reducible exact part_Long.mono _ _ _ _)
      | (with_reducible exact twin_Shl.mono _ _ _ _)
      | (with_reducible exact LeO.refl _)
      | (with_reducible exact LeO.none _)
      | (with_reducible refine LeO.ite ?_ ?_)
      | (with_reducible refine LeO.bind ?_ (fun _ => ?_))
      | exact ih0 _ _ _ _ _
      | exact bits_Div64.mono _ _ _ _
      | exact bits_LeadingZeros64.mono _ _
      | exact part_Long.mono _ _ _ _
      | exact twin_Shl.mono _ _ _ _
      | exact LeO.none _
      | refine LeO.ite ?_ ?_
      | refine LeO.bind ?_ (fun _ => ?_)
theorem part_Wide.mono : ∀ a0 a1 a2 a3 k, LeO (part_Wide.f k a0 a1 a2 a3) (part_Wide.f (k + 1) a0 a1 a2 a3) := by
  intro a0 a1 a2 a3 k
  have ih0 := part_Wide.mono_l k
  unfold part_Wide.f
  repeat' first
      | (with_reducible exact ih0 _ _ _ _ _)
      | (with_reducible exact bits_Div64.mono _ _ _ _)
      | (with_reducible exact bits_LeadingZeros64.mono _ _)
      | (with_reducible exact part_Long.mono _ _ _ _)
      | (with_reducible exact twin_Shl.mono _ _ _ _)
      | (with_reducible exact LeO.refl _)
      | (with_reducible exact LeO.none _)
      | (with_reducible refine LeO.ite ?_ ?_)
      | (with_reducible refine LeO.bind ?_ (fun _ => ?_))
      | exact ih0 _ _ _ _ _
      | exact bits_Div64.mono _ _ _ _
      | exact bits_LeadingZeros64.mono _ _
      | exact part_Long.mono _ _ _ _
      | exact twin_Shl.mono _ _ _ _
      | exact LeO.none _
      | refine LeO.ite ?_ ?_
      | refine LeO.bind ?_ (fun _ => ?_)
set_option maxHeartbeats 8000000 in
set_option maxRecDepth 100000 in
theorem part_Wide.calls (k : Nat) (a0_0 : Int) (a0_1 : Int) (a1_0 : Int) (a1_1 : Int) (r1 : Int) (r2 : Int) (r3 : Int) (r4 : Int) (r5 : Option Int) (w : World) (h : part_Wide.f k a0_0 a0_1 a1_0 a1_1 = some (r1, r2, r3, r4, r5)) :
    Calls Try.prog 54 #[.agg #[.int .u64 a0_0, .int .u64 a0_1], .agg #[.int .u64 a1_0, .int .u64 a1_1]] w fun e w' => e = .returned (.tuple #[.agg #[.int .u64 r1, .int .u64 r2], .agg #[.int .u64 r3, .int .u64 r4], errW r5]) ∧ Below w.heap.size w w' := by
  have hu55 := Try.underlying55
  have HB := Aside0.mk (Below.refl w.heap.size w)
  have H : (if a1_0 = 0 then ((part_Long.f k a0_0 a0_1 a1_1).bind fun bt783 => (some (bt783.1, bt783.2.1, 0, bt783.2.2.1, bt783.2.2.2))) else ((bits_LeadingZeros64.f k a1_0).bind fun t788 => ((twin_Shl.f k a1_0 a1_1 t788).bind fun bt789 => ((twin_Shr.f a0_0 a0_1 1).bind fun bt794 => ((bits_Div64.f k bt794.1 bt794.2.1 bt789.1).bind fun bt799 => (if 0 ≤ (wrap64 (63 - t788)) then (if (shr .u64 bt799.1 (wrap64 (63 - t788))) > 0 then (part_Wide.j0 k (IntKind.u64.wrap ((shr .u64 bt799.1 (wrap64 (63 - t788))) - 1)) a0_0 a0_1 a1_0 a1_1) else (part_Wide.j0 k (shr .u64 bt799.1 (wrap64 (63 - t788))) a0_0 a0_1 a1_0 a1_1)) else (none))))))) = some (r1, r2, r3, r4, r5) := h
  clear h
  by_cases c3 : a1_0 = 0
  · rw [if_pos c3] at H
    have c3b0 : (a1_0 == 0) = true := beq_iff_eq.mpr c3
    have c3b1 : (a1_0 != 0) = false := bne_eq_false_iff_eq.mpr c3
    clear c3
    replace H := Option.bind_eq_some_iff.mp H
    obtain ⟨⟨t783, t784, t785, t786⟩, A40, H⟩ := H
    replace H : (some (t783, t784, 0, t785, t786)) = some (r1, r2, r3, r4, r5) := H
    have A4 := Aside0.mk A40
    clear A40
    simp only [Option.some.injEq, Prod.mk.injEq] at H
    obtain ⟨rfl, rfl, rfl, rfl, rfl⟩ := H
    go_enter Try.func54, Try.ntmps54
    go_wp2_with (first | ((with_reducible refine gD (N := 2) rfl ?_); refine bE3 2 #[.int .u64 a0_0, .int .u64 a0_1] 55 ?hr ?_; (case hr => first | (go_simp; done) | (go_simp; rfl)); intro gb779 hg w5 hbox hb; have n0_ := Aside0.mk (bS3 HB.out hb); have n1_ := Aside0.mk (hbox); have n2_ := Aside0.mk ((bZ3 hg HB.out)); have n3_ := Aside0.mk ((bZ3 hg HB.out)); clear HB; have HB := n0_; have BK779 := n1_; have GW779 := n2_; have GE779 := n3_; clear n0_ n1_ n2_ n3_; clear hb hbox hg) | ((with_reducible refine gD (N := 3) rfl ?_); refine bE3 3 #[.int .u64 a1_0, .int .u64 a1_1] 55 ?hr ?_; (case hr => first | (go_simp; done) | (go_simp; rfl)); intro gb780 hg w6 hbox hb; have n0_ := Aside0.mk (bB3 BK779.out hb); have n1_ := Aside0.mk (bS3 HB.out hb); have n2_ := Aside0.mk (hbox); have n3_ := Aside0.mk ((bZ3 hg HB.out)); have n4_ := Aside0.mk ((bZ3 hg HB.out)); have n5_ := Aside0.mk ((bL3 hg BK779.out)); have n6_ := Aside0.mk ((bG3 hg BK779.out)); clear BK779; clear HB; have BK779 := n0_; have HB := n1_; have BK780 := n2_; have GW780 := n3_; have GE780 := n4_; have NB779_780 := n5_; have NB780_779 := n6_; clear n0_ n1_ n2_ n3_ n4_ n5_ n6_; clear hb hbox hg) | ((with_reducible refine gD (N := 4) rfl ?_); refine bE3 4 #[.int .u64 0, .int .u64 0] 55 ?hr ?_; (case hr => first | (go_simp; done) | (go_simp; rfl)); intro gb781 hg w7 hbox hb; have n0_ := Aside0.mk (bB3 BK779.out hb); have n1_ := Aside0.mk (bB3 BK780.out hb); have n2_ := Aside0.mk (bS3 HB.out hb); have n3_ := Aside0.mk (hbox); have n4_ := Aside0.mk ((bZ3 hg HB.out)); have n5_ := Aside0.mk ((bZ3 hg HB.out)); have n6_ := Aside0.mk ((bL3 hg BK779.out)); have n7_ := Aside0.mk ((bG3 hg BK779.out)); have n8_ := Aside0.mk ((bL3 hg BK780.out)); have n9_ := Aside0.mk ((bG3 hg BK780.out)); clear BK779; clear BK780; clear HB; have BK779 := n0_; have BK780 := n1_; have HB := n2_; have BK781 := n3_; have GW781 := n4_; have GE781 := n5_; have NB779_781 := n6_; have NB781_779 := n7_; have NB780_781 := n8_; have NB781_780 := n9_; clear n0_ n1_ n2_ n3_ n4_ n5_ n6_ n7_ n8_ n9_; clear hb hbox hg) | ((with_reducible refine gD (N := 5) rfl ?_); refine bE3 5 #[.int .u64 0, .int .u64 0] 55 ?hr ?_; (case hr => first | (go_simp; done) | (go_simp; rfl)); intro gb782 hg w8 hbox hb; have n0_ := Aside0.mk (bB3 BK779.out hb); have n1_ := Aside0.mk (bB3 BK780.out hb); have n2_ := Aside0.mk (bB3 BK781.out hb); have n3_ := Aside0.mk (bS3 HB.out hb); have n4_ := Aside0.mk (hbox); have n5_ := Aside0.mk ((bZ3 hg HB.out)); have n6_ := Aside0.mk ((bZ3 hg HB.out)); have n7_ := Aside0.mk ((bL3 hg BK779.out)); have n8_ := Aside0.mk ((bG3 hg BK779.out)); have n9_ := Aside0.mk ((bL3 hg BK780.out)); have n10_ := Aside0.mk ((bG3 hg BK780.out)); have n11_ := Aside0.mk ((bL3 hg BK781.out)); have n12_ := Aside0.mk ((bG3 hg BK781.out)); clear BK779; clear BK780; clear BK781; clear HB; have BK779 := n0_; have BK780 := n1_; have BK781 := n2_; have HB := n3_; have BK782 := n4_; have GW782 := n5_; have GE782 := n6_; have NB779_782 := n7_; have NB782_779 := n8_; have NB780_782 := n9_; have NB782_780 := n10_; have NB781_782 := n11_; have NB782_781 := n12_; clear n0_ n1_ n2_ n3_ n4_ n5_ n6_ n7_ n8_ n9_ n10_ n11_ n12_; clear hb hbox hg; have hnb9 := NB780_779.out; have hnc9 := NB779_780.out; have hnb10 := NB780_781.out; have hnc10 := NB781_780.out; have hnb11 := NB780_782.out; have hnc11 := NB782_780.out; have hcz12_0 : w8.cell? ⟨gb780, 0, none⟩ = some (.int .u64 a1_0) := (blk_cell BK780.out 0).trans rfl; have hcz12_1 : w8.cell? ⟨gb780, 1, none⟩ = some (.int .u64 a1_1) := (blk_cell BK780.out 1).trans rfl; have hfz12_0 := blk_frozen BK780.out 0; have hfz12_1 := blk_frozen BK780.out 1; have hnb13 := NB779_781.out; have hnc13 := NB781_779.out; have hnb14 := NB779_782.out; have hnc14 := NB782_779.out; have hcz15_0 : w8.cell? ⟨gb779, 0, none⟩ = some (.int .u64 a0_0) := (blk_cell BK779.out 0).trans rfl; have hcz15_1 : w8.cell? ⟨gb779, 1, none⟩ = some (.int .u64 a0_1) := (blk_cell BK779.out 1).trans rfl; have hfz15_0 := blk_frozen BK779.out 0; have hfz15_1 := blk_frozen BK779.out 1) | ((with_reducible refine gC (f := 48) rfl ?_); refine goesY_ (some 29) Try.func48 #[.agg #[.int .u64 a0_0, .int .u64 a0_1], .int .u64 a1_1] ?_; (with_reducible refine (part_Long.calls k a0_0 a0_1 a1_1 t783 t784 t785 t786 _ A4.out).mono ?_); rintro e w16 ⟨rfl, hb⟩; refine ⟨_, rfl, ?_⟩; have n0_ := Aside0.mk (bB3 BK779.out hb); have n1_ := Aside0.mk (bB3 BK780.out hb); have n2_ := Aside0.mk (bB3 BK781.out hb); have n3_ := Aside0.mk (bB3 BK782.out hb); have n4_ := Aside0.mk (bS3 HB.out hb); clear BK779; clear BK780; clear BK781; clear BK782; clear HB; have BK779 := n0_; have BK780 := n1_; have BK781 := n2_; have BK782 := n3_; have HB := n4_; clear n0_ n1_ n2_ n3_ n4_; (try clear hb); (try clear hb2); (try clear hk); (try clear hi); (try simp only [errW_none, errW_some])) | ((with_reducible refine gD (N := 7) rfl ?_); refine bE3 7 #[.int .u64 0, .int .u64 0] 55 ?hr ?_; (case hr => first | (go_simp; done) | (go_simp; rfl)); intro gb787 hg w17 hbox hb; have n0_ := Aside0.mk (bB3 BK779.out hb); have n1_ := Aside0.mk (bB3 BK780.out hb); have n2_ := Aside0.mk (bB3 BK781.out hb); have n3_ := Aside0.mk (bB3 BK782.out hb); have n4_ := Aside0.mk (bS3 HB.out hb); have n5_ := Aside0.mk (hbox); have n6_ := Aside0.mk ((bZ3 hg HB.out)); have n7_ := Aside0.mk ((bZ3 hg HB.out)); have n8_ := Aside0.mk ((bL3 hg BK779.out)); have n9_ := Aside0.mk ((bG3 hg BK779.out)); have n10_ := Aside0.mk ((bL3 hg BK780.out)); have n11_ := Aside0.mk ((bG3 hg BK780.out)); have n12_ := Aside0.mk ((bL3 hg BK781.out)); have n13_ := Aside0.mk ((bG3 hg BK781.out)); have n14_ := Aside0.mk ((bL3 hg BK782.out)); have n15_ := Aside0.mk ((bG3 hg BK782.out)); clear BK779; clear BK780; clear BK781; clear BK782; clear HB; have BK779 := n0_; have BK780 := n1_; have BK781 := n2_; have BK782 := n3_; have HB := n4_; have BK787 := n5_; have GW787 := n6_; have GE787 := n7_; have NB779_787 := n8_; have NB787_779 := n9_; have NB780_787 := n10_; have NB787_780 := n11_; have NB781_787 := n12_; have NB787_781 := n13_; have NB782_787 := n14_; have NB787_782 := n15_; clear n0_ n1_ n2_ n3_ n4_ n5_ n6_ n7_ n8_ n9_ n10_ n11_ n12_ n13_ n14_ n15_; clear hb hbox hg; have hnb18 := NB787_779.out; have hnc18 := NB779_787.out; have hnb19 := NB787_780.out; have hnc19 := NB780_787.out; have hnb20 := NB787_781.out; have hnc20 := NB781_787.out; have hnb21 := NB787_782.out; have hnc21 := NB782_787.out; have hcz22_0 : w17.cell? ⟨gb787, 0, none⟩ = some (.int .u64 0) := (blk_cell BK787.out 0).trans rfl; have hcz22_1 : w17.cell? ⟨gb787, 1, none⟩ = some (.int .u64 0) := (blk_cell BK787.out 1).trans rfl; have hfz22_0 := blk_frozen BK787.out 0; have hfz22_1 := blk_frozen BK787.out 1; have hnb23 := NB781_782.out; have hnc23 := NB782_781.out; have hcz24_0 : w17.cell? ⟨gb781, 0, none⟩ = some (.int .u64 0) := (blk_cell BK781.out 0).trans rfl; have hcz24_1 : w17.cell? ⟨gb781, 1, none⟩ = some (.int .u64 0) := (blk_cell BK781.out 1).trans rfl; have hfz24_0 := blk_frozen BK781.out 0; have hfz24_1 := blk_frozen BK781.out 1; have hcz25_0 : w17.cell? ⟨gb782, 0, none⟩ = some (.int .u64 0) := (blk_cell BK782.out 0).trans rfl; have hcz25_1 : w17.cell? ⟨gb782, 1, none⟩ = some (.int .u64 0) := (blk_cell BK782.out 1).trans rfl; have hfz25_0 := blk_frozen BK782.out 0; have hfz25_1 := blk_frozen BK782.out 1))
    refine bodyPost_ret (results_list (rs := [.cell 4 55, .cell 5 55, .tmp 6]) rfl (by simp) (.cell gb781 55 #[.int .u64 t783, .int .u64 t784] (0, 0) _ rfl (by (with_reducible repeat (first | refine bN ?_ _ | refine bD ?_ | refine bA ?_ _)); refine blk_far ?_ NB781_782.out _; (with_reducible repeat (first | refine bN ?_ _ | refine bD ?_ | refine bA ?_ _)); refine blk_far ?_ NB781_782.out _; (with_reducible repeat (first | refine bN ?_ _ | refine bD ?_ | refine bA ?_ _)); refine blk_put (cs := #[.int .u64 t783, .int .u64 0]) ?_ 1 _ rfl; (with_reducible repeat (first | refine bN ?_ _ | refine bD ?_ | refine bA ?_ _)); refine blk_put (cs := #[.int .u64 0, .int .u64 0]) ?_ 0 _ rfl; (with_reducible repeat (first | refine bN ?_ _ | refine bD ?_ | refine bA ?_ _)); refine blk_far ?_ NB781_787.out _; (with_reducible repeat (first | refine bN ?_ _ | refine bD ?_ | refine bA ?_ _)); refine blk_far ?_ NB781_787.out _; (with_reducible repeat (first | refine bN ?_ _ | refine bD ?_ | refine bA ?_ _)); exact BK781.out) Try.underlying55 rfl (by kernel_rfl) (.cell gb782 55 #[.int .u64 0, .int .u64 t785] (0, 0) _ rfl (by (with_reducible repeat (first | refine bN ?_ _ | refine bD ?_ | refine bA ?_ _)); refine blk_put (cs := #[.int .u64 0, .int .u64 0]) ?_ 1 _ rfl; (with_reducible repeat (first | refine bN ?_ _ | refine bD ?_ | refine bA ?_ _)); refine blk_put (cs := #[.int .u64 0, .int .u64 0]) ?_ 0 _ rfl; (with_reducible repeat (first | refine bN ?_ _ | refine bD ?_ | refine bA ?_ _)); refine blk_far ?_ NB782_781.out _; (with_reducible repeat (first | refine bN ?_ _ | refine bD ?_ | refine bA ?_ _)); refine blk_far ?_ NB782_781.out _; (with_reducible repeat (first | refine bN ?_ _ | refine bD ?_ | refine bA ?_ _)); refine blk_far ?_ NB782_787.out _; (with_reducible repeat (first | refine bN ?_ _ | refine bD ?_ | refine bA ?_ _)); refine blk_far ?_ NB782_787.out _; (with_reducible repeat (first | refine bN ?_ _ | refine bD ?_ | refine bA ?_ _)); exact BK782.out) Try.underlying55 rfl (by kernel_rfl) (.tmp .nil)))) rfl ?_
    exact ⟨by first | rfl | (simp [errW_none, errW_some] <;> rfl) | (simp [*, errW_none, errW_some] <;> rfl), by repeat (first | (with_reducible first | exact HB.out | apply pA | apply pN | apply p1 | refine pS ?_ GE779.out | refine pS ?_ GE780.out | refine pS ?_ GE781.out | refine pS ?_ GE782.out | refine pS ?_ GE787.out) | exact HB.out)⟩
  · rw [if_neg c3] at H
    have c3b0 : (a1_0 == 0) = false := beq_eq_false_iff_ne.mpr c3
    have c3b1 : (a1_0 != 0) = true := bne_iff_ne.mpr c3
    replace H := Option.bind_eq_some_iff.mp H
    obtain ⟨t788, A260, H⟩ := H
    replace H : ((twin_Shl.f k a1_0 a1_1 t788).bind fun bt789 => ((twin_Shr.f a0_0 a0_1 1).bind fun bt794 => ((bits_Div64.f k bt794.1 bt794.2.1 bt789.1).bind fun bt799 => (if 0 ≤ (wrap64 (63 - t788)) then (if (shr .u64 bt799.1 (wrap64 (63 - t788))) > 0 then (part_Wide.j0 k (IntKind.u64.wrap ((shr .u64 bt799.1 (wrap64 (63 - t788))) - 1)) a0_0 a0_1 a1_0 a1_1) else (part_Wide.j0 k (shr .u64 bt799.1 (wrap64 (63 - t788))) a0_0 a0_1 a1_0 a1_1)) else (none))))) = some (r1, r2, r3, r4, r5) := H
    have A26 := Aside0.mk A260
    clear A260
    replace H := Option.bind_eq_some_iff.mp H
    obtain ⟨⟨t789, t790, t791, t792⟩, A270, H⟩ := H
    replace H : ((twin_Shr.f a0_0 a0_1 1).bind fun bt794 => ((bits_Div64.f k bt794.1 bt794.2.1 t789).bind fun bt799 => (if 0 ≤ (wrap64 (63 - t788)) then (if (shr .u64 bt799.1 (wrap64 (63 - t788))) > 0 then (part_Wide.j0 k (IntKind.u64.wrap ((shr .u64 bt799.1 (wrap64 (63 - t788))) - 1)) a0_0 a0_1 a1_0 a1_1) else (part_Wide.j0 k (shr .u64 bt799.1 (wrap64 (63 - t788))) a0_0 a0_1 a1_0 a1_1)) else (none)))) = some (r1, r2, r3, r4, r5) := H
    have A27 := Aside0.mk A270
    clear A270
    replace H := Option.bind_eq_some_iff.mp H
    obtain ⟨⟨t794, t795, t796, t797⟩, A280, H⟩ := H
    replace H : ((bits_Div64.f k t794 t795 t789).bind fun bt799 => (if 0 ≤ (wrap64 (63 - t788)) then (if (shr .u64 bt799.1 (wrap64 (63 - t788))) > 0 then (part_Wide.j0 k (IntKind.u64.wrap ((shr .u64 bt799.1 (wrap64 (63 - t788))) - 1)) a0_0 a0_1 a1_0 a1_1) else (part_Wide.j0 k (shr .u64 bt799.1 (wrap64 (63 - t788))) a0_0 a0_1 a1_0 a1_1)) else (none))) = some (r1, r2, r3, r4, r5) := H
    have A28 := Aside0.mk A280
    clear A280
    replace H := Option.bind_eq_some_iff.mp H
    obtain ⟨⟨t799, t800⟩, A290, H⟩ := H
    replace H : (if 0 ≤ (wrap64 (63 - t788)) then (if (shr .u64 t799 (wrap64 (63 - t788))) > 0 then (part_Wide.j0 k (IntKind.u64.wrap ((shr .u64 t799 (wrap64 (63 - t788))) - 1)) a0_0 a0_1 a1_0 a1_1) else (part_Wide.j0 k (shr .u64 t799 (wrap64 (63 - t788))) a0_0 a0_1 a1_0 a1_1)) else (none)) = some (r1, r2, r3, r4, r5) := H
    have A29 := Aside0.mk A290
    clear A290
    obtain ⟨ji30, hji30⟩ : ∃ j_ : Int, (wrap64 (63 - t788)) = j_ := ⟨_, rfl⟩
    replace H : (if 0 ≤ (ji30) then (if (shr .u64 t799 (ji30)) > 0 then (part_Wide.j0 k (IntKind.u64.wrap ((shr .u64 t799 (ji30)) - 1)) a0_0 a0_1 a1_0 a1_1) else (part_Wide.j0 k (shr .u64 t799 (ji30)) a0_0 a0_1 a1_0 a1_1)) else (none)) = some (r1, r2, r3, r4, r5) := by first | (rw [hji30] at H; exact H) | (simp only [hji30] at H ⊢; exact H)
    (try rw [hji30] at A26)
    (try rw [hji30] at A27)
    (try rw [hji30] at A28)
    (try rw [hji30] at A29)
    have hji30w : (IntKind.i64.wrap (63 - t788)) = ji30 := (i64_w _).trans hji30
    by_cases c31 : 0 ≤ (ji30)
    · rw [if_pos c31] at H
      have c31b0 := eq_true c31
      have c31b1 : decide (0 ≤ (ji30)) = true := decide_eq_true c31
      clear c31
      obtain ⟨ji32, hji32⟩ : ∃ j_ : Int, (shr .u64 t799 (ji30)) = j_ := ⟨_, rfl⟩
      replace H : (if (ji32) > 0 then (part_Wide.j0 k (IntKind.u64.wrap ((ji32) - 1)) a0_0 a0_1 a1_0 a1_1) else (part_Wide.j0 k ji32 a0_0 a0_1 a1_0 a1_1)) = some (r1, r2, r3, r4, r5) := by first | (rw [hji32] at H; exact H) | (simp only [hji32] at H ⊢; exact H)
      (try rw [hji32] at A26)
      (try rw [hji32] at A27)
      (try rw [hji32] at A28)
      (try rw [hji32] at A29)
      have hji32_ : (t799 / 2 ^ min (ji30).toNat 64) = ji32 := hji32
      have hji32z : (ji30) ≤ 64 → (t799 / 2 ^ (ji30).toNat) = ji32 := shr_small hji32
      have HC33 := Aside0.mk H
      clear H
      go_enter Try.func54, Try.ntmps54
      go_upto_if 68 with (first | ((with_reducible refine gD (N := 2) rfl ?_); refine bE3 2 #[.int .u64 a0_0, .int .u64 a0_1] 55 ?hr ?_; (case hr => first | (go_simp; done) | (go_simp; rfl)); intro gb779 hg w34 hbox hb; have n0_ := Aside0.mk (bS3 HB.out hb); have n1_ := Aside0.mk (hbox); have n2_ := Aside0.mk ((bZ3 hg HB.out)); have n3_ := Aside0.mk ((bZ3 hg HB.out)); clear HB; have HB := n0_; have BK779 := n1_; have GW779 := n2_; have GE779 := n3_; clear n0_ n1_ n2_ n3_; clear hb hbox hg) | ((with_reducible refine gD (N := 3) rfl ?_); refine bE3 3 #[.int .u64 a1_0, .int .u64 a1_1] 55 ?hr ?_; (case hr => first | (go_simp; done) | (go_simp; rfl)); intro gb780 hg w35 hbox hb; have n0_ := Aside0.mk (bB3 BK779.out hb); have n1_ := Aside0.mk (bS3 HB.out hb); have n2_ := Aside0.mk (hbox); have n3_ := Aside0.mk ((bZ3 hg HB.out)); have n4_ := Aside0.mk ((bZ3 hg HB.out)); have n5_ := Aside0.mk ((bL3 hg BK779.out)); have n6_ := Aside0.mk ((bG3 hg BK779.out)); clear BK779; clear HB; have BK779 := n0_; have HB := n1_; have BK780 := n2_; have GW780 := n3_; have GE780 := n4_; have NB779_780 := n5_; have NB780_779 := n6_; clear n0_ n1_ n2_ n3_ n4_ n5_ n6_; clear hb hbox hg) | ((with_reducible refine gD (N := 4) rfl ?_); refine bE3 4 #[.int .u64 0, .int .u64 0] 55 ?hr ?_; (case hr => first | (go_simp; done) | (go_simp; rfl)); intro gb781 hg w36 hbox hb; have n0_ := Aside0.mk (bB3 BK779.out hb); have n1_ := Aside0.mk (bB3 BK780.out hb); have n2_ := Aside0.mk (bS3 HB.out hb); have n3_ := Aside0.mk (hbox); have n4_ := Aside0.mk ((bZ3 hg HB.out)); have n5_ := Aside0.mk ((bZ3 hg HB.out)); have n6_ := Aside0.mk ((bL3 hg BK779.out)); have n7_ := Aside0.mk ((bG3 hg BK779.out)); have n8_ := Aside0.mk ((bL3 hg BK780.out)); have n9_ := Aside0.mk ((bG3 hg BK780.out)); clear BK779; clear BK780; clear HB; have BK779 := n0_; have BK780 := n1_; have HB := n2_; have BK781 := n3_; have GW781 := n4_; have GE781 := n5_; have NB779_781 := n6_; have NB781_779 := n7_; have NB780_781 := n8_; have NB781_780 := n9_; clear n0_ n1_ n2_ n3_ n4_ n5_ n6_ n7_ n8_ n9_; clear hb hbox hg) | ((with_reducible refine gD (N := 5) rfl ?_); refine bE3 5 #[.int .u64 0, .int .u64 0] 55 ?hr ?_; (case hr => first | (go_simp; done) | (go_simp; rfl)); intro gb782 hg w37 hbox hb; have n0_ := Aside0.mk (bB3 BK779.out hb); have n1_ := Aside0.mk (bB3 BK780.out hb); have n2_ := Aside0.mk (bB3 BK781.out hb); have n3_ := Aside0.mk (bS3 HB.out hb); have n4_ := Aside0.mk (hbox); have n5_ := Aside0.mk ((bZ3 hg HB.out)); have n6_ := Aside0.mk ((bZ3 hg HB.out)); have n7_ := Aside0.mk ((bL3 hg BK779.out)); have n8_ := Aside0.mk ((bG3 hg BK779.out)); have n9_ := Aside0.mk ((bL3 hg BK780.out)); have n10_ := Aside0.mk ((bG3 hg BK780.out)); have n11_ := Aside0.mk ((bL3 hg BK781.out)); have n12_ := Aside0.mk ((bG3 hg BK781.out)); clear BK779; clear BK780; clear BK781; clear HB; have BK779 := n0_; have BK780 := n1_; have BK781 := n2_; have HB := n3_; have BK782 := n4_; have GW782 := n5_; have GE782 := n6_; have NB779_782 := n7_; have NB782_779 := n8_; have NB780_782 := n9_; have NB782_780 := n10_; have NB781_782 := n11_; have NB782_781 := n12_; clear n0_ n1_ n2_ n3_ n4_ n5_ n6_ n7_ n8_ n9_ n10_ n11_ n12_; clear hb hbox hg; have hnb38 := NB780_779.out; have hnc38 := NB779_780.out; have hnb39 := NB780_781.out; have hnc39 := NB781_780.out; have hnb40 := NB780_782.out; have hnc40 := NB782_780.out; have hcz41_0 : w37.cell? ⟨gb780, 0, none⟩ = some (.int .u64 a1_0) := (blk_cell BK780.out 0).trans rfl; have hcz41_1 : w37.cell? ⟨gb780, 1, none⟩ = some (.int .u64 a1_1) := (blk_cell BK780.out 1).trans rfl; have hfz41_0 := blk_frozen BK780.out 0; have hfz41_1 := blk_frozen BK780.out 1) | ((with_reducible refine gC (f := 84) rfl ?_); refine goesY_ (some 39) Try.func84 #[.int .u64 a1_0] ?_; (with_reducible refine (bits_LeadingZeros64.calls k a1_0 t788 _ A26.out).mono ?_); rintro e w' ⟨rfl, ⟨nd, rfl⟩⟩; refine ⟨_, rfl, ?_⟩; (try (rw [drewN_self w37]; generalize hq_ : World.drewN w37 _ = w37; have n0_ : Aside0 (w37.heap[gb779]? = some (.cells #[.int .u64 a0_0, .int .u64 a0_1] 55 (0, 0))) := ⟨by rw [← hq_]; exact (by (with_reducible repeat (first | refine bN ?_ _ | refine bD ?_ | refine bA ?_ _)); exact BK779.out)⟩; have n1_ : Aside0 (w37.heap[gb780]? = some (.cells #[.int .u64 a1_0, .int .u64 a1_1] 55 (0, 0))) := ⟨by rw [← hq_]; exact (by (with_reducible repeat (first | refine bN ?_ _ | refine bD ?_ | refine bA ?_ _)); exact BK780.out)⟩; have n2_ : Aside0 (w37.heap[gb781]? = some (.cells #[.int .u64 0, .int .u64 0] 55 (0, 0))) := ⟨by rw [← hq_]; exact (by (with_reducible repeat (first | refine bN ?_ _ | refine bD ?_ | refine bA ?_ _)); exact BK781.out)⟩; have n3_ : Aside0 (w37.heap[gb782]? = some (.cells #[.int .u64 0, .int .u64 0] 55 (0, 0))) := ⟨by rw [← hq_]; exact (by (with_reducible repeat (first | refine bN ?_ _ | refine bD ?_ | refine bA ?_ _)); exact BK782.out)⟩; have n4_ : Aside0 (Below w.heap.size w w37) := ⟨by rw [← hq_]; exact (by repeat (first | (with_reducible first | exact HB.out | apply pA | apply pN | apply p1 | refine pS ?_ GE779.out | refine pS ?_ GE780.out | refine pS ?_ GE781.out | refine pS ?_ GE782.out) | exact HB.out))⟩; clear BK779 BK780 BK781 BK782 HB hq_; have BK779 := n0_; have BK780 := n1_; have BK781 := n2_; have BK782 := n3_; have HB := n4_; clear n0_ n1_ n2_ n3_ n4_)); (try have hcz41_0 : w37.cell? ⟨gb780, 0, none⟩ = some (.int .u64 a1_0) := (blk_cell BK780.out 0).trans rfl); (try have hcz41_1 : w37.cell? ⟨gb780, 1, none⟩ = some (.int .u64 a1_1) := (blk_cell BK780.out 1).trans rfl); (try have hfz41_0 := blk_frozen BK780.out 0); (try have hfz41_1 := blk_frozen BK780.out 1)) | ((with_reducible refine gC (f := 52) rfl ?_); refine goesY_ (some 43) Try.func52 #[.agg #[.int .u64 a1_0, .int .u64 a1_1], .int .i64 t788] ?_; (with_reducible refine (twin_Shl.calls k a1_0 a1_1 t788 t789 t790 t791 t792 _ A27.out).mono ?_); rintro e w42 ⟨rfl, hb⟩; refine ⟨_, rfl, ?_⟩; have n0_ := Aside0.mk (bB3 BK779.out hb); have n1_ := Aside0.mk (bB3 BK780.out hb); have n2_ := Aside0.mk (bB3 BK781.out hb); have n3_ := Aside0.mk (bB3 BK782.out hb); have n4_ := Aside0.mk (bS3 HB.out hb); clear BK779; clear BK780; clear BK781; clear BK782; clear HB; have BK779 := n0_; have BK780 := n1_; have BK781 := n2_; have BK782 := n3_; have HB := n4_; clear n0_ n1_ n2_ n3_ n4_; (try clear hb); (try clear hb2); (try clear hk); (try clear hi); (try simp only [errW_none, errW_some])) | ((with_reducible refine gD (N := 11) rfl ?_); refine bE3 11 #[.int .u64 0, .int .u64 0] 55 ?hr ?_; (case hr => first | (go_simp; done) | (go_simp; rfl)); intro gb793 hg w43 hbox hb; have n0_ := Aside0.mk (bB3 BK779.out hb); have n1_ := Aside0.mk (bB3 BK780.out hb); have n2_ := Aside0.mk (bB3 BK781.out hb); have n3_ := Aside0.mk (bB3 BK782.out hb); have n4_ := Aside0.mk (bS3 HB.out hb); have n5_ := Aside0.mk (hbox); have n6_ := Aside0.mk ((bZ3 hg HB.out)); have n7_ := Aside0.mk ((bZ3 hg HB.out)); have n8_ := Aside0.mk ((bL3 hg BK779.out)); have n9_ := Aside0.mk ((bG3 hg BK779.out)); have n10_ := Aside0.mk ((bL3 hg BK780.out)); have n11_ := Aside0.mk ((bG3 hg BK780.out)); have n12_ := Aside0.mk ((bL3 hg BK781.out)); have n13_ := Aside0.mk ((bG3 hg BK781.out)); have n14_ := Aside0.mk ((bL3 hg BK782.out)); have n15_ := Aside0.mk ((bG3 hg BK782.out)); clear BK779; clear BK780; clear BK781; clear BK782; clear HB; have BK779 := n0_; have BK780 := n1_; have BK781 := n2_; have BK782 := n3_; have HB := n4_; have BK793 := n5_; have GW793 := n6_; have GE793 := n7_; have NB779_793 := n8_; have NB793_779 := n9_; have NB780_793 := n10_; have NB793_780 := n11_; have NB781_793 := n12_; have NB793_781 := n13_; have NB782_793 := n14_; have NB793_782 := n15_; clear n0_ n1_ n2_ n3_ n4_ n5_ n6_ n7_ n8_ n9_ n10_ n11_ n12_ n13_ n14_ n15_; clear hb hbox hg; have hnb44 := NB793_779.out; have hnc44 := NB779_793.out; have hnb45 := NB793_780.out; have hnc45 := NB780_793.out; have hnb46 := NB793_781.out; have hnc46 := NB781_793.out; have hnb47 := NB793_782.out; have hnc47 := NB782_793.out; have hcz48_0 : w43.cell? ⟨gb793, 0, none⟩ = some (.int .u64 0) := (blk_cell BK793.out 0).trans rfl; have hcz48_1 : w43.cell? ⟨gb793, 1, none⟩ = some (.int .u64 0) := (blk_cell BK793.out 1).trans rfl; have hfz48_0 := blk_frozen BK793.out 0; have hfz48_1 := blk_frozen BK793.out 1; have hnb49 := NB779_781.out; have hnc49 := NB781_779.out; have hnb50 := NB779_782.out; have hnc50 := NB782_779.out; have hcz51_0 : w43.cell? ⟨gb779, 0, none⟩ = some (.int .u64 a0_0) := (blk_cell BK779.out 0).trans rfl; have hcz51_1 : w43.cell? ⟨gb779, 1, none⟩ = some (.int .u64 a0_1) := (blk_cell BK779.out 1).trans rfl; have hfz51_0 := blk_frozen BK779.out 0; have hfz51_1 := blk_frozen BK779.out 1) | ((with_reducible refine gC (f := 85) rfl ?_); refine goesY_ (some 49) Try.func85 #[.agg #[.int .u64 a0_0, .int .u64 a0_1], .int .i64 1] ?_; (with_reducible refine (twin_Shr.calls a0_0 a0_1 1 t794 t795 t796 t797 _ A28.out).mono ?_); rintro e w52 ⟨rfl, hb⟩; refine ⟨_, rfl, ?_⟩; have n0_ := Aside0.mk (bB (g := gb779) (o := .cells #[.int .u64 a0_0, .int .u64 a0_1] 55 (0, 0)) (by (with_reducible repeat (first | refine bN ?_ _ | refine bD ?_ | refine bA ?_ _)); refine blk_far ?_ NB779_793.out _; (with_reducible repeat (first | refine bN ?_ _ | refine bD ?_ | refine bA ?_ _)); refine blk_far ?_ NB779_793.out _; (with_reducible repeat (first | refine bN ?_ _ | refine bD ?_ | refine bA ?_ _)); exact BK779.out) hb); have n1_ := Aside0.mk (bB (g := gb780) (o := .cells #[.int .u64 a1_0, .int .u64 a1_1] 55 (0, 0)) (by (with_reducible repeat (first | refine bN ?_ _ | refine bD ?_ | refine bA ?_ _)); refine blk_far ?_ NB780_793.out _; (with_reducible repeat (first | refine bN ?_ _ | refine bD ?_ | refine bA ?_ _)); refine blk_far ?_ NB780_793.out _; (with_reducible repeat (first | refine bN ?_ _ | refine bD ?_ | refine bA ?_ _)); exact BK780.out) hb); have n2_ := Aside0.mk (bB (g := gb781) (o := .cells #[.int .u64 0, .int .u64 0] 55 (0, 0)) (by (with_reducible repeat (first | refine bN ?_ _ | refine bD ?_ | refine bA ?_ _)); refine blk_far ?_ NB781_793.out _; (with_reducible repeat (first | refine bN ?_ _ | refine bD ?_ | refine bA ?_ _)); refine blk_far ?_ NB781_793.out _; (with_reducible repeat (first | refine bN ?_ _ | refine bD ?_ | refine bA ?_ _)); exact BK781.out) hb); have n3_ := Aside0.mk (bB (g := gb782) (o := .cells #[.int .u64 0, .int .u64 0] 55 (0, 0)) (by (with_reducible repeat (first | refine bN ?_ _ | refine bD ?_ | refine bA ?_ _)); refine blk_far ?_ NB782_793.out _; (with_reducible repeat (first | refine bN ?_ _ | refine bD ?_ | refine bA ?_ _)); refine blk_far ?_ NB782_793.out _; (with_reducible repeat (first | refine bN ?_ _ | refine bD ?_ | refine bA ?_ _)); exact BK782.out) hb); have n4_ := Aside0.mk (bB (g := gb793) (o := .cells #[.int .u64 t789, .int .u64 t790] 55 (0, 0)) (by (with_reducible repeat (first | refine bN ?_ _ | refine bD ?_ | refine bA ?_ _)); refine blk_put (cs := #[.int .u64 t789, .int .u64 0]) ?_ 1 _ rfl; (with_reducible repeat (first | refine bN ?_ _ | refine bD ?_ | refine bA ?_ _)); refine blk_put (cs := #[.int .u64 0, .int .u64 0]) ?_ 0 _ rfl; (with_reducible repeat (first | refine bN ?_ _ | refine bD ?_ | refine bA ?_ _)); exact BK793.out) hb); have n5_ := Aside0.mk (bS3 HB.out hb); clear BK779; clear BK780; clear BK781; clear BK782; clear BK793; clear HB; have BK779 := n0_; have BK780 := n1_; have BK781 := n2_; have BK782 := n3_; have BK793 := n4_; have HB := n5_; clear n0_ n1_ n2_ n3_ n4_ n5_; (try clear hb); (try clear hb2); (try clear hk); (try clear hi); (try simp only [errW_none, errW_some])) | ((with_reducible refine gD (N := 14) rfl ?_); refine bE3 14 #[.int .u64 0, .int .u64 0] 55 ?hr ?_; (case hr => first | (go_simp; done) | (go_simp; rfl)); intro gb798 hg w53 hbox hb; have n0_ := Aside0.mk (bB3 BK779.out hb); have n1_ := Aside0.mk (bB3 BK780.out hb); have n2_ := Aside0.mk (bB3 BK781.out hb); have n3_ := Aside0.mk (bB3 BK782.out hb); have n4_ := Aside0.mk (bB3 BK793.out hb); have n5_ := Aside0.mk (bS3 HB.out hb); have n6_ := Aside0.mk (hbox); have n7_ := Aside0.mk ((bZ3 hg HB.out)); have n8_ := Aside0.mk ((bZ3 hg HB.out)); have n9_ := Aside0.mk ((bL3 hg BK779.out)); have n10_ := Aside0.mk ((bG3 hg BK779.out)); have n11_ := Aside0.mk ((bL3 hg BK780.out)); have n12_ := Aside0.mk ((bG3 hg BK780.out)); have n13_ := Aside0.mk ((bL3 hg BK781.out)); have n14_ := Aside0.mk ((bG3 hg BK781.out)); have n15_ := Aside0.mk ((bL3 hg BK782.out)); have n16_ := Aside0.mk ((bG3 hg BK782.out)); have n17_ := Aside0.mk ((bL3 hg BK793.out)); have n18_ := Aside0.mk ((bG3 hg BK793.out)); clear BK779; clear BK780; clear BK781; clear BK782; clear BK793; clear HB; have BK779 := n0_; have BK780 := n1_; have BK781 := n2_; have BK782 := n3_; have BK793 := n4_; have HB := n5_; have BK798 := n6_; have GW798 := n7_; have GE798 := n8_; have NB779_798 := n9_; have NB798_779 := n10_; have NB780_798 := n11_; have NB798_780 := n12_; have NB781_798 := n13_; have NB798_781 := n14_; have NB782_798 := n15_; have NB798_782 := n16_; have NB793_798 := n17_; have NB798_793 := n18_; clear n0_ n1_ n2_ n3_ n4_ n5_ n6_ n7_ n8_ n9_ n10_ n11_ n12_ n13_ n14_ n15_ n16_ n17_ n18_; clear hb hbox hg; have hnb54 := NB798_779.out; have hnc54 := NB779_798.out; have hnb55 := NB798_780.out; have hnc55 := NB780_798.out; have hnb56 := NB798_781.out; have hnc56 := NB781_798.out; have hnb57 := NB798_782.out; have hnc57 := NB782_798.out; have hnb58 := NB798_793.out; have hnc58 := NB793_798.out; have hcz59_0 : w53.cell? ⟨gb798, 0, none⟩ = some (.int .u64 0) := (blk_cell BK798.out 0).trans rfl; have hcz59_1 : w53.cell? ⟨gb798, 1, none⟩ = some (.int .u64 0) := (blk_cell BK798.out 1).trans rfl; have hfz59_0 := blk_frozen BK798.out 0; have hfz59_1 := blk_frozen BK798.out 1; have hcz60_0 : w53.cell? ⟨gb793, 0, none⟩ = some (.int .u64 t789) := (blk_cell BK793.out 0).trans rfl; have hcz60_1 : w53.cell? ⟨gb793, 1, none⟩ = some (.int .u64 t790) := (blk_cell BK793.out 1).trans rfl; have hfz60_0 := blk_frozen BK793.out 0; have hfz60_1 := blk_frozen BK793.out 1) | ((with_reducible refine gC (f := 70) rfl ?_); refine goesY_ (some 60) Try.func70 #[.int .u64 t794, .int .u64 t795, .int .u64 t789] ?_; (with_reducible refine (bits_Div64.calls k t794 t795 t789 t799 t800 _ A29.out).mono ?_); rintro e w' ⟨rfl, ⟨nd, rfl⟩⟩; refine ⟨_, rfl, ?_⟩))
      (try simp only [Act.put, List.setIfInBounds_toArray, List.set_cons_zero, List.set_cons_succ])
      go_cut [17] (fun v17 wc => ∃ (kq : Nat) (x17_32 : Int), v17 = .int .u64 x17_32 ∧ Aside0 (part_Wide.j0 kq x17_32 a0_0 a0_1 a1_0 a1_1 = some (r1, r2, r3, r4, r5)) ∧ Aside0 (kq ≤ k) ∧ Aside0 (wc.heap[gb779]? = some (.cells #[.int .u64 a0_0, .int .u64 a0_1] 55 (0, 0))) ∧ Aside0 (wc.heap[gb780]? = some (.cells #[.int .u64 a1_0, .int .u64 a1_1] 55 (0, 0))) ∧ Aside0 (wc.heap[gb781]? = some (.cells #[.int .u64 0, .int .u64 0] 55 (0, 0))) ∧ Aside0 (wc.heap[gb782]? = some (.cells #[.int .u64 0, .int .u64 0] 55 (0, 0))) ∧ Aside0 (wc.heap[gb793]? = some (.cells #[.int .u64 t789, .int .u64 t790] 55 (0, 0))) ∧ Aside0 (wc.heap[gb798]? = some (.cells #[.int .u64 t794, .int .u64 t795] 55 (0, 0))) ∧ Aside0 (Below w.heap.size w wc))
      case first =>
        have H := HC33.out
        clear HC33
        by_cases c61 : (ji32) > 0
        · rw [if_pos c61] at H
          have c61b0 : decide (0 < (ji32)) = true := decide_eq_true c61
          clear c61
          (first | rw [c61b0] | (simp only [i64_w, i32_w]; rw [c61b0]) | skip)
          have H' := Aside0.mk H
          clear H
          go_wp2
          go_meet
          case rel => exact ⟨_, (IntKind.u64.wrap ((ji32) - 1)), (by first | rfl | (simp; done) | (simp only [← hji32] <;> (first | rfl | simp)) | (simp [*]; done)), H', ⟨by first | omega | exact Nat.le_refl _⟩, ⟨by (with_reducible repeat (first | refine bN ?_ _ | refine bD ?_ | refine bA ?_ _)); refine blk_far ?_ NB779_798.out _; (with_reducible repeat (first | refine bN ?_ _ | refine bD ?_ | refine bA ?_ _)); refine blk_far ?_ NB779_798.out _; (with_reducible repeat (first | refine bN ?_ _ | refine bD ?_ | refine bA ?_ _)); exact BK779.out⟩, ⟨by (with_reducible repeat (first | refine bN ?_ _ | refine bD ?_ | refine bA ?_ _)); refine blk_far ?_ NB780_798.out _; (with_reducible repeat (first | refine bN ?_ _ | refine bD ?_ | refine bA ?_ _)); refine blk_far ?_ NB780_798.out _; (with_reducible repeat (first | refine bN ?_ _ | refine bD ?_ | refine bA ?_ _)); exact BK780.out⟩, ⟨by (with_reducible repeat (first | refine bN ?_ _ | refine bD ?_ | refine bA ?_ _)); refine blk_far ?_ NB781_798.out _; (with_reducible repeat (first | refine bN ?_ _ | refine bD ?_ | refine bA ?_ _)); refine blk_far ?_ NB781_798.out _; (with_reducible repeat (first | refine bN ?_ _ | refine bD ?_ | refine bA ?_ _)); exact BK781.out⟩, ⟨by (with_reducible repeat (first | refine bN ?_ _ | refine bD ?_ | refine bA ?_ _)); refine blk_far ?_ NB782_798.out _; (with_reducible repeat (first | refine bN ?_ _ | refine bD ?_ | refine bA ?_ _)); refine blk_far ?_ NB782_798.out _; (with_reducible repeat (first | refine bN ?_ _ | refine bD ?_ | refine bA ?_ _)); exact BK782.out⟩, ⟨by (with_reducible repeat (first | refine bN ?_ _ | refine bD ?_ | refine bA ?_ _)); refine blk_far ?_ NB793_798.out _; (with_reducible repeat (first | refine bN ?_ _ | refine bD ?_ | refine bA ?_ _)); refine blk_far ?_ NB793_798.out _; (with_reducible repeat (first | refine bN ?_ _ | refine bD ?_ | refine bA ?_ _)); exact BK793.out⟩, ⟨by (with_reducible repeat (first | refine bN ?_ _ | refine bD ?_ | refine bA ?_ _)); refine blk_put (cs := #[.int .u64 t794, .int .u64 0]) ?_ 1 _ rfl; (with_reducible repeat (first | refine bN ?_ _ | refine bD ?_ | refine bA ?_ _)); refine blk_put (cs := #[.int .u64 0, .int .u64 0]) ?_ 0 _ rfl; (with_reducible repeat (first | refine bN ?_ _ | refine bD ?_ | refine bA ?_ _)); exact BK798.out⟩, ⟨by repeat (first | (with_reducible first | exact HB.out | apply pA | apply pN | apply p1 | refine pS ?_ GE779.out | refine pS ?_ GE780.out | refine pS ?_ GE781.out | refine pS ?_ GE782.out | refine pS ?_ GE793.out | refine pS ?_ GE798.out) | exact HB.out)⟩⟩
        · rw [if_neg c61] at H
          have c61b0 : decide (0 < (ji32)) = false := decide_eq_false c61
          clear c61
          (first | rw [c61b0] | (simp only [i64_w, i32_w]; rw [c61b0]) | skip)
          have H' := Aside0.mk H
          clear H
          go_wp2
          go_meet
          case rel => exact ⟨_, (ji32), (by first | rfl | (simp; done) | (simp only [← hji32] <;> (first | rfl | simp)) | (simp [*]; done)), H', ⟨by first | omega | exact Nat.le_refl _⟩, ⟨by (with_reducible repeat (first | refine bN ?_ _ | refine bD ?_ | refine bA ?_ _)); refine blk_far ?_ NB779_798.out _; (with_reducible repeat (first | refine bN ?_ _ | refine bD ?_ | refine bA ?_ _)); refine blk_far ?_ NB779_798.out _; (with_reducible repeat (first | refine bN ?_ _ | refine bD ?_ | refine bA ?_ _)); exact BK779.out⟩, ⟨by (with_reducible repeat (first | refine bN ?_ _ | refine bD ?_ | refine bA ?_ _)); refine blk_far ?_ NB780_798.out _; (with_reducible repeat (first | refine bN ?_ _ | refine bD ?_ | refine bA ?_ _)); refine blk_far ?_ NB780_798.out _; (with_reducible repeat (first | refine bN ?_ _ | refine bD ?_ | refine bA ?_ _)); exact BK780.out⟩, ⟨by (with_reducible repeat (first | refine bN ?_ _ | refine bD ?_ | refine bA ?_ _)); refine blk_far ?_ NB781_798.out _; (with_reducible repeat (first | refine bN ?_ _ | refine bD ?_ | refine bA ?_ _)); refine blk_far ?_ NB781_798.out _; (with_reducible repeat (first | refine bN ?_ _ | refine bD ?_ | refine bA ?_ _)); exact BK781.out⟩, ⟨by (with_reducible repeat (first | refine bN ?_ _ | refine bD ?_ | refine bA ?_ _)); refine blk_far ?_ NB782_798.out _; (with_reducible repeat (first | refine bN ?_ _ | refine bD ?_ | refine bA ?_ _)); refine blk_far ?_ NB782_798.out _; (with_reducible repeat (first | refine bN ?_ _ | refine bD ?_ | refine bA ?_ _)); exact BK782.out⟩, ⟨by (with_reducible repeat (first | refine bN ?_ _ | refine bD ?_ | refine bA ?_ _)); refine blk_far ?_ NB793_798.out _; (with_reducible repeat (first | refine bN ?_ _ | refine bD ?_ | refine bA ?_ _)); refine blk_far ?_ NB793_798.out _; (with_reducible repeat (first | refine bN ?_ _ | refine bD ?_ | refine bA ?_ _)); exact BK793.out⟩, ⟨by (with_reducible repeat (first | refine bN ?_ _ | refine bD ?_ | refine bA ?_ _)); refine blk_put (cs := #[.int .u64 t794, .int .u64 0]) ?_ 1 _ rfl; (with_reducible repeat (first | refine bN ?_ _ | refine bD ?_ | refine bA ?_ _)); refine blk_put (cs := #[.int .u64 0, .int .u64 0]) ?_ 0 _ rfl; (with_reducible repeat (first | refine bN ?_ _ | refine bD ?_ | refine bA ?_ _)); exact BK798.out⟩, ⟨by repeat (first | (with_reducible first | exact HB.out | apply pA | apply pN | apply p1 | refine pS ?_ GE779.out | refine pS ?_ GE780.out | refine pS ?_ GE781.out | refine pS ?_ GE782.out | refine pS ?_ GE793.out | refine pS ?_ GE798.out) | exact HB.out)⟩⟩
      case rest =>
        clear HC33
        try clear c1
        try clear c2
        try clear p2
        try clear c3
        try clear c3b0
        try clear c3b1
        try clear c4
        try clear c5
        try clear c6
        try clear p6
        try clear c7
        try clear c8
        try clear c9
        try clear c10
        try clear c11
        try clear c13
        try clear c14
        try clear c18
        try clear c19
        try clear c20
        try clear c21
        try clear c23
        try clear c31
        try clear c31b0
        try clear c31b1
        try clear c38
        try clear c39
        try clear c40
        try clear c44
        try clear c45
        try clear c46
        try clear c47
        try clear c48
        try clear c49
        try clear c50
        try clear c52
        try clear c54
        try clear c55
        try clear c56
        try clear c57
        try clear c58
        try clear c61
        try clear c61b0
        try clear hcz12_0
        try clear hcz12_1
        try clear hcz15_0
        try clear hcz15_1
        try clear hcz22_0
        try clear hcz22_1
        try clear hcz24_0
        try clear hcz24_1
        try clear hcz25_0
        try clear hcz25_1
        try clear hcz41_0
        try clear hcz41_1
        try clear hcz48_0
        try clear hcz48_1
        try clear hcz51_0
        try clear hcz51_1
        try clear hcz59_0
        try clear hcz59_1
        try clear hcz60_0
        try clear hcz60_1
        try clear hfz12_0
        try clear hfz12_1
        try clear hfz15_0
        try clear hfz15_1
        try clear hfz22_0
        try clear hfz22_1
        try clear hfz24_0
        try clear hfz24_1
        try clear hfz25_0
        try clear hfz25_1
        try clear hfz41_0
        try clear hfz41_1
        try clear hfz48_0
        try clear hfz48_1
        try clear hfz51_0
        try clear hfz51_1
        try clear hfz59_0
        try clear hfz59_1
        try clear hfz60_0
        try clear hfz60_1
        obtain ⟨kq, x17_32, rfl, HA, HJ32, BK779, BK780, BK781, BK782, BK793, BK798, HB⟩ := hcut
        cases kq with
        | zero => exact absurd HA.out (by simp [part_Wide.j0])
        | succ kj32 =>
          have H := HA.out
          clear HA
          simp only [part_Wide.j0] at H
          replace H := Option.bind_eq_some_iff.mp H
          obtain ⟨⟨t801, t802⟩, A620, H⟩ := H
          replace H : ((twin_Sub.f a0_0 a0_1 t801 t802).bind fun bt804 => ((twin_Cmp.f bt804.1 bt804.2.1 a1_0 a1_1).bind fun t808 => (if t808 ≥ 0 then ((twin_Sub.f bt804.1 bt804.2.1 a1_0 a1_1).bind fun bt809 => (some (0, IntKind.u64.wrap (x17_32 + 1), bt809.1, bt809.2.1, none))) else (some (0, x17_32, bt804.1, bt804.2.1, none))))) = some (r1, r2, r3, r4, r5) := H
          have A62 := Aside0.mk A620
          clear A620
          replace H := Option.bind_eq_some_iff.mp H
          obtain ⟨⟨t804, t805, t806⟩, A630, H⟩ := H
          replace H : ((twin_Cmp.f t804 t805 a1_0 a1_1).bind fun t808 => (if t808 ≥ 0 then ((twin_Sub.f t804 t805 a1_0 a1_1).bind fun bt809 => (some (0, IntKind.u64.wrap (x17_32 + 1), bt809.1, bt809.2.1, none))) else (some (0, x17_32, t804, t805, none)))) = some (r1, r2, r3, r4, r5) := H
          have A63 := Aside0.mk A630
          clear A630
          replace H := Option.bind_eq_some_iff.mp H
          obtain ⟨t808, A640, H⟩ := H
          replace H : (if t808 ≥ 0 then ((twin_Sub.f t804 t805 a1_0 a1_1).bind fun bt809 => (some (0, IntKind.u64.wrap (x17_32 + 1), bt809.1, bt809.2.1, none))) else (some (0, x17_32, t804, t805, none))) = some (r1, r2, r3, r4, r5) := H
          have A64 := Aside0.mk A640
          clear A640
          by_cases c65 : t808 ≥ 0
          · rw [if_pos c65] at H
            have c65b0 : decide (0 ≤ t808) = true := decide_eq_true c65
            clear c65
            replace H := Option.bind_eq_some_iff.mp H
            obtain ⟨⟨t809, t810, t811⟩, A660, H⟩ := H
            replace H : (some (0, IntKind.u64.wrap (x17_32 + 1), t809, t810, none)) = some (r1, r2, r3, r4, r5) := H
            have A66 := Aside0.mk A660
            clear A660
            simp only [Option.some.injEq, Prod.mk.injEq] at H
            obtain ⟨rfl, rfl, rfl, rfl, rfl⟩ := H
            have hnb67 := NB780_779.out
            have hnc67 := NB779_780.out
            have hnb68 := NB780_781.out
            have hnc68 := NB781_780.out
            have hnb69 := NB780_782.out
            have hnc69 := NB782_780.out
            have hnb70 := NB780_793.out
            have hnc70 := NB793_780.out
            have hnb71 := NB780_798.out
            have hnc71 := NB798_780.out
            have hcz72_0 : wc.cell? ⟨gb780, 0, none⟩ = some (.int .u64 a1_0) := (blk_cell BK780.out 0).trans rfl
            have hcz72_1 : wc.cell? ⟨gb780, 1, none⟩ = some (.int .u64 a1_1) := (blk_cell BK780.out 1).trans rfl
            have hfz72_0 := blk_frozen BK780.out 0
            have hfz72_1 := blk_frozen BK780.out 1
            try go_wp2_with (first | ((with_reducible refine gC (f := 86) rfl ?_); refine goesY_ (some 73) Try.func86 #[.agg #[.int .u64 a1_0, .int .u64 a1_1], .int .u64 x17_32] ?_; (with_reducible refine (part_times.calls a1_0 a1_1 x17_32 t801 t802 _ A62.out).mono ?_); rintro e w73 ⟨rfl, hb⟩; refine ⟨_, rfl, ?_⟩; have n0_ := Aside0.mk (bB3 BK779.out hb); have n1_ := Aside0.mk (bB3 BK780.out hb); have n2_ := Aside0.mk (bB3 BK781.out hb); have n3_ := Aside0.mk (bB3 BK782.out hb); have n4_ := Aside0.mk (bB3 BK793.out hb); have n5_ := Aside0.mk (bB3 BK798.out hb); have n6_ := Aside0.mk (bS3 HB.out hb); clear BK779; clear BK780; clear BK781; clear BK782; clear BK793; clear BK798; clear HB; have BK779 := n0_; have BK780 := n1_; have BK781 := n2_; have BK782 := n3_; have BK793 := n4_; have BK798 := n5_; have HB := n6_; clear n0_ n1_ n2_ n3_ n4_ n5_ n6_; (try clear hb); (try clear hb2); (try clear hk); (try clear hi)) | ((with_reducible refine gD (N := 19) rfl ?_); refine bE3 19 #[.int .u64 0, .int .u64 0] 55 ?hr ?_; (case hr => first | (go_simp; done) | (go_simp; rfl)); intro gb803 hg w74 hbox hb; have n0_ := Aside0.mk (bB3 BK779.out hb); have n1_ := Aside0.mk (bB3 BK780.out hb); have n2_ := Aside0.mk (bB3 BK781.out hb); have n3_ := Aside0.mk (bB3 BK782.out hb); have n4_ := Aside0.mk (bB3 BK793.out hb); have n5_ := Aside0.mk (bB3 BK798.out hb); have n6_ := Aside0.mk (bS3 HB.out hb); have n7_ := Aside0.mk (hbox); have n8_ := Aside0.mk ((bZ3 hg HB.out)); have n9_ := Aside0.mk ((bZ3 hg HB.out)); have n10_ := Aside0.mk ((bL3 hg BK779.out)); have n11_ := Aside0.mk ((bG3 hg BK779.out)); have n12_ := Aside0.mk ((bL3 hg BK780.out)); have n13_ := Aside0.mk ((bG3 hg BK780.out)); have n14_ := Aside0.mk ((bL3 hg BK781.out)); have n15_ := Aside0.mk ((bG3 hg BK781.out)); have n16_ := Aside0.mk ((bL3 hg BK782.out)); have n17_ := Aside0.mk ((bG3 hg BK782.out)); have n18_ := Aside0.mk ((bL3 hg BK793.out)); have n19_ := Aside0.mk ((bG3 hg BK793.out)); have n20_ := Aside0.mk ((bL3 hg BK798.out)); have n21_ := Aside0.mk ((bG3 hg BK798.out)); clear BK779; clear BK780; clear BK781; clear BK782; clear BK793; clear BK798; clear HB; have BK779 := n0_; have BK780 := n1_; have BK781 := n2_; have BK782 := n3_; have BK793 := n4_; have BK798 := n5_; have HB := n6_; have BK803 := n7_; have GW803 := n8_; have GE803 := n9_; have NB779_803 := n10_; have NB803_779 := n11_; have NB780_803 := n12_; have NB803_780 := n13_; have NB781_803 := n14_; have NB803_781 := n15_; have NB782_803 := n16_; have NB803_782 := n17_; have NB793_803 := n18_; have NB803_793 := n19_; have NB798_803 := n20_; have NB803_798 := n21_; clear n0_ n1_ n2_ n3_ n4_ n5_ n6_ n7_ n8_ n9_ n10_ n11_ n12_ n13_ n14_ n15_ n16_ n17_ n18_ n19_ n20_ n21_; clear hb hbox hg; have hnb75 := NB803_779.out; have hnc75 := NB779_803.out; have hnb76 := NB803_780.out; have hnc76 := NB780_803.out; have hnb77 := NB803_781.out; have hnc77 := NB781_803.out; have hnb78 := NB803_782.out; have hnc78 := NB782_803.out; have hnb79 := NB803_793.out; have hnc79 := NB793_803.out; have hnb80 := NB803_798.out; have hnc80 := NB798_803.out; have hcz81_0 : w74.cell? ⟨gb803, 0, none⟩ = some (.int .u64 0) := (blk_cell BK803.out 0).trans rfl; have hcz81_1 : w74.cell? ⟨gb803, 1, none⟩ = some (.int .u64 0) := (blk_cell BK803.out 1).trans rfl; have hfz81_0 := blk_frozen BK803.out 0; have hfz81_1 := blk_frozen BK803.out 1; have hnb82 := NB779_781.out; have hnc82 := NB781_779.out; have hnb83 := NB779_782.out; have hnc83 := NB782_779.out; have hnb84 := NB779_793.out; have hnc84 := NB793_779.out; have hnb85 := NB779_798.out; have hnc85 := NB798_779.out; have hcz86_0 : w74.cell? ⟨gb779, 0, none⟩ = some (.int .u64 a0_0) := (blk_cell BK779.out 0).trans rfl; have hcz86_1 : w74.cell? ⟨gb779, 1, none⟩ = some (.int .u64 a0_1) := (blk_cell BK779.out 1).trans rfl; have hfz86_0 := blk_frozen BK779.out 0; have hfz86_1 := blk_frozen BK779.out 1) | ((with_reducible refine gC (f := 71) rfl ?_); refine goesY_ (some 77) Try.func71 #[.agg #[.int .u64 a0_0, .int .u64 a0_1], .agg #[.int .u64 t801, .int .u64 t802]] ?_; (with_reducible refine (twin_Sub.calls a0_0 a0_1 t801 t802 t804 t805 t806 _ A63.out).mono ?_); rintro e w87 ⟨rfl, hb⟩; refine ⟨_, rfl, ?_⟩; have n0_ := Aside0.mk (bB (g := gb779) (o := .cells #[.int .u64 a0_0, .int .u64 a0_1] 55 (0, 0)) (by (with_reducible repeat (first | refine bN ?_ _ | refine bD ?_ | refine bA ?_ _)); refine blk_far ?_ NB779_803.out _; (with_reducible repeat (first | refine bN ?_ _ | refine bD ?_ | refine bA ?_ _)); refine blk_far ?_ NB779_803.out _; (with_reducible repeat (first | refine bN ?_ _ | refine bD ?_ | refine bA ?_ _)); exact BK779.out) hb); have n1_ := Aside0.mk (bB (g := gb780) (o := .cells #[.int .u64 a1_0, .int .u64 a1_1] 55 (0, 0)) (by (with_reducible repeat (first | refine bN ?_ _ | refine bD ?_ | refine bA ?_ _)); refine blk_far ?_ NB780_803.out _; (with_reducible repeat (first | refine bN ?_ _ | refine bD ?_ | refine bA ?_ _)); refine blk_far ?_ NB780_803.out _; (with_reducible repeat (first | refine bN ?_ _ | refine bD ?_ | refine bA ?_ _)); exact BK780.out) hb); have n2_ := Aside0.mk (bB (g := gb781) (o := .cells #[.int .u64 0, .int .u64 0] 55 (0, 0)) (by (with_reducible repeat (first | refine bN ?_ _ | refine bD ?_ | refine bA ?_ _)); refine blk_far ?_ NB781_803.out _; (with_reducible repeat (first | refine bN ?_ _ | refine bD ?_ | refine bA ?_ _)); refine blk_far ?_ NB781_803.out _; (with_reducible repeat (first | refine bN ?_ _ | refine bD ?_ | refine bA ?_ _)); exact BK781.out) hb); have n3_ := Aside0.mk (bB (g := gb782) (o := .cells #[.int .u64 0, .int .u64 0] 55 (0, 0)) (by (with_reducible repeat (first | refine bN ?_ _ | refine bD ?_ | refine bA ?_ _)); refine blk_far ?_ NB782_803.out _; (with_reducible repeat (first | refine bN ?_ _ | refine bD ?_ | refine bA ?_ _)); refine blk_far ?_ NB782_803.out _; (with_reducible repeat (first | refine bN ?_ _ | refine bD ?_ | refine bA ?_ _)); exact BK782.out) hb); have n4_ := Aside0.mk (bB (g := gb793) (o := .cells #[.int .u64 t789, .int .u64 t790] 55 (0, 0)) (by (with_reducible repeat (first | refine bN ?_ _ | refine bD ?_ | refine bA ?_ _)); refine blk_far ?_ NB793_803.out _; (with_reducible repeat (first | refine bN ?_ _ | refine bD ?_ | refine bA ?_ _)); refine blk_far ?_ NB793_803.out _; (with_reducible repeat (first | refine bN ?_ _ | refine bD ?_ | refine bA ?_ _)); exact BK793.out) hb); have n5_ := Aside0.mk (bB (g := gb798) (o := .cells #[.int .u64 t794, .int .u64 t795] 55 (0, 0)) (by (with_reducible repeat (first | refine bN ?_ _ | refine bD ?_ | refine bA ?_ _)); refine blk_far ?_ NB798_803.out _; (with_reducible repeat (first | refine bN ?_ _ | refine bD ?_ | refine bA ?_ _)); refine blk_far ?_ NB798_803.out _; (with_reducible repeat (first | refine bN ?_ _ | refine bD ?_ | refine bA ?_ _)); exact BK798.out) hb); have n6_ := Aside0.mk (bB (g := gb803) (o := .cells #[.int .u64 t801, .int .u64 t802] 55 (0, 0)) (by (with_reducible repeat (first | refine bN ?_ _ | refine bD ?_ | refine bA ?_ _)); refine blk_put (cs := #[.int .u64 t801, .int .u64 0]) ?_ 1 _ rfl; (with_reducible repeat (first | refine bN ?_ _ | refine bD ?_ | refine bA ?_ _)); refine blk_put (cs := #[.int .u64 0, .int .u64 0]) ?_ 0 _ rfl; (with_reducible repeat (first | refine bN ?_ _ | refine bD ?_ | refine bA ?_ _)); exact BK803.out) hb); have n7_ := Aside0.mk (bS3 HB.out hb); clear BK779; clear BK780; clear BK781; clear BK782; clear BK793; clear BK798; clear BK803; clear HB; have BK779 := n0_; have BK780 := n1_; have BK781 := n2_; have BK782 := n3_; have BK793 := n4_; have BK798 := n5_; have BK803 := n6_; have HB := n7_; clear n0_ n1_ n2_ n3_ n4_ n5_ n6_ n7_; (try clear hb); (try clear hb2); (try clear hk); (try clear hi)) | ((with_reducible refine gD (N := 20) rfl ?_); refine bE3 20 #[.int .u64 0, .int .u64 0] 55 ?hr ?_; (case hr => first | (go_simp; done) | (go_simp; rfl)); intro gb807 hg w88 hbox hb; have n0_ := Aside0.mk (bB3 BK779.out hb); have n1_ := Aside0.mk (bB3 BK780.out hb); have n2_ := Aside0.mk (bB3 BK781.out hb); have n3_ := Aside0.mk (bB3 BK782.out hb); have n4_ := Aside0.mk (bB3 BK793.out hb); have n5_ := Aside0.mk (bB3 BK798.out hb); have n6_ := Aside0.mk (bB3 BK803.out hb); have n7_ := Aside0.mk (bS3 HB.out hb); have n8_ := Aside0.mk (hbox); have n9_ := Aside0.mk ((bZ3 hg HB.out)); have n10_ := Aside0.mk ((bZ3 hg HB.out)); have n11_ := Aside0.mk ((bL3 hg BK779.out)); have n12_ := Aside0.mk ((bG3 hg BK779.out)); have n13_ := Aside0.mk ((bL3 hg BK780.out)); have n14_ := Aside0.mk ((bG3 hg BK780.out)); have n15_ := Aside0.mk ((bL3 hg BK781.out)); have n16_ := Aside0.mk ((bG3 hg BK781.out)); have n17_ := Aside0.mk ((bL3 hg BK782.out)); have n18_ := Aside0.mk ((bG3 hg BK782.out)); have n19_ := Aside0.mk ((bL3 hg BK793.out)); have n20_ := Aside0.mk ((bG3 hg BK793.out)); have n21_ := Aside0.mk ((bL3 hg BK798.out)); have n22_ := Aside0.mk ((bG3 hg BK798.out)); have n23_ := Aside0.mk ((bL3 hg BK803.out)); have n24_ := Aside0.mk ((bG3 hg BK803.out)); clear BK779; clear BK780; clear BK781; clear BK782; clear BK793; clear BK798; clear BK803; clear HB; have BK779 := n0_; have BK780 := n1_; have BK781 := n2_; have BK782 := n3_; have BK793 := n4_; have BK798 := n5_; have BK803 := n6_; have HB := n7_; have BK807 := n8_; have GW807 := n9_; have GE807 := n10_; have NB779_807 := n11_; have NB807_779 := n12_; have NB780_807 := n13_; have NB807_780 := n14_; have NB781_807 := n15_; have NB807_781 := n16_; have NB782_807 := n17_; have NB807_782 := n18_; have NB793_807 := n19_; have NB807_793 := n20_; have NB798_807 := n21_; have NB807_798 := n22_; have NB803_807 := n23_; have NB807_803 := n24_; clear n0_ n1_ n2_ n3_ n4_ n5_ n6_ n7_ n8_ n9_ n10_ n11_ n12_ n13_ n14_ n15_ n16_ n17_ n18_ n19_ n20_ n21_ n22_ n23_ n24_; clear hb hbox hg; have hnb89 := NB807_779.out; have hnc89 := NB779_807.out; have hnb90 := NB807_780.out; have hnc90 := NB780_807.out; have hnb91 := NB807_781.out; have hnc91 := NB781_807.out; have hnb92 := NB807_782.out; have hnc92 := NB782_807.out; have hnb93 := NB807_793.out; have hnc93 := NB793_807.out; have hnb94 := NB807_798.out; have hnc94 := NB798_807.out; have hnb95 := NB807_803.out; have hnc95 := NB803_807.out; have hcz96_0 : w88.cell? ⟨gb807, 0, none⟩ = some (.int .u64 0) := (blk_cell BK807.out 0).trans rfl; have hcz96_1 : w88.cell? ⟨gb807, 1, none⟩ = some (.int .u64 0) := (blk_cell BK807.out 1).trans rfl; have hfz96_0 := blk_frozen BK807.out 0; have hfz96_1 := blk_frozen BK807.out 1; have hcz97_0 : w88.cell? ⟨gb780, 0, none⟩ = some (.int .u64 a1_0) := (blk_cell BK780.out 0).trans rfl; have hcz97_1 : w88.cell? ⟨gb780, 1, none⟩ = some (.int .u64 a1_1) := (blk_cell BK780.out 1).trans rfl; have hfz97_0 := blk_frozen BK780.out 0; have hfz97_1 := blk_frozen BK780.out 1) | ((with_reducible refine gC (f := 53) rfl ?_); refine goesY_ (some 82) Try.func53 #[.agg #[.int .u64 t804, .int .u64 t805], .agg #[.int .u64 a1_0, .int .u64 a1_1]] ?_; (with_reducible refine (twin_Cmp.calls t804 t805 a1_0 a1_1 t808 _ A64.out).mono ?_); rintro e w98 ⟨rfl, hb⟩; refine ⟨_, rfl, ?_⟩; have n0_ := Aside0.mk (bB (g := gb779) (o := .cells #[.int .u64 a0_0, .int .u64 a0_1] 55 (0, 0)) (by (with_reducible repeat (first | refine bN ?_ _ | refine bD ?_ | refine bA ?_ _)); refine blk_far ?_ NB779_807.out _; (with_reducible repeat (first | refine bN ?_ _ | refine bD ?_ | refine bA ?_ _)); refine blk_far ?_ NB779_807.out _; (with_reducible repeat (first | refine bN ?_ _ | refine bD ?_ | refine bA ?_ _)); exact BK779.out) hb); have n1_ := Aside0.mk (bB (g := gb780) (o := .cells #[.int .u64 a1_0, .int .u64 a1_1] 55 (0, 0)) (by (with_reducible repeat (first | refine bN ?_ _ | refine bD ?_ | refine bA ?_ _)); refine blk_far ?_ NB780_807.out _; (with_reducible repeat (first | refine bN ?_ _ | refine bD ?_ | refine bA ?_ _)); refine blk_far ?_ NB780_807.out _; (with_reducible repeat (first | refine bN ?_ _ | refine bD ?_ | refine bA ?_ _)); exact BK780.out) hb); have n2_ := Aside0.mk (bB (g := gb781) (o := .cells #[.int .u64 0, .int .u64 0] 55 (0, 0)) (by (with_reducible repeat (first | refine bN ?_ _ | refine bD ?_ | refine bA ?_ _)); refine blk_far ?_ NB781_807.out _; (with_reducible repeat (first | refine bN ?_ _ | refine bD ?_ | refine bA ?_ _)); refine blk_far ?_ NB781_807.out _; (with_reducible repeat (first | refine bN ?_ _ | refine bD ?_ | refine bA ?_ _)); exact BK781.out) hb); have n3_ := Aside0.mk (bB (g := gb782) (o := .cells #[.int .u64 0, .int .u64 0] 55 (0, 0)) (by (with_reducible repeat (first | refine bN ?_ _ | refine bD ?_ | refine bA ?_ _)); refine blk_far ?_ NB782_807.out _; (with_reducible repeat (first | refine bN ?_ _ | refine bD ?_ | refine bA ?_ _)); refine blk_far ?_ NB782_807.out _; (with_reducible repeat (first | refine bN ?_ _ | refine bD ?_ | refine bA ?_ _)); exact BK782.out) hb); have n4_ := Aside0.mk (bB (g := gb793) (o := .cells #[.int .u64 t789, .int .u64 t790] 55 (0, 0)) (by (with_reducible repeat (first | refine bN ?_ _ | refine bD ?_ | refine bA ?_ _)); refine blk_far ?_ NB793_807.out _; (with_reducible repeat (first | refine bN ?_ _ | refine bD ?_ | refine bA ?_ _)); refine blk_far ?_ NB793_807.out _; (with_reducible repeat (first | refine bN ?_ _ | refine bD ?_ | refine bA ?_ _)); exact BK793.out) hb); have n5_ := Aside0.mk (bB (g := gb798) (o := .cells #[.int .u64 t794, .int .u64 t795] 55 (0, 0)) (by (with_reducible repeat (first | refine bN ?_ _ | refine bD ?_ | refine bA ?_ _)); refine blk_far ?_ NB798_807.out _; (with_reducible repeat (first | refine bN ?_ _ | refine bD ?_ | refine bA ?_ _)); refine blk_far ?_ NB798_807.out _; (with_reducible repeat (first | refine bN ?_ _ | refine bD ?_ | refine bA ?_ _)); exact BK798.out) hb); have n6_ := Aside0.mk (bB (g := gb803) (o := .cells #[.int .u64 t801, .int .u64 t802] 55 (0, 0)) (by (with_reducible repeat (first | refine bN ?_ _ | refine bD ?_ | refine bA ?_ _)); refine blk_far ?_ NB803_807.out _; (with_reducible repeat (first | refine bN ?_ _ | refine bD ?_ | refine bA ?_ _)); refine blk_far ?_ NB803_807.out _; (with_reducible repeat (first | refine bN ?_ _ | refine bD ?_ | refine bA ?_ _)); exact BK803.out) hb); have n7_ := Aside0.mk (bB (g := gb807) (o := .cells #[.int .u64 t804, .int .u64 t805] 55 (0, 0)) (by (with_reducible repeat (first | refine bN ?_ _ | refine bD ?_ | refine bA ?_ _)); refine blk_put (cs := #[.int .u64 t804, .int .u64 0]) ?_ 1 _ rfl; (with_reducible repeat (first | refine bN ?_ _ | refine bD ?_ | refine bA ?_ _)); refine blk_put (cs := #[.int .u64 0, .int .u64 0]) ?_ 0 _ rfl; (with_reducible repeat (first | refine bN ?_ _ | refine bD ?_ | refine bA ?_ _)); exact BK807.out) hb); have n8_ := Aside0.mk (bS3 HB.out hb); clear BK779; clear BK780; clear BK781; clear BK782; clear BK793; clear BK798; clear BK803; clear BK807; clear HB; have BK779 := n0_; have BK780 := n1_; have BK781 := n2_; have BK782 := n3_; have BK793 := n4_; have BK798 := n5_; have BK803 := n6_; have BK807 := n7_; have HB := n8_; clear n0_ n1_ n2_ n3_ n4_ n5_ n6_ n7_ n8_; (try clear hb); (try clear hb2); (try clear hk); (try clear hi); have hcz99_0 : w98.cell? ⟨gb807, 0, none⟩ = some (.int .u64 t804) := (blk_cell BK807.out 0).trans rfl; have hcz99_1 : w98.cell? ⟨gb807, 1, none⟩ = some (.int .u64 t805) := (blk_cell BK807.out 1).trans rfl; have hfz99_0 := blk_frozen BK807.out 0; have hfz99_1 := blk_frozen BK807.out 1; have hcz100_0 : w98.cell? ⟨gb780, 0, none⟩ = some (.int .u64 a1_0) := (blk_cell BK780.out 0).trans rfl; have hcz100_1 : w98.cell? ⟨gb780, 1, none⟩ = some (.int .u64 a1_1) := (blk_cell BK780.out 1).trans rfl; have hfz100_0 := blk_frozen BK780.out 0; have hfz100_1 := blk_frozen BK780.out 1) | ((with_reducible refine gC (f := 71) rfl ?_); refine goesY_ (some 89) Try.func71 #[.agg #[.int .u64 t804, .int .u64 t805], .agg #[.int .u64 a1_0, .int .u64 a1_1]] ?_; (with_reducible refine (twin_Sub.calls t804 t805 a1_0 a1_1 t809 t810 t811 _ A66.out).mono ?_); rintro e w101 ⟨rfl, hb⟩; refine ⟨_, rfl, ?_⟩; have n0_ := Aside0.mk (bB3 BK779.out hb); have n1_ := Aside0.mk (bB3 BK780.out hb); have n2_ := Aside0.mk (bB3 BK781.out hb); have n3_ := Aside0.mk (bB3 BK782.out hb); have n4_ := Aside0.mk (bB3 BK793.out hb); have n5_ := Aside0.mk (bB3 BK798.out hb); have n6_ := Aside0.mk (bB3 BK803.out hb); have n7_ := Aside0.mk (bB3 BK807.out hb); have n8_ := Aside0.mk (bS3 HB.out hb); clear BK779; clear BK780; clear BK781; clear BK782; clear BK793; clear BK798; clear BK803; clear BK807; clear HB; have BK779 := n0_; have BK780 := n1_; have BK781 := n2_; have BK782 := n3_; have BK793 := n4_; have BK798 := n5_; have BK803 := n6_; have BK807 := n7_; have HB := n8_; clear n0_ n1_ n2_ n3_ n4_ n5_ n6_ n7_ n8_; (try clear hb); (try clear hb2); (try clear hk); (try clear hi); have hcz102_0 : w101.cell? ⟨gb807, 0, none⟩ = some (.int .u64 t804) := (blk_cell BK807.out 0).trans rfl; have hcz102_1 : w101.cell? ⟨gb807, 1, none⟩ = some (.int .u64 t805) := (blk_cell BK807.out 1).trans rfl; have hfz102_0 := blk_frozen BK807.out 0; have hfz102_1 := blk_frozen BK807.out 1))
            have n0_ : Aside0 (((w101.setCell ⟨gb807, 0, none⟩ (.int .u64 t809)).setCell ⟨gb807, 1, none⟩ (.int .u64 t810)).heap[gb779]? = some (.cells #[.int .u64 a0_0, .int .u64 a0_1] 55 (0, 0))) := ⟨by (with_reducible repeat (first | refine bN ?_ _ | refine bD ?_ | refine bA ?_ _)); refine blk_far ?_ NB779_807.out _; (with_reducible repeat (first | refine bN ?_ _ | refine bD ?_ | refine bA ?_ _)); refine blk_far ?_ NB779_807.out _; (with_reducible repeat (first | refine bN ?_ _ | refine bD ?_ | refine bA ?_ _)); exact BK779.out⟩
            have n1_ : Aside0 (((w101.setCell ⟨gb807, 0, none⟩ (.int .u64 t809)).setCell ⟨gb807, 1, none⟩ (.int .u64 t810)).heap[gb780]? = some (.cells #[.int .u64 a1_0, .int .u64 a1_1] 55 (0, 0))) := ⟨by (with_reducible repeat (first | refine bN ?_ _ | refine bD ?_ | refine bA ?_ _)); refine blk_far ?_ NB780_807.out _; (with_reducible repeat (first | refine bN ?_ _ | refine bD ?_ | refine bA ?_ _)); refine blk_far ?_ NB780_807.out _; (with_reducible repeat (first | refine bN ?_ _ | refine bD ?_ | refine bA ?_ _)); exact BK780.out⟩
            have n2_ : Aside0 (((w101.setCell ⟨gb807, 0, none⟩ (.int .u64 t809)).setCell ⟨gb807, 1, none⟩ (.int .u64 t810)).heap[gb781]? = some (.cells #[.int .u64 0, .int .u64 0] 55 (0, 0))) := ⟨by (with_reducible repeat (first | refine bN ?_ _ | refine bD ?_ | refine bA ?_ _)); refine blk_far ?_ NB781_807.out _; (with_reducible repeat (first | refine bN ?_ _ | refine bD ?_ | refine bA ?_ _)); refine blk_far ?_ NB781_807.out _; (with_reducible repeat (first | refine bN ?_ _ | refine bD ?_ | refine bA ?_ _)); exact BK781.out⟩
            have n3_ : Aside0 (((w101.setCell ⟨gb807, 0, none⟩ (.int .u64 t809)).setCell ⟨gb807, 1, none⟩ (.int .u64 t810)).heap[gb782]? = some (.cells #[.int .u64 0, .int .u64 0] 55 (0, 0))) := ⟨by (with_reducible repeat (first | refine bN ?_ _ | refine bD ?_ | refine bA ?_ _)); refine blk_far ?_ NB782_807.out _; (with_reducible repeat (first | refine bN ?_ _ | refine bD ?_ | refine bA ?_ _)); refine blk_far ?_ NB782_807.out _; (with_reducible repeat (first | refine bN ?_ _ | refine bD ?_ | refine bA ?_ _)); exact BK782.out⟩
            have n4_ : Aside0 (((w101.setCell ⟨gb807, 0, none⟩ (.int .u64 t809)).setCell ⟨gb807, 1, none⟩ (.int .u64 t810)).heap[gb793]? = some (.cells #[.int .u64 t789, .int .u64 t790] 55 (0, 0))) := ⟨by (with_reducible repeat (first | refine bN ?_ _ | refine bD ?_ | refine bA ?_ _)); refine blk_far ?_ NB793_807.out _; (with_reducible repeat (first | refine bN ?_ _ | refine bD ?_ | refine bA ?_ _)); refine blk_far ?_ NB793_807.out _; (with_reducible repeat (first | refine bN ?_ _ | refine bD ?_ | refine bA ?_ _)); exact BK793.out⟩
            have n5_ : Aside0 (((w101.setCell ⟨gb807, 0, none⟩ (.int .u64 t809)).setCell ⟨gb807, 1, none⟩ (.int .u64 t810)).heap[gb798]? = some (.cells #[.int .u64 t794, .int .u64 t795] 55 (0, 0))) := ⟨by (with_reducible repeat (first | refine bN ?_ _ | refine bD ?_ | refine bA ?_ _)); refine blk_far ?_ NB798_807.out _; (with_reducible repeat (first | refine bN ?_ _ | refine bD ?_ | refine bA ?_ _)); refine blk_far ?_ NB798_807.out _; (with_reducible repeat (first | refine bN ?_ _ | refine bD ?_ | refine bA ?_ _)); exact BK798.out⟩
            have n6_ : Aside0 (((w101.setCell ⟨gb807, 0, none⟩ (.int .u64 t809)).setCell ⟨gb807, 1, none⟩ (.int .u64 t810)).heap[gb803]? = some (.cells #[.int .u64 t801, .int .u64 t802] 55 (0, 0))) := ⟨by (with_reducible repeat (first | refine bN ?_ _ | refine bD ?_ | refine bA ?_ _)); refine blk_far ?_ NB803_807.out _; (with_reducible repeat (first | refine bN ?_ _ | refine bD ?_ | refine bA ?_ _)); refine blk_far ?_ NB803_807.out _; (with_reducible repeat (first | refine bN ?_ _ | refine bD ?_ | refine bA ?_ _)); exact BK803.out⟩
            have n7_ : Aside0 (((w101.setCell ⟨gb807, 0, none⟩ (.int .u64 t809)).setCell ⟨gb807, 1, none⟩ (.int .u64 t810)).heap[gb807]? = some (.cells #[.int .u64 t809, .int .u64 t810] 55 (0, 0))) := ⟨by (with_reducible repeat (first | refine bN ?_ _ | refine bD ?_ | refine bA ?_ _)); refine blk_put (cs := #[.int .u64 t809, .int .u64 t805]) ?_ 1 _ rfl; (with_reducible repeat (first | refine bN ?_ _ | refine bD ?_ | refine bA ?_ _)); refine blk_put (cs := #[.int .u64 t804, .int .u64 t805]) ?_ 0 _ rfl; (with_reducible repeat (first | refine bN ?_ _ | refine bD ?_ | refine bA ?_ _)); exact BK807.out⟩
            have n8_ : Aside0 (Below w.heap.size w ((w101.setCell ⟨gb807, 0, none⟩ (.int .u64 t809)).setCell ⟨gb807, 1, none⟩ (.int .u64 t810))) := ⟨by repeat (first | (with_reducible first | exact HB.out | apply pA | apply pN | apply p1 | refine pS ?_ GE779.out | refine pS ?_ GE780.out | refine pS ?_ GE781.out | refine pS ?_ GE782.out | refine pS ?_ GE793.out | refine pS ?_ GE798.out | refine pS ?_ GE803.out | refine pS ?_ GE807.out) | exact HB.out)⟩
            (try clear BK779)
            (try clear BK780)
            (try clear BK781)
            (try clear BK782)
            (try clear BK793)
            (try clear BK798)
            (try clear BK803)
            (try clear BK807)
            (try clear HB)
            generalize ((w101.setCell ⟨gb807, 0, none⟩ (.int .u64 t809)).setCell ⟨gb807, 1, none⟩ (.int .u64 t810)) = w103 at n0_ n1_ n2_ n3_ n4_ n5_ n6_ n7_ n8_ ⊢
            have BK779 := n0_
            have BK780 := n1_
            have BK781 := n2_
            have BK782 := n3_
            have BK793 := n4_
            have BK798 := n5_
            have BK803 := n6_
            have BK807 := n7_
            have HB := n8_
            clear n0_ n1_ n2_ n3_ n4_ n5_ n6_ n7_ n8_
            have n0_ := Aside0.mk (bD BK779.out)
            have n1_ := Aside0.mk (bD BK780.out)
            have n2_ := Aside0.mk (bD BK781.out)
            have n3_ := Aside0.mk (bD BK782.out)
            have n4_ := Aside0.mk (bD BK793.out)
            have n5_ := Aside0.mk (bD BK798.out)
            have n6_ := Aside0.mk (bD BK803.out)
            have n7_ := Aside0.mk (bD BK807.out)
            have n8_ := Aside0.mk (p1 HB.out)
            clear BK779
            clear BK780
            clear BK781
            clear BK782
            clear BK793
            clear BK798
            clear BK803
            clear BK807
            clear HB
            have BK779 := n0_
            have BK780 := n1_
            have BK781 := n2_
            have BK782 := n3_
            have BK793 := n4_
            have BK798 := n5_
            have BK803 := n6_
            have BK807 := n7_
            have HB := n8_
            clear n0_ n1_ n2_ n3_ n4_ n5_ n6_ n7_ n8_
            refine start_ (n := 6) (S := fun w' => w'.cell? ⟨gb807, 0, none⟩ = some (.int .u64 t809) ∧ w'.cell? ⟨gb807, 1, none⟩ = some (.int .u64 t810)) (ds := []) #[false, false, false, false, false, false] (by kernel_rfl) rfl rfl ⟨(blk_cell BK807.out 0).trans rfl, (blk_cell BK807.out 1).trans rfl⟩ (fun hHeld => ?_)
            generalize w103.drew = w104 at BK779 BK780 BK781 BK782 BK793 BK798 BK803 BK807 HB hHeld ⊢
            refine pure_ (i := 0) (N := some 92) (v := ?_) (a' := ?_) #[true, false, false, false, false, false] rfl rfl (by kernel_rfl) (fun _ _ _ h => h) (Or.inl ⟨by rfl, ?_⟩) ?_ ?_
            rotate_left
            · intro w'
              go_simp
              with_reducible rfl
            rotate_left
            · simp only [Act.put, List.setIfInBounds_toArray, List.set_cons_zero, List.set_cons_succ, i64_w, i32_w]
              rfl
            refine pure_ (i := 1) (N := some 93) (v := ?_) (a' := ?_) #[true, true, false, false, false, false] rfl rfl (by kernel_rfl) (fun _ _ _ h => h) (Or.inl ⟨by rfl, ?_⟩) ?_ ?_
            rotate_left
            · intro w'
              go_simp
              with_reducible rfl
            rotate_left
            · simp only [Act.put, List.setIfInBounds_toArray, List.set_cons_zero, List.set_cons_succ, i64_w, i32_w]
              rfl
            refine take_ (i := 2) (N := some 94) (v := ?_) (a' := ?_) #[true, true, true, false, false, false] rfl rfl (by kernel_rfl) (fun _ _ _ h => h) (Or.inl ⟨by rfl, ?_⟩) hHeld ?_ ?_
            rotate_left
            · rintro w' ⟨s0, s1⟩
              go_simp
              with_reducible rfl
            rotate_left
            · simp only [Act.put, List.setIfInBounds_toArray, List.set_cons_zero, List.set_cons_succ, i64_w, i32_w]
              rfl
            refine one_ (i := 3) (N := none) #[true, true, true, true, false, false] rfl rfl (by kernel_rfl) (by decide) (fun K hK => ?_)
            have hs105 : w104.cell? ⟨gb781, 0, none⟩ = some (.int .u64 0) := (blk_cell BK781.out 0).trans rfl
            have hfs105 := blk_frozen BK781.out 0
            have hns105_0 := NB779_781.out
            have hns105_1 := NB780_781.out
            have hns105_3 := NB782_781.out
            have hns105_4 := NB793_781.out
            have hns105_5 := NB798_781.out
            have hns105_6 := NB803_781.out
            have hns105_7 := NB807_781.out
            have hms105_0 := NB781_779.out
            have hms105_1 := NB781_780.out
            have hms105_3 := NB781_782.out
            have hms105_4 := NB781_793.out
            have hms105_5 := NB781_798.out
            have hms105_6 := NB781_803.out
            have hms105_7 := NB781_807.out
            have hs106 : w104.cell? ⟨gb781, 1, none⟩ = some (.int .u64 0) := (blk_cell BK781.out 1).trans rfl
            have hfs106 := blk_frozen BK781.out 1
            have hns106_0 := NB779_781.out
            have hns106_1 := NB780_781.out
            have hns106_3 := NB782_781.out
            have hns106_4 := NB793_781.out
            have hns106_5 := NB798_781.out
            have hns106_6 := NB803_781.out
            have hns106_7 := NB807_781.out
            have hms106_0 := NB781_779.out
            have hms106_1 := NB781_780.out
            have hms106_3 := NB781_782.out
            have hms106_4 := NB781_793.out
            have hms106_5 := NB781_798.out
            have hms106_6 := NB781_803.out
            have hms106_7 := NB781_807.out
            refine skip_ (w1 := ?_) (by rfl) rfl ?_ ?_
            rotate_left
            · go_simp
              rfl
            refine hK.out _ _ ⟨((cell_far (p := ⟨gb781, _, none⟩) NB807_781.out _).trans (((cell_far (p := ⟨gb781, _, none⟩) NB807_781.out _).trans (hHeld.1)))), ((cell_far (p := ⟨gb781, _, none⟩) NB807_781.out _).trans (((cell_far (p := ⟨gb781, _, none⟩) NB807_781.out _).trans (hHeld.2))))⟩ (fun hHeld => ?_)
            clear hK K
            refine one_ (i := 4) (N := none) #[true, true, true, true, true, false] rfl rfl (by kernel_rfl) (by decide) (fun K hK => ?_)
            have hs107 : w104.cell? ⟨gb782, 0, none⟩ = some (.int .u64 0) := (blk_cell BK782.out 0).trans rfl
            have hfs107 := blk_frozen BK782.out 0
            have hns107_0 := NB779_782.out
            have hns107_1 := NB780_782.out
            have hns107_2 := NB781_782.out
            have hns107_4 := NB793_782.out
            have hns107_5 := NB798_782.out
            have hns107_6 := NB803_782.out
            have hns107_7 := NB807_782.out
            have hms107_0 := NB782_779.out
            have hms107_1 := NB782_780.out
            have hms107_2 := NB782_781.out
            have hms107_4 := NB782_793.out
            have hms107_5 := NB782_798.out
            have hms107_6 := NB782_803.out
            have hms107_7 := NB782_807.out
            have hs108 : w104.cell? ⟨gb782, 1, none⟩ = some (.int .u64 0) := (blk_cell BK782.out 1).trans rfl
            have hfs108 := blk_frozen BK782.out 1
            have hns108_0 := NB779_782.out
            have hns108_1 := NB780_782.out
            have hns108_2 := NB781_782.out
            have hns108_4 := NB793_782.out
            have hns108_5 := NB798_782.out
            have hns108_6 := NB803_782.out
            have hns108_7 := NB807_782.out
            have hms108_0 := NB782_779.out
            have hms108_1 := NB782_780.out
            have hms108_2 := NB782_781.out
            have hms108_4 := NB782_793.out
            have hms108_5 := NB782_798.out
            have hms108_6 := NB782_803.out
            have hms108_7 := NB782_807.out
            refine skip_ (w1 := ?_) (by rfl) rfl ?_ ?_
            rotate_left
            · go_simp
              rfl
            refine hK.out _ _ ⟨((cell_far (p := ⟨gb782, _, none⟩) NB807_782.out _).trans (((cell_far (p := ⟨gb782, _, none⟩) NB807_782.out _).trans (hHeld.1)))), ((cell_far (p := ⟨gb782, _, none⟩) NB807_782.out _).trans (((cell_far (p := ⟨gb782, _, none⟩) NB807_782.out _).trans (hHeld.2))))⟩ (fun hHeld => ?_)
            clear hK K
            refine pure_ (i := 5) (N := some 6) (v := ?_) (a' := ?_) #[true, true, true, true, true, true] rfl rfl (by kernel_rfl) (fun _ _ _ h => h) (Or.inl ⟨by rfl, ?_⟩) ?_ ?_
            rotate_left
            · intro w'
              go_simp
              with_reducible rfl
            rotate_left
            · simp only [Act.put, List.setIfInBounds_toArray, List.set_cons_zero, List.set_cons_succ, i64_w, i32_w]
              rfl
            refine done_ (by kernel_rfl) ?_
            try go_wp2
            refine bodyPost_ret (results_list (rs := [.cell 4 55, .cell 5 55, .tmp 6]) rfl (by simp) (.cell gb781 55 #[.int .u64 0, .int .u64 (IntKind.u64.wrap (x17_32 + 1))] (0, 0) _ rfl (by (with_reducible repeat (first | refine bN ?_ _ | refine bD ?_ | refine bA ?_ _)); refine blk_far ?_ NB781_782.out _; (with_reducible repeat (first | refine bN ?_ _ | refine bD ?_ | refine bA ?_ _)); refine blk_far ?_ NB781_782.out _; (with_reducible repeat (first | refine bN ?_ _ | refine bD ?_ | refine bA ?_ _)); refine blk_put (cs := #[.int .u64 0, .int .u64 0]) ?_ 1 _ rfl; (with_reducible repeat (first | refine bN ?_ _ | refine bD ?_ | refine bA ?_ _)); refine blk_put (cs := #[.int .u64 0, .int .u64 0]) ?_ 0 _ rfl; (with_reducible repeat (first | refine bN ?_ _ | refine bD ?_ | refine bA ?_ _)); exact BK781.out) Try.underlying55 rfl (by kernel_rfl) (.cell gb782 55 #[.int .u64 t809, .int .u64 t810] (0, 0) _ rfl (by (with_reducible repeat (first | refine bN ?_ _ | refine bD ?_ | refine bA ?_ _)); refine blk_put (cs := #[.int .u64 t809, .int .u64 0]) ?_ 1 _ rfl; (with_reducible repeat (first | refine bN ?_ _ | refine bD ?_ | refine bA ?_ _)); refine blk_put (cs := #[.int .u64 0, .int .u64 0]) ?_ 0 _ rfl; (with_reducible repeat (first | refine bN ?_ _ | refine bD ?_ | refine bA ?_ _)); refine blk_far ?_ NB782_781.out _; (with_reducible repeat (first | refine bN ?_ _ | refine bD ?_ | refine bA ?_ _)); refine blk_far ?_ NB782_781.out _; (with_reducible repeat (first | refine bN ?_ _ | refine bD ?_ | refine bA ?_ _)); exact BK782.out) Try.underlying55 rfl (by kernel_rfl) (.tmp .nil)))) rfl ?_
            exact ⟨by first | rfl | (simp [errW_none, errW_some] <;> rfl) | (simp only [← hji30, ← hji32]; first | rfl | (simp [errW_none, errW_some] <;> rfl)) | (simp [*, errW_none, errW_some] <;> rfl), by repeat (first | (with_reducible first | exact HB.out | apply pA | apply pN | apply p1 | refine pS ?_ GE779.out | refine pS ?_ GE780.out | refine pS ?_ GE781.out | refine pS ?_ GE782.out | refine pS ?_ GE793.out | refine pS ?_ GE798.out | refine pS ?_ GE803.out | refine pS ?_ GE807.out) | exact HB.out)⟩
          · rw [if_neg c65] at H
            have c65b0 : decide (0 ≤ t808) = false := decide_eq_false c65
            clear c65
            simp only [Option.some.injEq, Prod.mk.injEq] at H
            obtain ⟨rfl, rfl, rfl, rfl, rfl⟩ := H
            have hnb109 := NB780_779.out
            have hnc109 := NB779_780.out
            have hnb110 := NB780_781.out
            have hnc110 := NB781_780.out
            have hnb111 := NB780_782.out
            have hnc111 := NB782_780.out
            have hnb112 := NB780_793.out
            have hnc112 := NB793_780.out
            have hnb113 := NB780_798.out
            have hnc113 := NB798_780.out
            have hcz114_0 : wc.cell? ⟨gb780, 0, none⟩ = some (.int .u64 a1_0) := (blk_cell BK780.out 0).trans rfl
            have hcz114_1 : wc.cell? ⟨gb780, 1, none⟩ = some (.int .u64 a1_1) := (blk_cell BK780.out 1).trans rfl
            have hfz114_0 := blk_frozen BK780.out 0
            have hfz114_1 := blk_frozen BK780.out 1
            try go_wp2_with (first | ((with_reducible refine gC (f := 86) rfl ?_); refine goesY_ (some 73) Try.func86 #[.agg #[.int .u64 a1_0, .int .u64 a1_1], .int .u64 x17_32] ?_; (with_reducible refine (part_times.calls a1_0 a1_1 x17_32 t801 t802 _ A62.out).mono ?_); rintro e w115 ⟨rfl, hb⟩; refine ⟨_, rfl, ?_⟩; have n0_ := Aside0.mk (bB3 BK779.out hb); have n1_ := Aside0.mk (bB3 BK780.out hb); have n2_ := Aside0.mk (bB3 BK781.out hb); have n3_ := Aside0.mk (bB3 BK782.out hb); have n4_ := Aside0.mk (bB3 BK793.out hb); have n5_ := Aside0.mk (bB3 BK798.out hb); have n6_ := Aside0.mk (bS3 HB.out hb); clear BK779; clear BK780; clear BK781; clear BK782; clear BK793; clear BK798; clear HB; have BK779 := n0_; have BK780 := n1_; have BK781 := n2_; have BK782 := n3_; have BK793 := n4_; have BK798 := n5_; have HB := n6_; clear n0_ n1_ n2_ n3_ n4_ n5_ n6_; (try clear hb); (try clear hb2); (try clear hk); (try clear hi)) | ((with_reducible refine gD (N := 19) rfl ?_); refine bE3 19 #[.int .u64 0, .int .u64 0] 55 ?hr ?_; (case hr => first | (go_simp; done) | (go_simp; rfl)); intro gb803 hg w116 hbox hb; have n0_ := Aside0.mk (bB3 BK779.out hb); have n1_ := Aside0.mk (bB3 BK780.out hb); have n2_ := Aside0.mk (bB3 BK781.out hb); have n3_ := Aside0.mk (bB3 BK782.out hb); have n4_ := Aside0.mk (bB3 BK793.out hb); have n5_ := Aside0.mk (bB3 BK798.out hb); have n6_ := Aside0.mk (bS3 HB.out hb); have n7_ := Aside0.mk (hbox); have n8_ := Aside0.mk ((bZ3 hg HB.out)); have n9_ := Aside0.mk ((bZ3 hg HB.out)); have n10_ := Aside0.mk ((bL3 hg BK779.out)); have n11_ := Aside0.mk ((bG3 hg BK779.out)); have n12_ := Aside0.mk ((bL3 hg BK780.out)); have n13_ := Aside0.mk ((bG3 hg BK780.out)); have n14_ := Aside0.mk ((bL3 hg BK781.out)); have n15_ := Aside0.mk ((bG3 hg BK781.out)); have n16_ := Aside0.mk ((bL3 hg BK782.out)); have n17_ := Aside0.mk ((bG3 hg BK782.out)); have n18_ := Aside0.mk ((bL3 hg BK793.out)); have n19_ := Aside0.mk ((bG3 hg BK793.out)); have n20_ := Aside0.mk ((bL3 hg BK798.out)); have n21_ := Aside0.mk ((bG3 hg BK798.out)); clear BK779; clear BK780; clear BK781; clear BK782; clear BK793; clear BK798; clear HB; have BK779 := n0_; have BK780 := n1_; have BK781 := n2_; have BK782 := n3_; have BK793 := n4_; have BK798 := n5_; have HB := n6_; have BK803 := n7_; have GW803 := n8_; have GE803 := n9_; have NB779_803 := n10_; have NB803_779 := n11_; have NB780_803 := n12_; have NB803_780 := n13_; have NB781_803 := n14_; have NB803_781 := n15_; have NB782_803 := n16_; have NB803_782 := n17_; have NB793_803 := n18_; have NB803_793 := n19_; have NB798_803 := n20_; have NB803_798 := n21_; clear n0_ n1_ n2_ n3_ n4_ n5_ n6_ n7_ n8_ n9_ n10_ n11_ n12_ n13_ n14_ n15_ n16_ n17_ n18_ n19_ n20_ n21_; clear hb hbox hg; have hnb117 := NB803_779.out; have hnc117 := NB779_803.out; have hnb118 := NB803_780.out; have hnc118 := NB780_803.out; have hnb119 := NB803_781.out; have hnc119 := NB781_803.out; have hnb120 := NB803_782.out; have hnc120 := NB782_803.out; have hnb121 := NB803_793.out; have hnc121 := NB793_803.out; have hnb122 := NB803_798.out; have hnc122 := NB798_803.out; have hcz123_0 : w116.cell? ⟨gb803, 0, none⟩ = some (.int .u64 0) := (blk_cell BK803.out 0).trans rfl; have hcz123_1 : w116.cell? ⟨gb803, 1, none⟩ = some (.int .u64 0) := (blk_cell BK803.out 1).trans rfl; have hfz123_0 := blk_frozen BK803.out 0; have hfz123_1 := blk_frozen BK803.out 1; have hnb124 := NB779_781.out; have hnc124 := NB781_779.out; have hnb125 := NB779_782.out; have hnc125 := NB782_779.out; have hnb126 := NB779_793.out; have hnc126 := NB793_779.out; have hnb127 := NB779_798.out; have hnc127 := NB798_779.out; have hcz128_0 : w116.cell? ⟨gb779, 0, none⟩ = some (.int .u64 a0_0) := (blk_cell BK779.out 0).trans rfl; have hcz128_1 : w116.cell? ⟨gb779, 1, none⟩ = some (.int .u64 a0_1) := (blk_cell BK779.out 1).trans rfl; have hfz128_0 := blk_frozen BK779.out 0; have hfz128_1 := blk_frozen BK779.out 1) | ((with_reducible refine gC (f := 71) rfl ?_); refine goesY_ (some 77) Try.func71 #[.agg #[.int .u64 a0_0, .int .u64 a0_1], .agg #[.int .u64 t801, .int .u64 t802]] ?_; (with_reducible refine (twin_Sub.calls a0_0 a0_1 t801 t802 t804 t805 t806 _ A63.out).mono ?_); rintro e w129 ⟨rfl, hb⟩; refine ⟨_, rfl, ?_⟩; have n0_ := Aside0.mk (bB (g := gb779) (o := .cells #[.int .u64 a0_0, .int .u64 a0_1] 55 (0, 0)) (by (with_reducible repeat (first | refine bN ?_ _ | refine bD ?_ | refine bA ?_ _)); refine blk_far ?_ NB779_803.out _; (with_reducible repeat (first | refine bN ?_ _ | refine bD ?_ | refine bA ?_ _)); refine blk_far ?_ NB779_803.out _; (with_reducible repeat (first | refine bN ?_ _ | refine bD ?_ | refine bA ?_ _)); exact BK779.out) hb); have n1_ := Aside0.mk (bB (g := gb780) (o := .cells #[.int .u64 a1_0, .int .u64 a1_1] 55 (0, 0)) (by (with_reducible repeat (first | refine bN ?_ _ | refine bD ?_ | refine bA ?_ _)); refine blk_far ?_ NB780_803.out _; (with_reducible repeat (first | refine bN ?_ _ | refine bD ?_ | refine bA ?_ _)); refine blk_far ?_ NB780_803.out _; (with_reducible repeat (first | refine bN ?_ _ | refine bD ?_ | refine bA ?_ _)); exact BK780.out) hb); have n2_ := Aside0.mk (bB (g := gb781) (o := .cells #[.int .u64 0, .int .u64 0] 55 (0, 0)) (by (with_reducible repeat (first | refine bN ?_ _ | refine bD ?_ | refine bA ?_ _)); refine blk_far ?_ NB781_803.out _; (with_reducible repeat (first | refine bN ?_ _ | refine bD ?_ | refine bA ?_ _)); refine blk_far ?_ NB781_803.out _; (with_reducible repeat (first | refine bN ?_ _ | refine bD ?_ | refine bA ?_ _)); exact BK781.out) hb); have n3_ := Aside0.mk (bB (g := gb782) (o := .cells #[.int .u64 0, .int .u64 0] 55 (0, 0)) (by (with_reducible repeat (first | refine bN ?_ _ | refine bD ?_ | refine bA ?_ _)); refine blk_far ?_ NB782_803.out _; (with_reducible repeat (first | refine bN ?_ _ | refine bD ?_ | refine bA ?_ _)); refine blk_far ?_ NB782_803.out _; (with_reducible repeat (first | refine bN ?_ _ | refine bD ?_ | refine bA ?_ _)); exact BK782.out) hb); have n4_ := Aside0.mk (bB (g := gb793) (o := .cells #[.int .u64 t789, .int .u64 t790] 55 (0, 0)) (by (with_reducible repeat (first | refine bN ?_ _ | refine bD ?_ | refine bA ?_ _)); refine blk_far ?_ NB793_803.out _; (with_reducible repeat (first | refine bN ?_ _ | refine bD ?_ | refine bA ?_ _)); refine blk_far ?_ NB793_803.out _; (with_reducible repeat (first | refine bN ?_ _ | refine bD ?_ | refine bA ?_ _)); exact BK793.out) hb); have n5_ := Aside0.mk (bB (g := gb798) (o := .cells #[.int .u64 t794, .int .u64 t795] 55 (0, 0)) (by (with_reducible repeat (first | refine bN ?_ _ | refine bD ?_ | refine bA ?_ _)); refine blk_far ?_ NB798_803.out _; (with_reducible repeat (first | refine bN ?_ _ | refine bD ?_ | refine bA ?_ _)); refine blk_far ?_ NB798_803.out _; (with_reducible repeat (first | refine bN ?_ _ | refine bD ?_ | refine bA ?_ _)); exact BK798.out) hb); have n6_ := Aside0.mk (bB (g := gb803) (o := .cells #[.int .u64 t801, .int .u64 t802] 55 (0, 0)) (by (with_reducible repeat (first | refine bN ?_ _ | refine bD ?_ | refine bA ?_ _)); refine blk_put (cs := #[.int .u64 t801, .int .u64 0]) ?_ 1 _ rfl; (with_reducible repeat (first | refine bN ?_ _ | refine bD ?_ | refine bA ?_ _)); refine blk_put (cs := #[.int .u64 0, .int .u64 0]) ?_ 0 _ rfl; (with_reducible repeat (first | refine bN ?_ _ | refine bD ?_ | refine bA ?_ _)); exact BK803.out) hb); have n7_ := Aside0.mk (bS3 HB.out hb); clear BK779; clear BK780; clear BK781; clear BK782; clear BK793; clear BK798; clear BK803; clear HB; have BK779 := n0_; have BK780 := n1_; have BK781 := n2_; have BK782 := n3_; have BK793 := n4_; have BK798 := n5_; have BK803 := n6_; have HB := n7_; clear n0_ n1_ n2_ n3_ n4_ n5_ n6_ n7_; (try clear hb); (try clear hb2); (try clear hk); (try clear hi)) | ((with_reducible refine gD (N := 20) rfl ?_); refine bE3 20 #[.int .u64 0, .int .u64 0] 55 ?hr ?_; (case hr => first | (go_simp; done) | (go_simp; rfl)); intro gb807 hg w130 hbox hb; have n0_ := Aside0.mk (bB3 BK779.out hb); have n1_ := Aside0.mk (bB3 BK780.out hb); have n2_ := Aside0.mk (bB3 BK781.out hb); have n3_ := Aside0.mk (bB3 BK782.out hb); have n4_ := Aside0.mk (bB3 BK793.out hb); have n5_ := Aside0.mk (bB3 BK798.out hb); have n6_ := Aside0.mk (bB3 BK803.out hb); have n7_ := Aside0.mk (bS3 HB.out hb); have n8_ := Aside0.mk (hbox); have n9_ := Aside0.mk ((bZ3 hg HB.out)); have n10_ := Aside0.mk ((bZ3 hg HB.out)); have n11_ := Aside0.mk ((bL3 hg BK779.out)); have n12_ := Aside0.mk ((bG3 hg BK779.out)); have n13_ := Aside0.mk ((bL3 hg BK780.out)); have n14_ := Aside0.mk ((bG3 hg BK780.out)); have n15_ := Aside0.mk ((bL3 hg BK781.out)); have n16_ := Aside0.mk ((bG3 hg BK781.out)); have n17_ := Aside0.mk ((bL3 hg BK782.out)); have n18_ := Aside0.mk ((bG3 hg BK782.out)); have n19_ := Aside0.mk ((bL3 hg BK793.out)); have n20_ := Aside0.mk ((bG3 hg BK793.out)); have n21_ := Aside0.mk ((bL3 hg BK798.out)); have n22_ := Aside0.mk ((bG3 hg BK798.out)); have n23_ := Aside0.mk ((bL3 hg BK803.out)); have n24_ := Aside0.mk ((bG3 hg BK803.out)); clear BK779; clear BK780; clear BK781; clear BK782; clear BK793; clear BK798; clear BK803; clear HB; have BK779 := n0_; have BK780 := n1_; have BK781 := n2_; have BK782 := n3_; have BK793 := n4_; have BK798 := n5_; have BK803 := n6_; have HB := n7_; have BK807 := n8_; have GW807 := n9_; have GE807 := n10_; have NB779_807 := n11_; have NB807_779 := n12_; have NB780_807 := n13_; have NB807_780 := n14_; have NB781_807 := n15_; have NB807_781 := n16_; have NB782_807 := n17_; have NB807_782 := n18_; have NB793_807 := n19_; have NB807_793 := n20_; have NB798_807 := n21_; have NB807_798 := n22_; have NB803_807 := n23_; have NB807_803 := n24_; clear n0_ n1_ n2_ n3_ n4_ n5_ n6_ n7_ n8_ n9_ n10_ n11_ n12_ n13_ n14_ n15_ n16_ n17_ n18_ n19_ n20_ n21_ n22_ n23_ n24_; clear hb hbox hg; have hnb131 := NB807_779.out; have hnc131 := NB779_807.out; have hnb132 := NB807_780.out; have hnc132 := NB780_807.out; have hnb133 := NB807_781.out; have hnc133 := NB781_807.out; have hnb134 := NB807_782.out; have hnc134 := NB782_807.out; have hnb135 := NB807_793.out; have hnc135 := NB793_807.out; have hnb136 := NB807_798.out; have hnc136 := NB798_807.out; have hnb137 := NB807_803.out; have hnc137 := NB803_807.out; have hcz138_0 : w130.cell? ⟨gb807, 0, none⟩ = some (.int .u64 0) := (blk_cell BK807.out 0).trans rfl; have hcz138_1 : w130.cell? ⟨gb807, 1, none⟩ = some (.int .u64 0) := (blk_cell BK807.out 1).trans rfl; have hfz138_0 := blk_frozen BK807.out 0; have hfz138_1 := blk_frozen BK807.out 1; have hcz139_0 : w130.cell? ⟨gb780, 0, none⟩ = some (.int .u64 a1_0) := (blk_cell BK780.out 0).trans rfl; have hcz139_1 : w130.cell? ⟨gb780, 1, none⟩ = some (.int .u64 a1_1) := (blk_cell BK780.out 1).trans rfl; have hfz139_0 := blk_frozen BK780.out 0; have hfz139_1 := blk_frozen BK780.out 1) | ((with_reducible refine gC (f := 53) rfl ?_); refine goesY_ (some 82) Try.func53 #[.agg #[.int .u64 t804, .int .u64 t805], .agg #[.int .u64 a1_0, .int .u64 a1_1]] ?_; (with_reducible refine (twin_Cmp.calls t804 t805 a1_0 a1_1 t808 _ A64.out).mono ?_); rintro e w140 ⟨rfl, hb⟩; refine ⟨_, rfl, ?_⟩; have n0_ := Aside0.mk (bB (g := gb779) (o := .cells #[.int .u64 a0_0, .int .u64 a0_1] 55 (0, 0)) (by (with_reducible repeat (first | refine bN ?_ _ | refine bD ?_ | refine bA ?_ _)); refine blk_far ?_ NB779_807.out _; (with_reducible repeat (first | refine bN ?_ _ | refine bD ?_ | refine bA ?_ _)); refine blk_far ?_ NB779_807.out _; (with_reducible repeat (first | refine bN ?_ _ | refine bD ?_ | refine bA ?_ _)); exact BK779.out) hb); have n1_ := Aside0.mk (bB (g := gb780) (o := .cells #[.int .u64 a1_0, .int .u64 a1_1] 55 (0, 0)) (by (with_reducible repeat (first | refine bN ?_ _ | refine bD ?_ | refine bA ?_ _)); refine blk_far ?_ NB780_807.out _; (with_reducible repeat (first | refine bN ?_ _ | refine bD ?_ | refine bA ?_ _)); refine blk_far ?_ NB780_807.out _; (with_reducible repeat (first | refine bN ?_ _ | refine bD ?_ | refine bA ?_ _)); exact BK780.out) hb); have n2_ := Aside0.mk (bB (g := gb781) (o := .cells #[.int .u64 0, .int .u64 0] 55 (0, 0)) (by (with_reducible repeat (first | refine bN ?_ _ | refine bD ?_ | refine bA ?_ _)); refine blk_far ?_ NB781_807.out _; (with_reducible repeat (first | refine bN ?_ _ | refine bD ?_ | refine bA ?_ _)); refine blk_far ?_ NB781_807.out _; (with_reducible repeat (first | refine bN ?_ _ | refine bD ?_ | refine bA ?_ _)); exact BK781.out) hb); have n3_ := Aside0.mk (bB (g := gb782) (o := .cells #[.int .u64 0, .int .u64 0] 55 (0, 0)) (by (with_reducible repeat (first | refine bN ?_ _ | refine bD ?_ | refine bA ?_ _)); refine blk_far ?_ NB782_807.out _; (with_reducible repeat (first | refine bN ?_ _ | refine bD ?_ | refine bA ?_ _)); refine blk_far ?_ NB782_807.out _; (with_reducible repeat (first | refine bN ?_ _ | refine bD ?_ | refine bA ?_ _)); exact BK782.out) hb); have n4_ := Aside0.mk (bB (g := gb793) (o := .cells #[.int .u64 t789, .int .u64 t790] 55 (0, 0)) (by (with_reducible repeat (first | refine bN ?_ _ | refine bD ?_ | refine bA ?_ _)); refine blk_far ?_ NB793_807.out _; (with_reducible repeat (first | refine bN ?_ _ | refine bD ?_ | refine bA ?_ _)); refine blk_far ?_ NB793_807.out _; (with_reducible repeat (first | refine bN ?_ _ | refine bD ?_ | refine bA ?_ _)); exact BK793.out) hb); have n5_ := Aside0.mk (bB (g := gb798) (o := .cells #[.int .u64 t794, .int .u64 t795] 55 (0, 0)) (by (with_reducible repeat (first | refine bN ?_ _ | refine bD ?_ | refine bA ?_ _)); refine blk_far ?_ NB798_807.out _; (with_reducible repeat (first | refine bN ?_ _ | refine bD ?_ | refine bA ?_ _)); refine blk_far ?_ NB798_807.out _; (with_reducible repeat (first | refine bN ?_ _ | refine bD ?_ | refine bA ?_ _)); exact BK798.out) hb); have n6_ := Aside0.mk (bB (g := gb803) (o := .cells #[.int .u64 t801, .int .u64 t802] 55 (0, 0)) (by (with_reducible repeat (first | refine bN ?_ _ | refine bD ?_ | refine bA ?_ _)); refine blk_far ?_ NB803_807.out _; (with_reducible repeat (first | refine bN ?_ _ | refine bD ?_ | refine bA ?_ _)); refine blk_far ?_ NB803_807.out _; (with_reducible repeat (first | refine bN ?_ _ | refine bD ?_ | refine bA ?_ _)); exact BK803.out) hb); have n7_ := Aside0.mk (bB (g := gb807) (o := .cells #[.int .u64 t804, .int .u64 t805] 55 (0, 0)) (by (with_reducible repeat (first | refine bN ?_ _ | refine bD ?_ | refine bA ?_ _)); refine blk_put (cs := #[.int .u64 t804, .int .u64 0]) ?_ 1 _ rfl; (with_reducible repeat (first | refine bN ?_ _ | refine bD ?_ | refine bA ?_ _)); refine blk_put (cs := #[.int .u64 0, .int .u64 0]) ?_ 0 _ rfl; (with_reducible repeat (first | refine bN ?_ _ | refine bD ?_ | refine bA ?_ _)); exact BK807.out) hb); have n8_ := Aside0.mk (bS3 HB.out hb); clear BK779; clear BK780; clear BK781; clear BK782; clear BK793; clear BK798; clear BK803; clear BK807; clear HB; have BK779 := n0_; have BK780 := n1_; have BK781 := n2_; have BK782 := n3_; have BK793 := n4_; have BK798 := n5_; have BK803 := n6_; have BK807 := n7_; have HB := n8_; clear n0_ n1_ n2_ n3_ n4_ n5_ n6_ n7_ n8_; (try clear hb); (try clear hb2); (try clear hk); (try clear hi)))
            have n0_ := Aside0.mk (bD BK779.out)
            have n1_ := Aside0.mk (bD BK780.out)
            have n2_ := Aside0.mk (bD BK781.out)
            have n3_ := Aside0.mk (bD BK782.out)
            have n4_ := Aside0.mk (bD BK793.out)
            have n5_ := Aside0.mk (bD BK798.out)
            have n6_ := Aside0.mk (bD BK803.out)
            have n7_ := Aside0.mk (bD BK807.out)
            have n8_ := Aside0.mk (p1 HB.out)
            clear BK779
            clear BK780
            clear BK781
            clear BK782
            clear BK793
            clear BK798
            clear BK803
            clear BK807
            clear HB
            have BK779 := n0_
            have BK780 := n1_
            have BK781 := n2_
            have BK782 := n3_
            have BK793 := n4_
            have BK798 := n5_
            have BK803 := n6_
            have BK807 := n7_
            have HB := n8_
            clear n0_ n1_ n2_ n3_ n4_ n5_ n6_ n7_ n8_
            refine start_ (n := 6) (S := fun w' => w'.cell? ⟨gb807, 0, none⟩ = some (.int .u64 t804) ∧ w'.cell? ⟨gb807, 1, none⟩ = some (.int .u64 t805)) (ds := []) #[false, false, false, false, false, false] (by kernel_rfl) rfl rfl ⟨(blk_cell BK807.out 0).trans rfl, (blk_cell BK807.out 1).trans rfl⟩ (fun hHeld => ?_)
            generalize w140.drew = w141 at BK779 BK780 BK781 BK782 BK793 BK798 BK803 BK807 HB hHeld ⊢
            refine pure_ (i := 0) (N := some 92) (v := ?_) (a' := ?_) #[true, false, false, false, false, false] rfl rfl (by kernel_rfl) (fun _ _ _ h => h) (Or.inl ⟨by rfl, ?_⟩) ?_ ?_
            rotate_left
            · intro w'
              go_simp
              with_reducible rfl
            rotate_left
            · simp only [Act.put, List.setIfInBounds_toArray, List.set_cons_zero, List.set_cons_succ, i64_w, i32_w]
              rfl
            refine pure_ (i := 1) (N := some 93) (v := ?_) (a' := ?_) #[true, true, false, false, false, false] rfl rfl (by kernel_rfl) (fun _ _ _ h => h) (Or.inl ⟨by rfl, ?_⟩) ?_ ?_
            rotate_left
            · intro w'
              go_simp
              with_reducible rfl
            rotate_left
            · simp only [Act.put, List.setIfInBounds_toArray, List.set_cons_zero, List.set_cons_succ, i64_w, i32_w]
              rfl
            refine take_ (i := 2) (N := some 94) (v := ?_) (a' := ?_) #[true, true, true, false, false, false] rfl rfl (by kernel_rfl) (fun _ _ _ h => h) (Or.inl ⟨by rfl, ?_⟩) hHeld ?_ ?_
            rotate_left
            · rintro w' ⟨s0, s1⟩
              go_simp
              with_reducible rfl
            rotate_left
            · simp only [Act.put, List.setIfInBounds_toArray, List.set_cons_zero, List.set_cons_succ, i64_w, i32_w]
              rfl
            refine one_ (i := 3) (N := none) #[true, true, true, true, false, false] rfl rfl (by kernel_rfl) (by decide) (fun K hK => ?_)
            have hs142 : w141.cell? ⟨gb781, 0, none⟩ = some (.int .u64 0) := (blk_cell BK781.out 0).trans rfl
            have hfs142 := blk_frozen BK781.out 0
            have hns142_0 := NB779_781.out
            have hns142_1 := NB780_781.out
            have hns142_3 := NB782_781.out
            have hns142_4 := NB793_781.out
            have hns142_5 := NB798_781.out
            have hns142_6 := NB803_781.out
            have hns142_7 := NB807_781.out
            have hms142_0 := NB781_779.out
            have hms142_1 := NB781_780.out
            have hms142_3 := NB781_782.out
            have hms142_4 := NB781_793.out
            have hms142_5 := NB781_798.out
            have hms142_6 := NB781_803.out
            have hms142_7 := NB781_807.out
            have hs143 : w141.cell? ⟨gb781, 1, none⟩ = some (.int .u64 0) := (blk_cell BK781.out 1).trans rfl
            have hfs143 := blk_frozen BK781.out 1
            have hns143_0 := NB779_781.out
            have hns143_1 := NB780_781.out
            have hns143_3 := NB782_781.out
            have hns143_4 := NB793_781.out
            have hns143_5 := NB798_781.out
            have hns143_6 := NB803_781.out
            have hns143_7 := NB807_781.out
            have hms143_0 := NB781_779.out
            have hms143_1 := NB781_780.out
            have hms143_3 := NB781_782.out
            have hms143_4 := NB781_793.out
            have hms143_5 := NB781_798.out
            have hms143_6 := NB781_803.out
            have hms143_7 := NB781_807.out
            refine skip_ (w1 := ?_) (by rfl) rfl ?_ ?_
            rotate_left
            · go_simp
              rfl
            refine hK.out _ _ ⟨((cell_far (p := ⟨gb781, _, none⟩) NB807_781.out _).trans (((cell_far (p := ⟨gb781, _, none⟩) NB807_781.out _).trans (hHeld.1)))), ((cell_far (p := ⟨gb781, _, none⟩) NB807_781.out _).trans (((cell_far (p := ⟨gb781, _, none⟩) NB807_781.out _).trans (hHeld.2))))⟩ (fun hHeld => ?_)
            clear hK K
            refine one_ (i := 4) (N := none) #[true, true, true, true, true, false] rfl rfl (by kernel_rfl) (by decide) (fun K hK => ?_)
            have hs144 : w141.cell? ⟨gb782, 0, none⟩ = some (.int .u64 0) := (blk_cell BK782.out 0).trans rfl
            have hfs144 := blk_frozen BK782.out 0
            have hns144_0 := NB779_782.out
            have hns144_1 := NB780_782.out
            have hns144_2 := NB781_782.out
            have hns144_4 := NB793_782.out
            have hns144_5 := NB798_782.out
            have hns144_6 := NB803_782.out
            have hns144_7 := NB807_782.out
            have hms144_0 := NB782_779.out
            have hms144_1 := NB782_780.out
            have hms144_2 := NB782_781.out
            have hms144_4 := NB782_793.out
            have hms144_5 := NB782_798.out
            have hms144_6 := NB782_803.out
            have hms144_7 := NB782_807.out
            have hs145 : w141.cell? ⟨gb782, 1, none⟩ = some (.int .u64 0) := (blk_cell BK782.out 1).trans rfl
            have hfs145 := blk_frozen BK782.out 1
            have hns145_0 := NB779_782.out
            have hns145_1 := NB780_782.out
            have hns145_2 := NB781_782.out
            have hns145_4 := NB793_782.out
            have hns145_5 := NB798_782.out
            have hns145_6 := NB803_782.out
            have hns145_7 := NB807_782.out
            have hms145_0 := NB782_779.out
            have hms145_1 := NB782_780.out
            have hms145_2 := NB782_781.out
            have hms145_4 := NB782_793.out
            have hms145_5 := NB782_798.out
            have hms145_6 := NB782_803.out
            have hms145_7 := NB782_807.out
            refine skip_ (w1 := ?_) (by rfl) rfl ?_ ?_
            rotate_left
            · go_simp
              rfl
            refine hK.out _ _ ⟨((cell_far (p := ⟨gb782, _, none⟩) NB807_782.out _).trans (((cell_far (p := ⟨gb782, _, none⟩) NB807_782.out _).trans (hHeld.1)))), ((cell_far (p := ⟨gb782, _, none⟩) NB807_782.out _).trans (((cell_far (p := ⟨gb782, _, none⟩) NB807_782.out _).trans (hHeld.2))))⟩ (fun hHeld => ?_)
            clear hK K
            refine pure_ (i := 5) (N := some 6) (v := ?_) (a' := ?_) #[true, true, true, true, true, true] rfl rfl (by kernel_rfl) (fun _ _ _ h => h) (Or.inl ⟨by rfl, ?_⟩) ?_ ?_
            rotate_left
            · intro w'
              go_simp
              with_reducible rfl
            rotate_left
            · simp only [Act.put, List.setIfInBounds_toArray, List.set_cons_zero, List.set_cons_succ, i64_w, i32_w]
              rfl
            refine done_ (by kernel_rfl) ?_
            try go_wp2
            refine bodyPost_ret (results_list (rs := [.cell 4 55, .cell 5 55, .tmp 6]) rfl (by simp) (.cell gb781 55 #[.int .u64 0, .int .u64 x17_32] (0, 0) _ rfl (by (with_reducible repeat (first | refine bN ?_ _ | refine bD ?_ | refine bA ?_ _)); refine blk_far ?_ NB781_782.out _; (with_reducible repeat (first | refine bN ?_ _ | refine bD ?_ | refine bA ?_ _)); refine blk_far ?_ NB781_782.out _; (with_reducible repeat (first | refine bN ?_ _ | refine bD ?_ | refine bA ?_ _)); refine blk_put (cs := #[.int .u64 0, .int .u64 0]) ?_ 1 _ rfl; (with_reducible repeat (first | refine bN ?_ _ | refine bD ?_ | refine bA ?_ _)); refine blk_put (cs := #[.int .u64 0, .int .u64 0]) ?_ 0 _ rfl; (with_reducible repeat (first | refine bN ?_ _ | refine bD ?_ | refine bA ?_ _)); exact BK781.out) Try.underlying55 rfl (by kernel_rfl) (.cell gb782 55 #[.int .u64 t804, .int .u64 t805] (0, 0) _ rfl (by (with_reducible repeat (first | refine bN ?_ _ | refine bD ?_ | refine bA ?_ _)); refine blk_put (cs := #[.int .u64 t804, .int .u64 0]) ?_ 1 _ rfl; (with_reducible repeat (first | refine bN ?_ _ | refine bD ?_ | refine bA ?_ _)); refine blk_put (cs := #[.int .u64 0, .int .u64 0]) ?_ 0 _ rfl; (with_reducible repeat (first | refine bN ?_ _ | refine bD ?_ | refine bA ?_ _)); refine blk_far ?_ NB782_781.out _; (with_reducible repeat (first | refine bN ?_ _ | refine bD ?_ | refine bA ?_ _)); refine blk_far ?_ NB782_781.out _; (with_reducible repeat (first | refine bN ?_ _ | refine bD ?_ | refine bA ?_ _)); exact BK782.out) Try.underlying55 rfl (by kernel_rfl) (.tmp .nil)))) rfl ?_
            exact ⟨by first | rfl | (simp [errW_none, errW_some] <;> rfl) | (simp only [← hji30, ← hji32]; first | rfl | (simp [errW_none, errW_some] <;> rfl)) | (simp [*, errW_none, errW_some] <;> rfl), by repeat (first | (with_reducible first | exact HB.out | apply pA | apply pN | apply p1 | refine pS ?_ GE779.out | refine pS ?_ GE780.out | refine pS ?_ GE781.out | refine pS ?_ GE782.out | refine pS ?_ GE793.out | refine pS ?_ GE798.out | refine pS ?_ GE803.out | refine pS ?_ GE807.out) | exact HB.out)⟩
    · rw [if_neg c31] at H
      exact absurd H (by simp)

end Go.Proofs.Yteekhbmffdmgjaa.F
