/- Functions of the given program as plain Lean functions, and for each a proof that the program's call comes to just these answers; no further conditions. (Written by a program of this repo out of the translation.) -/
import Derived.Test.YteekhbmffdmgjaaF0
import Derived.Test.YteekhbmffdmgjaaF21
import Derived.Test.YteekhbmffdmgjaaF23
namespace Go.Proofs.Yteekhbmffdmgjaa.F
open Go.RowKit Go.Proofs.YteekhbmffdmgjaaW.PrintWords Go.Proofs.YteekhbmffdmgjaaW.PrintLast Go.Proofs.YteekhbmffdmgjaaW.PrintMore
attribute [local go_sem high] xor_u64 xor_u32 eqErr25 neErr25 eqErrL25 neErrL25
attribute [local go_sem] max2_int min2_int max_two min_two max_three min_three max_four min_four   -- for this text's walks alone
set_option linter.unusedVariables false
set_option linter.unusedSimpArgs false

/-! ### part_Div: function 44 -/
def part_Div.f (k : Nat) (a0_0 : Int) (a0_1 : Int) (a1 : Int) : Option (Int × Int × Option Int) := if a1 = 0 then (some (0, 0, some 4)) else (if a0_0 ≥ a1 then (some (0, 0, some 5)) else ((bits_Div64.f k a0_0 a0_1 a1).bind fun bt430 => (some (bt430.1, bt430.2, none))))
theorem part_Div.mono : ∀ a0 a1 a2 k, LeO (part_Div.f k a0 a1 a2) (part_Div.f (k + 1) a0 a1 a2) := by
  intro a0 a1 a2 k
  unfold part_Div.f
  repeat' first
      | (with_reducible exact bits_Div64.mono _ _ _ _)
      | (with_reducible exact LeO.refl _)
      | (with_reducible exact LeO.none _)
      | (with_reducible refine LeO.ite ?_ ?_)
      | (with_reducible refine LeO.bind ?_ (fun _ => ?_))
      | exact bits_Div64.mono _ _ _ _
      | exact LeO.none _
      | refine LeO.ite ?_ ?_
      | refine LeO.bind ?_ (fun _ => ?_)
set_option maxHeartbeats 8000000 in
set_option maxRecDepth 100000 in
theorem part_Div.calls (k : Nat) (a0_0 : Int) (a0_1 : Int) (a1 : Int) (r1 : Int) (r2 : Int) (r3 : Option Int) (w : World) (h : part_Div.f k a0_0 a0_1 a1 = some (r1, r2, r3)) :
    Calls Try.prog 44 #[.agg #[.int .u64 a0_0, .int .u64 a0_1], .int .u64 a1] w fun e w' => e = .returned (.tuple #[.int .u64 r1, .int .u64 r2, errW r3]) ∧ Below w.heap.size w w' := by
  have hu55 := Try.underlying55
  have hu25 := Try.underlying25
  have hu33 := Try.underlying33
  have HB := Aside0.mk (Below.refl w.heap.size w)
  have H : (if a1 = 0 then (some (0, 0, some 4)) else (if a0_0 ≥ a1 then (some (0, 0, some 5)) else ((bits_Div64.f k a0_0 a0_1 a1).bind fun bt430 => (some (bt430.1, bt430.2, none))))) = some (r1, r2, r3) := h
  clear h
  by_cases c3 : a1 = 0
  · rw [if_pos c3] at H
    have c3b0 : (a1 == 0) = true := beq_iff_eq.mpr c3
    have c3b1 : (a1 != 0) = false := bne_eq_false_iff_eq.mpr c3
    clear c3
    simp only [Option.some.injEq, Prod.mk.injEq] at H
    obtain ⟨rfl, rfl, rfl⟩ := H
    go_enter Try.func44, Try.ntmps44
    go_wp2_with (first | ((with_reducible refine gD (N := 2) rfl ?_); refine bE3 2 #[.int .u64 a0_0, .int .u64 a0_1] 55 ?hr ?_; (case hr => first | (go_simp; done) | (go_simp; rfl)); intro gb429 hg w4 hbox hb; have n0_ := Aside0.mk (bS3 HB.out hb); have n1_ := Aside0.mk (hbox); have n2_ := Aside0.mk ((bZ3 hg HB.out)); have n3_ := Aside0.mk ((bZ3 hg HB.out)); clear HB; have HB := n0_; have BK429 := n1_; have GW429 := n2_; have GE429 := n3_; clear n0_ n1_ n2_ n3_; clear hb hbox hg))
    go_ret3
    exact ⟨by first | rfl | (simp [errW_none, errW_some] <;> rfl) | (simp [*, errW_none, errW_some] <;> rfl), by repeat (first | (with_reducible first | exact HB.out | apply pA | apply pN | apply p1 | refine pS ?_ GE429.out) | exact HB.out)⟩
  · rw [if_neg c3] at H
    have c3b0 : (a1 == 0) = false := beq_eq_false_iff_ne.mpr c3
    have c3b1 : (a1 != 0) = true := bne_iff_ne.mpr c3
    by_cases c5 : a0_0 ≥ a1
    · rw [if_pos c5] at H
      have c5b0 : decide (a1 ≤ a0_0) = true := decide_eq_true c5
      clear c5
      simp only [Option.some.injEq, Prod.mk.injEq] at H
      obtain ⟨rfl, rfl, rfl⟩ := H
      go_enter Try.func44, Try.ntmps44
      go_wp2_with (first | ((with_reducible refine gD (N := 2) rfl ?_); refine bE3 2 #[.int .u64 a0_0, .int .u64 a0_1] 55 ?hr ?_; (case hr => first | (go_simp; done) | (go_simp; rfl)); intro gb429 hg w6 hbox hb; have n0_ := Aside0.mk (bS3 HB.out hb); have n1_ := Aside0.mk (hbox); have n2_ := Aside0.mk ((bZ3 hg HB.out)); have n3_ := Aside0.mk ((bZ3 hg HB.out)); clear HB; have HB := n0_; have BK429 := n1_; have GW429 := n2_; have GE429 := n3_; clear n0_ n1_ n2_ n3_; clear hb hbox hg; have hcz7_0 : w6.cell? ⟨gb429, 0, none⟩ = some (.int .u64 a0_0) := (blk_cell BK429.out 0).trans rfl; have hcz7_1 : w6.cell? ⟨gb429, 1, none⟩ = some (.int .u64 a0_1) := (blk_cell BK429.out 1).trans rfl; have hfz7_0 := blk_frozen BK429.out 0; have hfz7_1 := blk_frozen BK429.out 1))
      go_ret3
      exact ⟨by first | rfl | (simp [errW_none, errW_some] <;> rfl) | (simp [*, errW_none, errW_some] <;> rfl), by repeat (first | (with_reducible first | exact HB.out | apply pA | apply pN | apply p1 | refine pS ?_ GE429.out) | exact HB.out)⟩
    · rw [if_neg c5] at H
      have c5b0 : decide (a1 ≤ a0_0) = false := decide_eq_false c5
      clear c5
      replace H := Option.bind_eq_some_iff.mp H
      obtain ⟨⟨t430, t431⟩, A80, H⟩ := H
      replace H : (some (t430, t431, none)) = some (r1, r2, r3) := H
      have A8 := Aside0.mk A80
      clear A80
      simp only [Option.some.injEq, Prod.mk.injEq] at H
      obtain ⟨rfl, rfl, rfl⟩ := H
      go_enter Try.func44, Try.ntmps44
      go_wp2_with (first | ((with_reducible refine gD (N := 2) rfl ?_); refine bE3 2 #[.int .u64 a0_0, .int .u64 a0_1] 55 ?hr ?_; (case hr => first | (go_simp; done) | (go_simp; rfl)); intro gb429 hg w9 hbox hb; have n0_ := Aside0.mk (bS3 HB.out hb); have n1_ := Aside0.mk (hbox); have n2_ := Aside0.mk ((bZ3 hg HB.out)); have n3_ := Aside0.mk ((bZ3 hg HB.out)); clear HB; have HB := n0_; have BK429 := n1_; have GW429 := n2_; have GE429 := n3_; clear n0_ n1_ n2_ n3_; clear hb hbox hg; have hcz10_0 : w9.cell? ⟨gb429, 0, none⟩ = some (.int .u64 a0_0) := (blk_cell BK429.out 0).trans rfl; have hcz10_1 : w9.cell? ⟨gb429, 1, none⟩ = some (.int .u64 a0_1) := (blk_cell BK429.out 1).trans rfl; have hfz10_0 := blk_frozen BK429.out 0; have hfz10_1 := blk_frozen BK429.out 1) | ((with_reducible refine gC (f := 70) rfl ?_); refine goesY_ (some 23) Try.func70 #[.int .u64 a0_0, .int .u64 a0_1, .int .u64 a1] ?_; (with_reducible refine (bits_Div64.calls k a0_0 a0_1 a1 t430 t431 _ A8.out).mono ?_); rintro e w' ⟨rfl, ⟨nd, rfl⟩⟩; refine ⟨_, rfl, ?_⟩))
      go_ret3
      exact ⟨by first | rfl | (simp [errW_none, errW_some] <;> rfl) | (simp [*, errW_none, errW_some] <;> rfl), by repeat (first | (with_reducible first | exact HB.out | apply pA | apply pN | apply p1 | refine pS ?_ GE429.out) | exact HB.out)⟩

/-! ### part_Root: function 46 -/
def part_Root.l0 : Nat → Int → Int → Int → Int → Option (Int × Int × Int)
  | 0, _, _, _, _ => none
  | k + 1, x4, x5, x445000, x445001 => if x5 ≥ 0 then (if 0 ≤ x5 then ((twin_Mul.f (Go.bits .or .u64 x4 (shl .u64 1 x5)) (Go.bits .or .u64 x4 (shl .u64 1 x5))).bind fun bt452 => ((twin_Cmp.f bt452.1 bt452.2 x445000 x445001).bind fun t454 => (if t454 ≤ 0 then (part_Root.l0 k (Go.bits .or .u64 x4 (shl .u64 1 x5)) (wrap64 (x5 - 1)) x445000 x445001) else (part_Root.l0 k x4 (wrap64 (x5 - 1)) x445000 x445001)))) else (none)) else ((twin_Mul.f x4 x4).bind fun bt446 => ((twin_Sub.f x445000 x445001 bt446.1 bt446.2).bind fun bt448 => (some (x4, bt448.1, bt448.2.1))))
def part_Root.f (k : Nat) (a0_0 : Int) (a0_1 : Int) : Option (Int × Int × Int) := part_Root.l0 k 0 63 a0_0 a0_1
theorem part_Root.mono_l : ∀ k, (∀ y0 y1 y2 y3, LeO (part_Root.l0 k y0 y1 y2 y3) (part_Root.l0 (k + 1) y0 y1 y2 y3))
  | 0 => fun _ _ _ _ r h => by simp [part_Root.l0] at h
  | k + 1 => by
    have ih0 := part_Root.mono_l k
    · intro y0 y1 y2 y3
      unfold part_Root.l0
      repeat' first
      | (with_reducible exact ih0 _ _ _ _)
      | (with_reducible exact LeO.refl _)
      | (with_reducible exact LeO.none _)
      | (with_reducible refine LeO.ite ?_ ?_)
      | (with_reducible refine LeO.bind ?_ (fun _ => ?_))
      | exact ih0 _ _ _ _
      | exact LeO.none _
      | refine LeO.ite ?_ ?_
      | refine LeO.bind ?_ (fun _ => ?_)
theorem part_Root.mono : ∀ a0 a1 k, LeO (part_Root.f k a0 a1) (part_Root.f (k + 1) a0 a1) := by
  intro a0 a1 k
  have ih0 := part_Root.mono_l k
  unfold part_Root.f
  repeat' first
      | (with_reducible exact ih0 _ _ _ _)
      | (with_reducible exact LeO.refl _)
      | (with_reducible exact LeO.none _)
      | (with_reducible refine LeO.ite ?_ ?_)
      | (with_reducible refine LeO.bind ?_ (fun _ => ?_))
      | exact ih0 _ _ _ _
      | exact LeO.none _
      | refine LeO.ite ?_ ?_
      | refine LeO.bind ?_ (fun _ => ?_)
def part_Root.T8 : Bool × List (List Nat × List Nat) := (true, [([], []), ([], []), ([], []), ([1, 2], [1, 2]), ([0, 3, 3], [0, 3]), ([4], [4]), ([5], [5]), ([5], [5]), ([], []), ([8, 6, 4, 0, 1, 2, 3, 4, 5, 6, 8], [6, 8]), ([7, 9, 0, 1, 2, 3, 4, 5, 6, 7, 8, 9], [7])])
def part_Root.B8 : List Nat := [0, 0, 0, 6, 15, 31, 63, 63, 0, 383, 1023]
theorem part_Root.tab8 : rtab .any (opsOf Try.f46 8) = part_Root.T8 := by kernel_rfl
theorem part_Root.bits8 : waitsOk part_Root.T8.2 part_Root.B8 = true := by kernel_rfl
set_option maxHeartbeats 8000000 in
set_option maxRecDepth 100000 in
theorem part_Root.calls (k : Nat) (a0_0 : Int) (a0_1 : Int) (r1 : Int) (r2 : Int) (r3 : Int) (w : World) (h : part_Root.f k a0_0 a0_1 = some (r1, r2, r3)) :
    Calls Try.prog 46 #[.agg #[.int .u64 a0_0, .int .u64 a0_1]] w fun e w' => e = .returned (.tuple #[.int .u64 r1, .agg #[.int .u64 r2, .int .u64 r3]]) ∧ Below w.heap.size w w' := by
  have hu55 := Try.underlying55
  have HB := Aside0.mk (Below.refl w.heap.size w)
  have H : (part_Root.l0 k 0 63 a0_0 a0_1) = some (r1, r2, r3) := h
  clear h
  have H' := Aside0.mk H
  clear H
  go_enter Try.func46, Try.ntmps46
  go_wp2_with (first | ((with_reducible refine gD (N := 1) rfl ?_); refine bE3 1 #[.int .u64 a0_0, .int .u64 a0_1] 55 ?hr ?_; (case hr => first | (go_simp; done) | (go_simp; rfl)); intro gb444 hg w2 hbox hb; have n0_ := Aside0.mk (bS3 HB.out hb); have n1_ := Aside0.mk (hbox); have n2_ := Aside0.mk ((bZ3 hg HB.out)); have n3_ := Aside0.mk ((bZ3 hg HB.out)); clear HB; have HB := n0_; have BK444 := n1_; have GW444 := n2_; have GE444 := n3_; clear n0_ n1_ n2_ n3_; clear hb hbox hg) | ((with_reducible refine gD (N := 3) rfl ?_); refine bE3 3 #[.int .u64 0, .int .u64 0] 55 ?hr ?_; (case hr => first | (go_simp; done) | (go_simp; rfl)); intro gb445 hg w3 hbox hb; have n0_ := Aside0.mk (bB3 BK444.out hb); have n1_ := Aside0.mk (bS3 HB.out hb); have n2_ := Aside0.mk (hbox); have n3_ := Aside0.mk ((bZ3 hg HB.out)); have n4_ := Aside0.mk ((bZ3 hg HB.out)); have n5_ := Aside0.mk ((bL3 hg BK444.out)); have n6_ := Aside0.mk ((bG3 hg BK444.out)); clear BK444; clear HB; have BK444 := n0_; have HB := n1_; have BK445 := n2_; have GW445 := n3_; have GE445 := n4_; have NB444_445 := n5_; have NB445_444 := n6_; clear n0_ n1_ n2_ n3_ n4_ n5_ n6_; clear hb hbox hg))
  go_loopg [4, 5] k (fun kq v4 v5 w' => ∃ (x4_1 : Int) (x5_1 : Int), v4 = .int .u64 x4_1 ∧ v5 = .int .i64 x5_1 ∧ Aside0 (part_Root.l0 kq x4_1 x5_1 a0_0 a0_1 = some (r1, r2, r3)) ∧ Aside0 (kq ≤ k) ∧ Aside0 (w'.heap[gb444]? = some (.cells #[.int .u64 a0_0, .int .u64 a0_1] 55 (0, 0))) ∧ Aside0 (w'.heap[gb445]? = some (.cells #[.int .u64 0, .int .u64 0] 55 (0, 0))) ∧ Aside0 (Below w.heap.size w w'))
  case atStart => exact ⟨(0), (63), (by first | rfl | (simp; done) | (simp [*]; done)), (by first | rfl | (simp; done) | (simp [*]; done)), H', ⟨Nat.le_refl _⟩, ⟨by (with_reducible repeat (first | refine bN ?_ _ | refine bD ?_ | refine bA ?_ _)); exact BK444.out⟩, ⟨by (with_reducible repeat (first | refine bN ?_ _ | refine bD ?_ | refine bA ?_ _)); exact BK445.out⟩, ⟨by repeat (first | (with_reducible first | exact HB.out | apply pA | apply pN | apply p1 | refine pS ?_ GE444.out | refine pS ?_ GE445.out) | exact HB.out)⟩⟩
  case round =>
    clear H'
    try clear p2
    obtain ⟨x4_1, x5_1, rfl, rfl, HA, HK1, BK444, BK445, HB⟩ := hrel
    cases gk with
    | zero => exact absurd HA.out (by simp [part_Root.l0])
    | succ k1 =>
      have H := HA.out
      clear HA
      simp only [part_Root.l0] at H
      by_cases c4 : x5_1 ≥ 0
      · rw [if_pos c4] at H
        have c4b0 : decide (0 ≤ x5_1) = true := decide_eq_true c4
        clear c4
        by_cases c5 : 0 ≤ x5_1
        · rw [if_pos c5] at H
          have c5b0 := eq_true c5
          have c5b1 : decide (0 ≤ x5_1) = true := decide_eq_true c5
          clear c5
          obtain ⟨ji6, hji6⟩ : ∃ j_ : Int, (shl .u64 1 x5_1) = j_ := ⟨_, rfl⟩
          replace H : ((twin_Mul.f (Go.bits .or .u64 x4_1 (ji6)) (Go.bits .or .u64 x4_1 (ji6))).bind fun bt452 => ((twin_Cmp.f bt452.1 bt452.2 a0_0 a0_1).bind fun t454 => (if t454 ≤ 0 then (part_Root.l0 k1 (Go.bits .or .u64 x4_1 (ji6)) (wrap64 (x5_1 - 1)) a0_0 a0_1) else (part_Root.l0 k1 x4_1 (wrap64 (x5_1 - 1)) a0_0 a0_1)))) = some (r1, r2, r3) := by first | (rw [hji6] at H; exact H) | (simp only [hji6] at H ⊢; exact H)
          have hji6_ : (IntKind.u64.wrap (1 * 2 ^ min x5_1.toNat 64)) = ji6 := hji6
          have hji6z : x5_1 ≤ 64 → (IntKind.u64.wrap (1 * 2 ^ x5_1.toNat)) = ji6 := shl_small hji6
          have hji6u : (IntKind.u64.wrap (2 ^ min x5_1.toNat 64)) = ji6 := by have h_ := hji6_; rw [Int.one_mul] at h_; exact h_
          have hji6v : x5_1 ≤ 64 → (IntKind.u64.wrap (2 ^ x5_1.toNat)) = ji6 := fun hle_ => by have h_ := hji6z hle_; rw [Int.one_mul] at h_; exact h_
          replace H := Option.bind_eq_some_iff.mp H
          obtain ⟨⟨t452, t453⟩, A70, H⟩ := H
          replace H : ((twin_Cmp.f t452 t453 a0_0 a0_1).bind fun t454 => (if t454 ≤ 0 then (part_Root.l0 k1 (Go.bits .or .u64 x4_1 (ji6)) (wrap64 (x5_1 - 1)) a0_0 a0_1) else (part_Root.l0 k1 x4_1 (wrap64 (x5_1 - 1)) a0_0 a0_1))) = some (r1, r2, r3) := H
          have A7 := Aside0.mk A70
          clear A70
          replace H := Option.bind_eq_some_iff.mp H
          obtain ⟨t454, A80, H⟩ := H
          replace H : (if t454 ≤ 0 then (part_Root.l0 k1 (Go.bits .or .u64 x4_1 (ji6)) (wrap64 (x5_1 - 1)) a0_0 a0_1) else (part_Root.l0 k1 x4_1 (wrap64 (x5_1 - 1)) a0_0 a0_1)) = some (r1, r2, r3) := H
          have A8 := Aside0.mk A80
          clear A80
          by_cases c9 : t454 ≤ 0
          · rw [if_pos c9] at H
            have c9b0 : decide (t454 ≤ 0) = true := decide_eq_true c9
            clear c9
            have H' := Aside0.mk H
            clear H
            try go_wp2
            have n0_ := Aside0.mk (bD BK444.out)
            have n1_ := Aside0.mk (bD BK445.out)
            have n2_ := Aside0.mk (p1 HB.out)
            clear BK444
            clear BK445
            clear HB
            have BK444 := n0_
            have BK445 := n1_
            have HB := n2_
            clear n0_ n1_ n2_
            refine start_ (n := 6) (S := fun w' => w'.cell? ⟨gb444, 0, none⟩ = some (.int .u64 a0_0) ∧ w'.cell? ⟨gb444, 1, none⟩ = some (.int .u64 a0_1)) (ds := []) #[false, false, false, false, false, false] (by kernel_rfl) rfl rfl ⟨(blk_cell BK444.out 0).trans rfl, (blk_cell BK444.out 1).trans rfl⟩ (fun hHeld => ?_)
            generalize wr.drew = w10 at BK444 BK445 HB hHeld ⊢
            refine pure_ (i := 0) (N := some 17) (v := ?_) (a' := ?_) #[true, false, false, false, false, false] rfl rfl (by kernel_rfl) (fun _ _ _ h => h) (Or.inl ⟨by rfl, ?_⟩) ?_ ?_
            rotate_left
            · intro w'
              go_simp
              with_reducible rfl
            rotate_left
            · simp only [Act.put, List.setIfInBounds_toArray, List.set_cons_zero, List.set_cons_succ, i64_w, i32_w]
              rfl
            refine pure_ (i := 1) (N := some 18) (v := ?_) (a' := ?_) #[true, true, false, false, false, false] rfl rfl (by kernel_rfl) (fun _ _ _ h => h) (Or.inl ⟨by rfl, ?_⟩) ?_ ?_
            rotate_left
            · intro w'
              go_simp
              with_reducible rfl
            rotate_left
            · simp only [Act.put, List.setIfInBounds_toArray, List.set_cons_zero, List.set_cons_succ, i64_w, i32_w]
              rfl
            refine take_ (i := 3) (N := some 20) (v := ?_) (a' := ?_) #[true, true, false, true, false, false] rfl rfl (by kernel_rfl) (fun _ _ _ h => h) (Or.inl ⟨by rfl, ?_⟩) hHeld ?_ ?_
            rotate_left
            · rintro w' ⟨s0, s1⟩
              go_simp
              with_reducible rfl
            rotate_left
            · simp only [Act.put, List.setIfInBounds_toArray, List.set_cons_zero, List.set_cons_succ, i64_w, i32_w]
              rfl
            refine one_ (i := 2) (N := some 19) #[true, true, true, true, false, false] rfl rfl (by kernel_rfl) (by decide) (fun K hK => ?_)
            refine goes_ Try.func51 (by kernel_rfl) rfl #[.int .u64 (Go.bits .or .u64 x4_1 (ji6)), .int .u64 (Go.bits .or .u64 x4_1 (ji6))] (by rfl) rfl rfl (by (try simp only [List.map_toArray, List.map_cons, List.map_nil]); first | done | (simp only [hji6]; rfl) | rfl | (simp only [List.length_drop, List.length_take]; rfl)) ?_
            with_reducible refine (twin_Mul.calls (Go.bits .or .u64 x4_1 (ji6)) (Go.bits .or .u64 x4_1 (ji6)) t452 t453 _ A7.out).mono ?_
            rintro e w11 ⟨rfl, hb⟩
            refine ⟨_, rfl, ?_⟩
            have n0_ := Aside0.mk (bB3 BK444.out hb)
            have n1_ := Aside0.mk (bB3 BK445.out hb)
            have n2_ := Aside0.mk (bS3 HB.out hb)
            clear BK444
            clear BK445
            clear HB
            have BK444 := n0_
            have BK445 := n1_
            have HB := n2_
            clear n0_ n1_ n2_
            (try clear hb)
            (try clear hb2)
            (try clear hk)
            (try clear hi)
            refine hK.out _ _ ⟨(blk_cell BK444.out 0).trans rfl, (blk_cell BK444.out 1).trans rfl⟩ (fun hHeld => ?_)
            clear hK K
            refine norm_ (a' := ?_) ?_ ?_
            rotate_left
            · show Act.put _ (some 19) _ = _
              simp only [Act.put, List.setIfInBounds_toArray, List.set_cons_zero, List.set_cons_succ, i64_w, i32_w]
              rfl
            refine one_ (i := 4) (N := some 21) #[true, true, true, true, true, false] rfl rfl (by kernel_rfl) (by decide) (fun K hK => ?_)
            refine goes_ Try.func53 (by kernel_rfl) rfl #[.agg #[.int .u64 t452, .int .u64 t453], .agg #[.int .u64 a0_0, .int .u64 a0_1]] (by rfl) rfl rfl (by (try simp only [List.map_toArray, List.map_cons, List.map_nil]); first | done | rfl | (simp only [List.length_drop, List.length_take]; rfl)) ?_
            with_reducible refine (twin_Cmp.calls t452 t453 a0_0 a0_1 t454 _ A8.out).mono ?_
            rintro e w12 ⟨rfl, hb⟩
            refine ⟨_, rfl, ?_⟩
            have n0_ := Aside0.mk (bB3 BK444.out hb)
            have n1_ := Aside0.mk (bB3 BK445.out hb)
            have n2_ := Aside0.mk (bS3 HB.out hb)
            clear BK444
            clear BK445
            clear HB
            have BK444 := n0_
            have BK445 := n1_
            have HB := n2_
            clear n0_ n1_ n2_
            (try clear hb)
            (try clear hb2)
            (try clear hk)
            (try clear hi)
            refine hK.out _ _ ⟨(blk_cell BK444.out 0).trans rfl, (blk_cell BK444.out 1).trans rfl⟩ (fun hHeld => ?_)
            clear hK K
            refine norm_ (a' := ?_) ?_ ?_
            rotate_left
            · show Act.put _ (some 21) _ = _
              simp only [Act.put, List.setIfInBounds_toArray, List.set_cons_zero, List.set_cons_succ, i64_w, i32_w]
              rfl
            refine pure_ (i := 5) (N := some 22) (v := ?_) (a' := ?_) #[true, true, true, true, true, true] rfl rfl (by kernel_rfl) (fun _ _ _ h => h) (Or.inl ⟨by rfl, ?_⟩) ?_ ?_
            rotate_left
            · intro w'
              go_simp
              with_reducible rfl
            rotate_left
            · simp only [Act.put, List.setIfInBounds_toArray, List.set_cons_zero, List.set_cons_succ, i64_w, i32_w]
              rfl
            refine done_ (by kernel_rfl) ?_
            try go_wp2
            go_roundg k1
            case measure => have := HK1.out; omega
            case rel => exact ⟨(Go.bits .or .u64 x4_1 (ji6)), (wrap64 (x5_1 - 1)), (by first | rfl | (simp; done) | (simp only [← hji6] <;> (first | rfl | simp)) | (simp [*]; done)), (by first | rfl | (simp; done) | (simp [*]; done)), H', ⟨by have := HK1.out; omega⟩, ⟨by (with_reducible repeat (first | refine bN ?_ _ | refine bD ?_ | refine bA ?_ _)); exact BK444.out⟩, ⟨by (with_reducible repeat (first | refine bN ?_ _ | refine bD ?_ | refine bA ?_ _)); exact BK445.out⟩, ⟨by repeat (first | (with_reducible first | exact HB.out | apply pA | apply pN | apply p1 | refine pS ?_ GE444.out | refine pS ?_ GE445.out) | exact HB.out)⟩⟩
          · rw [if_neg c9] at H
            have c9b0 : decide (t454 ≤ 0) = false := decide_eq_false c9
            clear c9
            have H' := Aside0.mk H
            clear H
            try go_wp2
            have n0_ := Aside0.mk (bD BK444.out)
            have n1_ := Aside0.mk (bD BK445.out)
            have n2_ := Aside0.mk (p1 HB.out)
            clear BK444
            clear BK445
            clear HB
            have BK444 := n0_
            have BK445 := n1_
            have HB := n2_
            clear n0_ n1_ n2_
            refine start_ (n := 6) (S := fun w' => w'.cell? ⟨gb444, 0, none⟩ = some (.int .u64 a0_0) ∧ w'.cell? ⟨gb444, 1, none⟩ = some (.int .u64 a0_1)) (ds := []) #[false, false, false, false, false, false] (by kernel_rfl) rfl rfl ⟨(blk_cell BK444.out 0).trans rfl, (blk_cell BK444.out 1).trans rfl⟩ (fun hHeld => ?_)
            generalize wr.drew = w13 at BK444 BK445 HB hHeld ⊢
            refine pure_ (i := 0) (N := some 17) (v := ?_) (a' := ?_) #[true, false, false, false, false, false] rfl rfl (by kernel_rfl) (fun _ _ _ h => h) (Or.inl ⟨by rfl, ?_⟩) ?_ ?_
            rotate_left
            · intro w'
              go_simp
              with_reducible rfl
            rotate_left
            · simp only [Act.put, List.setIfInBounds_toArray, List.set_cons_zero, List.set_cons_succ, i64_w, i32_w]
              rfl
            refine pure_ (i := 1) (N := some 18) (v := ?_) (a' := ?_) #[true, true, false, false, false, false] rfl rfl (by kernel_rfl) (fun _ _ _ h => h) (Or.inl ⟨by rfl, ?_⟩) ?_ ?_
            rotate_left
            · intro w'
              go_simp
              with_reducible rfl
            rotate_left
            · simp only [Act.put, List.setIfInBounds_toArray, List.set_cons_zero, List.set_cons_succ, i64_w, i32_w]
              rfl
            refine take_ (i := 3) (N := some 20) (v := ?_) (a' := ?_) #[true, true, false, true, false, false] rfl rfl (by kernel_rfl) (fun _ _ _ h => h) (Or.inl ⟨by rfl, ?_⟩) hHeld ?_ ?_
            rotate_left
            · rintro w' ⟨s0, s1⟩
              go_simp
              with_reducible rfl
            rotate_left
            · simp only [Act.put, List.setIfInBounds_toArray, List.set_cons_zero, List.set_cons_succ, i64_w, i32_w]
              rfl
            refine one_ (i := 2) (N := some 19) #[true, true, true, true, false, false] rfl rfl (by kernel_rfl) (by decide) (fun K hK => ?_)
            refine goes_ Try.func51 (by kernel_rfl) rfl #[.int .u64 (Go.bits .or .u64 x4_1 (ji6)), .int .u64 (Go.bits .or .u64 x4_1 (ji6))] (by rfl) rfl rfl (by (try simp only [List.map_toArray, List.map_cons, List.map_nil]); first | done | (simp only [hji6]; rfl) | rfl | (simp only [List.length_drop, List.length_take]; rfl)) ?_
            with_reducible refine (twin_Mul.calls (Go.bits .or .u64 x4_1 (ji6)) (Go.bits .or .u64 x4_1 (ji6)) t452 t453 _ A7.out).mono ?_
            rintro e w14 ⟨rfl, hb⟩
            refine ⟨_, rfl, ?_⟩
            have n0_ := Aside0.mk (bB3 BK444.out hb)
            have n1_ := Aside0.mk (bB3 BK445.out hb)
            have n2_ := Aside0.mk (bS3 HB.out hb)
            clear BK444
            clear BK445
            clear HB
            have BK444 := n0_
            have BK445 := n1_
            have HB := n2_
            clear n0_ n1_ n2_
            (try clear hb)
            (try clear hb2)
            (try clear hk)
            (try clear hi)
            refine hK.out _ _ ⟨(blk_cell BK444.out 0).trans rfl, (blk_cell BK444.out 1).trans rfl⟩ (fun hHeld => ?_)
            clear hK K
            refine norm_ (a' := ?_) ?_ ?_
            rotate_left
            · show Act.put _ (some 19) _ = _
              simp only [Act.put, List.setIfInBounds_toArray, List.set_cons_zero, List.set_cons_succ, i64_w, i32_w]
              rfl
            refine one_ (i := 4) (N := some 21) #[true, true, true, true, true, false] rfl rfl (by kernel_rfl) (by decide) (fun K hK => ?_)
            refine goes_ Try.func53 (by kernel_rfl) rfl #[.agg #[.int .u64 t452, .int .u64 t453], .agg #[.int .u64 a0_0, .int .u64 a0_1]] (by rfl) rfl rfl (by (try simp only [List.map_toArray, List.map_cons, List.map_nil]); first | done | rfl | (simp only [List.length_drop, List.length_take]; rfl)) ?_
            with_reducible refine (twin_Cmp.calls t452 t453 a0_0 a0_1 t454 _ A8.out).mono ?_
            rintro e w15 ⟨rfl, hb⟩
            refine ⟨_, rfl, ?_⟩
            have n0_ := Aside0.mk (bB3 BK444.out hb)
            have n1_ := Aside0.mk (bB3 BK445.out hb)
            have n2_ := Aside0.mk (bS3 HB.out hb)
            clear BK444
            clear BK445
            clear HB
            have BK444 := n0_
            have BK445 := n1_
            have HB := n2_
            clear n0_ n1_ n2_
            (try clear hb)
            (try clear hb2)
            (try clear hk)
            (try clear hi)
            refine hK.out _ _ ⟨(blk_cell BK444.out 0).trans rfl, (blk_cell BK444.out 1).trans rfl⟩ (fun hHeld => ?_)
            clear hK K
            refine norm_ (a' := ?_) ?_ ?_
            rotate_left
            · show Act.put _ (some 21) _ = _
              simp only [Act.put, List.setIfInBounds_toArray, List.set_cons_zero, List.set_cons_succ, i64_w, i32_w]
              rfl
            refine pure_ (i := 5) (N := some 22) (v := ?_) (a' := ?_) #[true, true, true, true, true, true] rfl rfl (by kernel_rfl) (fun _ _ _ h => h) (Or.inl ⟨by rfl, ?_⟩) ?_ ?_
            rotate_left
            · intro w'
              go_simp
              with_reducible rfl
            rotate_left
            · simp only [Act.put, List.setIfInBounds_toArray, List.set_cons_zero, List.set_cons_succ, i64_w, i32_w]
              rfl
            refine done_ (by kernel_rfl) ?_
            try go_wp2
            go_roundg k1
            case measure => have := HK1.out; omega
            case rel => exact ⟨(x4_1), (wrap64 (x5_1 - 1)), (by first | rfl | (simp; done) | (simp [*]; done)), (by first | rfl | (simp; done) | (simp [*]; done)), H', ⟨by have := HK1.out; omega⟩, ⟨by (with_reducible repeat (first | refine bN ?_ _ | refine bD ?_ | refine bA ?_ _)); exact BK444.out⟩, ⟨by (with_reducible repeat (first | refine bN ?_ _ | refine bD ?_ | refine bA ?_ _)); exact BK445.out⟩, ⟨by repeat (first | (with_reducible first | exact HB.out | apply pA | apply pN | apply p1 | refine pS ?_ GE444.out | refine pS ?_ GE445.out) | exact HB.out)⟩⟩
        · rw [if_neg c5] at H
          exact absurd H (by simp)
      · rw [if_neg c4] at H
        have c4b0 : decide (0 ≤ x5_1) = false := decide_eq_false c4
        clear c4
        replace H := Option.bind_eq_some_iff.mp H
        obtain ⟨⟨t446, t447⟩, A160, H⟩ := H
        replace H : ((twin_Sub.f a0_0 a0_1 t446 t447).bind fun bt448 => (some (x4_1, bt448.1, bt448.2.1))) = some (r1, r2, r3) := H
        have A16 := Aside0.mk A160
        clear A160
        replace H := Option.bind_eq_some_iff.mp H
        obtain ⟨⟨t448, t449, t450⟩, A170, H⟩ := H
        replace H : (some (x4_1, t448, t449)) = some (r1, r2, r3) := H
        have A17 := Aside0.mk A170
        clear A170
        simp only [Option.some.injEq, Prod.mk.injEq] at H
        obtain ⟨rfl, rfl, rfl⟩ := H
        try go_wp2
        have n0_ := Aside0.mk (bD BK444.out)
        have n1_ := Aside0.mk (bD BK445.out)
        have n2_ := Aside0.mk (p1 HB.out)
        clear BK444
        clear BK445
        clear HB
        have BK444 := n0_
        have BK445 := n1_
        have HB := n2_
        clear n0_ n1_ n2_
        refine start_ (n := 11) (S := fun w' => w'.cell? ⟨gb444, 0, none⟩ = some (.int .u64 a0_0) ∧ w'.cell? ⟨gb444, 1, none⟩ = some (.int .u64 a0_1)) (ds := []) #[false, false, false, false, false, false, false, false, false, false, false] (by kernel_rfl) rfl rfl ⟨(blk_cell BK444.out 0).trans rfl, (blk_cell BK444.out 1).trans rfl⟩ (fun hHeld => ?_); refine with_tabW part_Root.tab8 part_Root.bits8 (fun HT_ HW_ => ?_)
        generalize wr.drew = w18 at BK444 BK445 HB hHeld ⊢
        refine pure_ (i := 1) (N := some 26) (v := ?_) (a' := ?_) #[false, true, false, false, false, false, false, false, false, false, false] rfl rfl (any_of HT_.out (by kernel_rfl)) (fun _ _ _ h => h) (Or.inl ⟨by rfl, ?_⟩) ?_ ?_
        rotate_left
        · intro w'
          go_simp
          with_reducible rfl
        rotate_left
        · simp only [Act.put, List.setIfInBounds_toArray, List.set_cons_zero, List.set_cons_succ, i64_w, i32_w]
          rfl
        refine pure_ (i := 2) (N := some 27) (v := ?_) (a' := ?_) #[false, true, true, false, false, false, false, false, false, false, false] rfl rfl (any_of HT_.out (by kernel_rfl)) (fun _ _ _ h => h) (Or.inl ⟨by rfl, ?_⟩) ?_ ?_
        rotate_left
        · intro w'
          go_simp
          with_reducible rfl
        rotate_left
        · simp only [Act.put, List.setIfInBounds_toArray, List.set_cons_zero, List.set_cons_succ, i64_w, i32_w]
          rfl
        refine take_ (i := 0) (N := some 25) (v := ?_) (a' := ?_) #[true, true, true, false, false, false, false, false, false, false, false] rfl rfl (take_ofW HT_.out HW_.out (by kernel_rfl)) (fun _ _ _ h => h) (Or.inl ⟨by rfl, ?_⟩) hHeld ?_ ?_
        rotate_left
        · rintro w' ⟨s0, s1⟩
          go_simp
          with_reducible rfl
        rotate_left
        · simp only [Act.put, List.setIfInBounds_toArray, List.set_cons_zero, List.set_cons_succ, i64_w, i32_w]
          rfl
        refine join_ (σ := Nat) 2 #[true, true, true, true, true, true, true, true, true, false, false] (fun s_ => [(28, .agg #[.int .u64 t446, .int .u64 t447]), (29, .tuple #[.agg #[.int .u64 t448, .int .u64 t449], .bool t450]), (7, .pointer (some ⟨s_, 0, none⟩)), (24, .tuple #[.agg #[.int .u64 t448, .int .u64 t449], .bool t450]), (30, .agg #[.int .u64 t448, .int .u64 t449]), (31, .bool t450)]) (fun s_ w' => (w'.cell? ⟨gb444, 0, none⟩ = some (.int .u64 a0_0) ∧ w'.cell? ⟨gb444, 1, none⟩ = some (.int .u64 a0_1)) ∧ (w'.heap[gb444]? = some (.cells #[.int .u64 a0_0, .int .u64 a0_1] 55 (0, 0))) ∧ (w'.heap[gb445]? = some (.cells #[.int .u64 0, .int .u64 0] 55 (0, 0))) ∧ (w'.heap[s_]? = some (.cells #[.int .u64 0, .int .u64 0] 55 (0, 0))) ∧ (w.heap.size ≤ s_) ∧ (w.heap.size ≤ s_) ∧ (gb444 ≠ s_) ∧ (s_ ≠ gb444) ∧ (gb445 ≠ s_) ∧ (s_ ≠ gb445) ∧ (Below w.heap.size w w')) ?_ ?_
        rotate_left
        · intro hCont
          refine two_ (i := 3) (j := 8) (Ni := some 28) (Nj := some 7) #[true, true, true, true, false, false, false, false, false, false, false] #[true, true, true, false, false, false, false, false, true, false, false] rfl rfl rfl rfl (two_of HT_.out (by kernel_rfl)) (by decide) (by decide) (fun K hK => ?_) (fun K hK => ?_)
          · skip
            refine goes_ Try.func51 (by kernel_rfl) rfl #[.int .u64 x4_1, .int .u64 x4_1] (by rfl) rfl rfl (by (try simp only [List.map_toArray, List.map_cons, List.map_nil]); first | done | rfl | (simp only [List.length_drop, List.length_take]; rfl)) ?_
            with_reducible refine (twin_Mul.calls x4_1 x4_1 t446 t447 _ A16.out).mono ?_
            rintro e w19 ⟨rfl, hb⟩
            refine ⟨_, rfl, ?_⟩
            have n0_ := Aside0.mk (bB3 BK444.out hb)
            have n1_ := Aside0.mk (bB3 BK445.out hb)
            have n2_ := Aside0.mk (bS3 HB.out hb)
            clear BK444
            clear BK445
            clear HB
            have BK444 := n0_
            have BK445 := n1_
            have HB := n2_
            clear n0_ n1_ n2_
            (try clear hb)
            (try clear hb2)
            (try clear hk)
            (try clear hi)
            refine hK.out _ _ ⟨(blk_cell BK444.out 0).trans rfl, (blk_cell BK444.out 1).trans rfl⟩ (fun hHeld => ?_)
            clear hK K
            refine norm_ (a' := ?_) ?_ ?_
            rotate_left
            · show Act.put _ (some 28) _ = _
              simp only [Act.put, List.setIfInBounds_toArray, List.set_cons_zero, List.set_cons_succ, i64_w, i32_w]
              rfl
            refine two_ (i := 4) (j := 8) (Ni := some 29) (Nj := some 7) #[true, true, true, true, true, false, false, false, false, false, false] #[true, true, true, true, false, false, false, false, true, false, false] rfl rfl rfl rfl (two_of HT_.out (by kernel_rfl)) (by decide) (by decide) (fun K hK => ?_) (fun K hK => ?_)
            · skip
              refine goes_ Try.func71 (by kernel_rfl) rfl #[.agg #[.int .u64 a0_0, .int .u64 a0_1], .agg #[.int .u64 t446, .int .u64 t447]] (by rfl) rfl rfl (by (try simp only [List.map_toArray, List.map_cons, List.map_nil]); first | done | rfl | (simp only [List.length_drop, List.length_take]; rfl)) ?_
              with_reducible refine (twin_Sub.calls a0_0 a0_1 t446 t447 t448 t449 t450 _ A17.out).mono ?_
              rintro e w20 ⟨rfl, hb⟩
              refine ⟨_, rfl, ?_⟩
              have n0_ := Aside0.mk (bB3 BK444.out hb)
              have n1_ := Aside0.mk (bB3 BK445.out hb)
              have n2_ := Aside0.mk (bS3 HB.out hb)
              clear BK444
              clear BK445
              clear HB
              have BK444 := n0_
              have BK445 := n1_
              have HB := n2_
              clear n0_ n1_ n2_
              (try clear hb)
              (try clear hb2)
              (try clear hk)
              (try clear hi)
              refine hK.out _ _ ⟨(blk_cell BK444.out 0).trans rfl, (blk_cell BK444.out 1).trans rfl⟩ (fun hHeld => ?_)
              clear hK K
              refine norm_ (a' := ?_) ?_ ?_
              rotate_left
              · show Act.put _ (some 29) _ = _
                simp only [Act.put, List.setIfInBounds_toArray, List.set_cons_zero, List.set_cons_succ, i64_w, i32_w]
                rfl
              refine pure_ (i := 5) (N := some 24) (v := ?_) (a' := ?_) #[true, true, true, true, true, true, false, false, false, false, false] rfl rfl (any_of HT_.out (by kernel_rfl)) (fun _ _ _ h => h) (Or.inl ⟨by rfl, ?_⟩) ?_ ?_
              rotate_left
              · intro w'
                go_simp
                with_reducible rfl
              rotate_left
              · simp only [Act.put, List.setIfInBounds_toArray, List.set_cons_zero, List.set_cons_succ, i64_w, i32_w]
                rfl
              refine pure_ (i := 6) (N := some 30) (v := ?_) (a' := ?_) #[true, true, true, true, true, true, true, false, false, false, false] rfl rfl (any_of HT_.out (by kernel_rfl)) (fun _ _ _ h => h) (Or.inl ⟨by rfl, ?_⟩) ?_ ?_
              rotate_left
              · intro w'
                go_simp
                with_reducible rfl
              rotate_left
              · simp only [Act.put, List.setIfInBounds_toArray, List.set_cons_zero, List.set_cons_succ, i64_w, i32_w]
                rfl
              refine pure_ (i := 7) (N := some 31) (v := ?_) (a' := ?_) #[true, true, true, true, true, true, true, true, false, false, false] rfl rfl (any_of HT_.out (by kernel_rfl)) (fun _ _ _ h => h) (Or.inl ⟨by rfl, ?_⟩) ?_ ?_
              rotate_left
              · intro w'
                go_simp
                with_reducible rfl
              rotate_left
              · simp only [Act.put, List.setIfInBounds_toArray, List.set_cons_zero, List.set_cons_succ, i64_w, i32_w]
                rfl
              refine one_ (i := 8) (N := some 7) #[true, true, true, true, true, true, true, true, true, false, false] rfl rfl (one_of HT_.out (by kernel_rfl)) (by decide) (fun K hK => ?_)
              refine box_step ?hg (N := 7) ?hd (cs := #[.int .u64 0, .int .u64 0]) (t := 55) ?hr ?_; (case hd => rfl); (case hg => rfl); (case hr => first | (go_simp; done) | (go_simp; rfl))
              intro gb451 hg w21 hbox hb
              have n0_ := Aside0.mk (bB3 BK444.out hb)
              have n1_ := Aside0.mk (bB3 BK445.out hb)
              have n2_ := Aside0.mk (bS3 HB.out hb)
              have n3_ := Aside0.mk (hbox)
              have n4_ := Aside0.mk ((bZ3 hg HB.out))
              have n5_ := Aside0.mk ((bZ3 hg HB.out))
              have n6_ := Aside0.mk ((bL3 hg BK444.out))
              have n7_ := Aside0.mk ((bG3 hg BK444.out))
              have n8_ := Aside0.mk ((bL3 hg BK445.out))
              have n9_ := Aside0.mk ((bG3 hg BK445.out))
              clear BK444
              clear BK445
              clear HB
              have BK444 := n0_
              have BK445 := n1_
              have HB := n2_
              have BK451 := n3_
              have GW451 := n4_
              have GE451 := n5_
              have NB444_451 := n6_
              have NB451_444 := n7_
              have NB445_451 := n8_
              have NB451_445 := n9_
              clear n0_ n1_ n2_ n3_ n4_ n5_ n6_ n7_ n8_ n9_
              clear hb hbox hg
              refine hK.out _ _ ⟨(blk_cell BK444.out 0).trans rfl, (blk_cell BK444.out 1).trans rfl⟩ (fun hHeld => ?_)
              clear hK K
              refine norm_ (a' := ?_) ?_ ?_
              rotate_left
              · show Act.put _ (some 7) _ = _
                simp only [Act.put, List.setIfInBounds_toArray, List.set_cons_zero, List.set_cons_succ, i64_w, i32_w]
                rfl
              exact norm_ (by simp only [putAll, Act.put, List.setIfInBounds_toArray, List.set_cons_zero, List.set_cons_succ]) (hCont (gb451) _ ⟨hHeld, (by (with_reducible repeat (first | refine bN ?_ _ | refine bD ?_ | refine bA ?_ _)); exact BK444.out), (by (with_reducible repeat (first | refine bN ?_ _ | refine bD ?_ | refine bA ?_ _)); exact BK445.out), (by (with_reducible repeat (first | refine bN ?_ _ | refine bD ?_ | refine bA ?_ _)); exact BK451.out), GW451.out, GE451.out, NB444_451.out, NB451_444.out, NB445_451.out, NB451_445.out, (by repeat (first | (with_reducible first | exact HB.out | apply pA | apply pN | apply p1 | refine pS ?_ GE444.out | refine pS ?_ GE445.out | refine pS ?_ GE451.out) | exact HB.out))⟩)
            · skip
              refine box_step ?hg (N := 7) ?hd (cs := #[.int .u64 0, .int .u64 0]) (t := 55) ?hr ?_; (case hd => rfl); (case hg => rfl); (case hr => first | (go_simp; done) | (go_simp; rfl))
              intro gb451 hg w20 hbox hb
              have n0_ := Aside0.mk (bB3 BK444.out hb)
              have n1_ := Aside0.mk (bB3 BK445.out hb)
              have n2_ := Aside0.mk (bS3 HB.out hb)
              have n3_ := Aside0.mk (hbox)
              have n4_ := Aside0.mk ((bZ3 hg HB.out))
              have n5_ := Aside0.mk ((bZ3 hg HB.out))
              have n6_ := Aside0.mk ((bL3 hg BK444.out))
              have n7_ := Aside0.mk ((bG3 hg BK444.out))
              have n8_ := Aside0.mk ((bL3 hg BK445.out))
              have n9_ := Aside0.mk ((bG3 hg BK445.out))
              clear BK444
              clear BK445
              clear HB
              have BK444 := n0_
              have BK445 := n1_
              have HB := n2_
              have BK451 := n3_
              have GW451 := n4_
              have GE451 := n5_
              have NB444_451 := n6_
              have NB451_444 := n7_
              have NB445_451 := n8_
              have NB451_445 := n9_
              clear n0_ n1_ n2_ n3_ n4_ n5_ n6_ n7_ n8_ n9_
              clear hb hbox hg
              refine hK.out _ _ ⟨(blk_cell BK444.out 0).trans rfl, (blk_cell BK444.out 1).trans rfl⟩ (fun hHeld => ?_)
              clear hK K
              refine norm_ (a' := ?_) ?_ ?_
              rotate_left
              · show Act.put _ (some 7) _ = _
                simp only [Act.put, List.setIfInBounds_toArray, List.set_cons_zero, List.set_cons_succ, i64_w, i32_w]
                rfl
              refine one_ (i := 4) (N := some 29) #[true, true, true, true, true, false, false, false, true, false, false] rfl rfl (one_of HT_.out (by kernel_rfl)) (by decide) (fun K hK => ?_)
              refine goes_ Try.func71 (by kernel_rfl) rfl #[.agg #[.int .u64 a0_0, .int .u64 a0_1], .agg #[.int .u64 t446, .int .u64 t447]] (by rfl) rfl rfl (by (try simp only [List.map_toArray, List.map_cons, List.map_nil]); first | done | rfl | (simp only [List.length_drop, List.length_take]; rfl)) ?_
              with_reducible refine (twin_Sub.calls a0_0 a0_1 t446 t447 t448 t449 t450 _ A17.out).mono ?_
              rintro e w21 ⟨rfl, hb⟩
              refine ⟨_, rfl, ?_⟩
              have n0_ := Aside0.mk (bB3 BK444.out hb)
              have n1_ := Aside0.mk (bB3 BK445.out hb)
              have n2_ := Aside0.mk (bB3 BK451.out hb)
              have n3_ := Aside0.mk (bS3 HB.out hb)
              clear BK444
              clear BK445
              clear BK451
              clear HB
              have BK444 := n0_
              have BK445 := n1_
              have BK451 := n2_
              have HB := n3_
              clear n0_ n1_ n2_ n3_
              (try clear hb)
              (try clear hb2)
              (try clear hk)
              (try clear hi)
              refine hK.out _ _ ⟨(blk_cell BK444.out 0).trans rfl, (blk_cell BK444.out 1).trans rfl⟩ (fun hHeld => ?_)
              clear hK K
              refine norm_ (a' := ?_) ?_ ?_
              rotate_left
              · show Act.put _ (some 29) _ = _
                simp only [Act.put, List.setIfInBounds_toArray, List.set_cons_zero, List.set_cons_succ, i64_w, i32_w]
                rfl
              refine pure_ (i := 5) (N := some 24) (v := ?_) (a' := ?_) #[true, true, true, true, true, true, false, false, true, false, false] rfl rfl (any_of HT_.out (by kernel_rfl)) (fun _ _ _ h => h) (Or.inl ⟨by rfl, ?_⟩) ?_ ?_
              rotate_left
              · intro w'
                go_simp
                with_reducible rfl
              rotate_left
              · simp only [Act.put, List.setIfInBounds_toArray, List.set_cons_zero, List.set_cons_succ, i64_w, i32_w]
                rfl
              refine pure_ (i := 6) (N := some 30) (v := ?_) (a' := ?_) #[true, true, true, true, true, true, true, false, true, false, false] rfl rfl (any_of HT_.out (by kernel_rfl)) (fun _ _ _ h => h) (Or.inl ⟨by rfl, ?_⟩) ?_ ?_
              rotate_left
              · intro w'
                go_simp
                with_reducible rfl
              rotate_left
              · simp only [Act.put, List.setIfInBounds_toArray, List.set_cons_zero, List.set_cons_succ, i64_w, i32_w]
                rfl
              refine pure_ (i := 7) (N := some 31) (v := ?_) (a' := ?_) #[true, true, true, true, true, true, true, true, true, false, false] rfl rfl (any_of HT_.out (by kernel_rfl)) (fun _ _ _ h => h) (Or.inl ⟨by rfl, ?_⟩) ?_ ?_
              rotate_left
              · intro w'
                go_simp
                with_reducible rfl
              rotate_left
              · simp only [Act.put, List.setIfInBounds_toArray, List.set_cons_zero, List.set_cons_succ, i64_w, i32_w]
                rfl
              exact norm_ (by simp only [putAll, Act.put, List.setIfInBounds_toArray, List.set_cons_zero, List.set_cons_succ]) (hCont (gb451) _ ⟨hHeld, (by (with_reducible repeat (first | refine bN ?_ _ | refine bD ?_ | refine bA ?_ _)); exact BK444.out), (by (with_reducible repeat (first | refine bN ?_ _ | refine bD ?_ | refine bA ?_ _)); exact BK445.out), (by (with_reducible repeat (first | refine bN ?_ _ | refine bD ?_ | refine bA ?_ _)); exact BK451.out), GW451.out, GE451.out, NB444_451.out, NB451_444.out, NB445_451.out, NB451_445.out, (by repeat (first | (with_reducible first | exact HB.out | apply pA | apply pN | apply p1 | refine pS ?_ GE444.out | refine pS ?_ GE445.out | refine pS ?_ GE451.out) | exact HB.out))⟩)
          · skip
            refine box_step ?hg (N := 7) ?hd (cs := #[.int .u64 0, .int .u64 0]) (t := 55) ?hr ?_; (case hd => rfl); (case hg => rfl); (case hr => first | (go_simp; done) | (go_simp; rfl))
            intro gb451 hg w19 hbox hb
            have n0_ := Aside0.mk (bB3 BK444.out hb)
            have n1_ := Aside0.mk (bB3 BK445.out hb)
            have n2_ := Aside0.mk (bS3 HB.out hb)
            have n3_ := Aside0.mk (hbox)
            have n4_ := Aside0.mk ((bZ3 hg HB.out))
            have n5_ := Aside0.mk ((bZ3 hg HB.out))
            have n6_ := Aside0.mk ((bL3 hg BK444.out))
            have n7_ := Aside0.mk ((bG3 hg BK444.out))
            have n8_ := Aside0.mk ((bL3 hg BK445.out))
            have n9_ := Aside0.mk ((bG3 hg BK445.out))
            clear BK444
            clear BK445
            clear HB
            have BK444 := n0_
            have BK445 := n1_
            have HB := n2_
            have BK451 := n3_
            have GW451 := n4_
            have GE451 := n5_
            have NB444_451 := n6_
            have NB451_444 := n7_
            have NB445_451 := n8_
            have NB451_445 := n9_
            clear n0_ n1_ n2_ n3_ n4_ n5_ n6_ n7_ n8_ n9_
            clear hb hbox hg
            refine hK.out _ _ ⟨(blk_cell BK444.out 0).trans rfl, (blk_cell BK444.out 1).trans rfl⟩ (fun hHeld => ?_)
            clear hK K
            refine norm_ (a' := ?_) ?_ ?_
            rotate_left
            · show Act.put _ (some 7) _ = _
              simp only [Act.put, List.setIfInBounds_toArray, List.set_cons_zero, List.set_cons_succ, i64_w, i32_w]
              rfl
            refine one_ (i := 3) (N := some 28) #[true, true, true, true, false, false, false, false, true, false, false] rfl rfl (one_of HT_.out (by kernel_rfl)) (by decide) (fun K hK => ?_)
            refine goes_ Try.func51 (by kernel_rfl) rfl #[.int .u64 x4_1, .int .u64 x4_1] (by rfl) rfl rfl (by (try simp only [List.map_toArray, List.map_cons, List.map_nil]); first | done | rfl | (simp only [List.length_drop, List.length_take]; rfl)) ?_
            with_reducible refine (twin_Mul.calls x4_1 x4_1 t446 t447 _ A16.out).mono ?_
            rintro e w20 ⟨rfl, hb⟩
            refine ⟨_, rfl, ?_⟩
            have n0_ := Aside0.mk (bB3 BK444.out hb)
            have n1_ := Aside0.mk (bB3 BK445.out hb)
            have n2_ := Aside0.mk (bB3 BK451.out hb)
            have n3_ := Aside0.mk (bS3 HB.out hb)
            clear BK444
            clear BK445
            clear BK451
            clear HB
            have BK444 := n0_
            have BK445 := n1_
            have BK451 := n2_
            have HB := n3_
            clear n0_ n1_ n2_ n3_
            (try clear hb)
            (try clear hb2)
            (try clear hk)
            (try clear hi)
            refine hK.out _ _ ⟨(blk_cell BK444.out 0).trans rfl, (blk_cell BK444.out 1).trans rfl⟩ (fun hHeld => ?_)
            clear hK K
            refine norm_ (a' := ?_) ?_ ?_
            rotate_left
            · show Act.put _ (some 28) _ = _
              simp only [Act.put, List.setIfInBounds_toArray, List.set_cons_zero, List.set_cons_succ, i64_w, i32_w]
              rfl
            refine one_ (i := 4) (N := some 29) #[true, true, true, true, true, false, false, false, true, false, false] rfl rfl (one_of HT_.out (by kernel_rfl)) (by decide) (fun K hK => ?_)
            refine goes_ Try.func71 (by kernel_rfl) rfl #[.agg #[.int .u64 a0_0, .int .u64 a0_1], .agg #[.int .u64 t446, .int .u64 t447]] (by rfl) rfl rfl (by (try simp only [List.map_toArray, List.map_cons, List.map_nil]); first | done | rfl | (simp only [List.length_drop, List.length_take]; rfl)) ?_
            with_reducible refine (twin_Sub.calls a0_0 a0_1 t446 t447 t448 t449 t450 _ A17.out).mono ?_
            rintro e w21 ⟨rfl, hb⟩
            refine ⟨_, rfl, ?_⟩
            have n0_ := Aside0.mk (bB3 BK444.out hb)
            have n1_ := Aside0.mk (bB3 BK445.out hb)
            have n2_ := Aside0.mk (bB3 BK451.out hb)
            have n3_ := Aside0.mk (bS3 HB.out hb)
            clear BK444
            clear BK445
            clear BK451
            clear HB
            have BK444 := n0_
            have BK445 := n1_
            have BK451 := n2_
            have HB := n3_
            clear n0_ n1_ n2_ n3_
            (try clear hb)
            (try clear hb2)
            (try clear hk)
            (try clear hi)
            refine hK.out _ _ ⟨(blk_cell BK444.out 0).trans rfl, (blk_cell BK444.out 1).trans rfl⟩ (fun hHeld => ?_)
            clear hK K
            refine norm_ (a' := ?_) ?_ ?_
            rotate_left
            · show Act.put _ (some 29) _ = _
              simp only [Act.put, List.setIfInBounds_toArray, List.set_cons_zero, List.set_cons_succ, i64_w, i32_w]
              rfl
            refine pure_ (i := 5) (N := some 24) (v := ?_) (a' := ?_) #[true, true, true, true, true, true, false, false, true, false, false] rfl rfl (any_of HT_.out (by kernel_rfl)) (fun _ _ _ h => h) (Or.inl ⟨by rfl, ?_⟩) ?_ ?_
            rotate_left
            · intro w'
              go_simp
              with_reducible rfl
            rotate_left
            · simp only [Act.put, List.setIfInBounds_toArray, List.set_cons_zero, List.set_cons_succ, i64_w, i32_w]
              rfl
            refine pure_ (i := 6) (N := some 30) (v := ?_) (a' := ?_) #[true, true, true, true, true, true, true, false, true, false, false] rfl rfl (any_of HT_.out (by kernel_rfl)) (fun _ _ _ h => h) (Or.inl ⟨by rfl, ?_⟩) ?_ ?_
            rotate_left
            · intro w'
              go_simp
              with_reducible rfl
            rotate_left
            · simp only [Act.put, List.setIfInBounds_toArray, List.set_cons_zero, List.set_cons_succ, i64_w, i32_w]
              rfl
            refine pure_ (i := 7) (N := some 31) (v := ?_) (a' := ?_) #[true, true, true, true, true, true, true, true, true, false, false] rfl rfl (any_of HT_.out (by kernel_rfl)) (fun _ _ _ h => h) (Or.inl ⟨by rfl, ?_⟩) ?_ ?_
            rotate_left
            · intro w'
              go_simp
              with_reducible rfl
            rotate_left
            · simp only [Act.put, List.setIfInBounds_toArray, List.set_cons_zero, List.set_cons_succ, i64_w, i32_w]
              rfl
            exact norm_ (by simp only [putAll, Act.put, List.setIfInBounds_toArray, List.set_cons_zero, List.set_cons_succ]) (hCont (gb451) _ ⟨hHeld, (by (with_reducible repeat (first | refine bN ?_ _ | refine bD ?_ | refine bA ?_ _)); exact BK444.out), (by (with_reducible repeat (first | refine bN ?_ _ | refine bD ?_ | refine bA ?_ _)); exact BK445.out), (by (with_reducible repeat (first | refine bN ?_ _ | refine bD ?_ | refine bA ?_ _)); exact BK451.out), GW451.out, GE451.out, NB444_451.out, NB451_444.out, NB445_451.out, NB451_445.out, (by repeat (first | (with_reducible first | exact HB.out | apply pA | apply pN | apply p1 | refine pS ?_ GE444.out | refine pS ?_ GE445.out | refine pS ?_ GE451.out) | exact HB.out))⟩)
        rintro gb451 w22 ⟨hS_, h0_, h1_, h2_, h3_, h4_, h5_, h6_, h7_, h8_, h9_⟩
        have n0_ : Aside0 (w22.heap[gb444]? = some (.cells #[.int .u64 a0_0, .int .u64 a0_1] 55 (0, 0))) := ⟨h0_⟩
        have n1_ : Aside0 (w22.heap[gb445]? = some (.cells #[.int .u64 0, .int .u64 0] 55 (0, 0))) := ⟨h1_⟩
        have n2_ : Aside0 (w22.heap[gb451]? = some (.cells #[.int .u64 0, .int .u64 0] 55 (0, 0))) := ⟨h2_⟩
        have n3_ : Aside0 (w.heap.size ≤ gb451) := ⟨h3_⟩
        have n4_ : Aside0 (w.heap.size ≤ gb451) := ⟨h4_⟩
        have n5_ : Aside0 (gb444 ≠ gb451) := ⟨h5_⟩
        have n6_ : Aside0 (gb451 ≠ gb444) := ⟨h6_⟩
        have n7_ : Aside0 (gb445 ≠ gb451) := ⟨h7_⟩
        have n8_ : Aside0 (gb451 ≠ gb445) := ⟨h8_⟩
        have n9_ : Aside0 (Below w.heap.size w w22) := ⟨h9_⟩
        clear BK444
        clear BK445
        clear HB
        clear h0_ h1_ h2_ h3_ h4_ h5_ h6_ h7_ h8_ h9_
        have BK444 := n0_
        have BK445 := n1_
        have BK451 := n2_
        have GW451 := n3_
        have GE451 := n4_
        have NB444_451 := n5_
        have NB451_444 := n6_
        have NB445_451 := n7_
        have NB451_445 := n8_
        have HB := n9_
        clear n0_ n1_ n2_ n3_ n4_ n5_ n6_ n7_ n8_ n9_
        have hHeld : w22.cell? ⟨gb444, 0, none⟩ = some (.int .u64 a0_0) ∧ w22.cell? ⟨gb444, 1, none⟩ = some (.int .u64 a0_1) := hS_
        refine norm_ (a' := ?_) ?_ ?_
        rotate_left
        · simp only [putAll, Act.put, List.setIfInBounds_toArray, List.set_cons_zero, List.set_cons_succ]
          rfl
        refine one_ (i := 9) (N := none) #[true, true, true, true, true, true, true, true, true, true, false] rfl rfl (one_of HT_.out (by kernel_rfl)) (by decide) (fun K hK => ?_)
        have hs23 : w22.cell? ⟨gb451, 0, none⟩ = some (.int .u64 0) := (blk_cell BK451.out 0).trans rfl
        have hfs23 := blk_frozen BK451.out 0
        have hns23_0 := NB444_451.out
        have hns23_1 := NB445_451.out
        have hms23_0 := NB451_444.out
        have hms23_1 := NB451_445.out
        have hs24 : w22.cell? ⟨gb451, 1, none⟩ = some (.int .u64 0) := (blk_cell BK451.out 1).trans rfl
        have hfs24 := blk_frozen BK451.out 1
        have hns24_0 := NB444_451.out
        have hns24_1 := NB445_451.out
        have hms24_0 := NB451_444.out
        have hms24_1 := NB451_445.out
        refine skip_ (w1 := ?_) (by rfl) rfl ?_ ?_
        rotate_left
        · go_simp
          rfl
        refine hK.out _ _ ⟨((cell_far (p := ⟨gb451, _, none⟩) NB444_451.out _).trans (((cell_far (p := ⟨gb451, _, none⟩) NB444_451.out _).trans (hHeld.1)))), ((cell_far (p := ⟨gb451, _, none⟩) NB444_451.out _).trans (((cell_far (p := ⟨gb451, _, none⟩) NB444_451.out _).trans (hHeld.2))))⟩ (fun hHeld => ?_)
        clear hK K
        refine pure_ (i := 10) (N := some 8) (v := ?_) (a' := ?_) #[true, true, true, true, true, true, true, true, true, true, true] rfl rfl (any_of HT_.out (by kernel_rfl)) (fun _ _ _ h => h) (Or.inl ⟨by rfl, ?_⟩) ?_ ?_
        rotate_left
        · intro w'
          go_simp
          with_reducible rfl
        rotate_left
        · simp only [Act.put, List.setIfInBounds_toArray, List.set_cons_zero, List.set_cons_succ, i64_w, i32_w]
          rfl
        refine done_ (done_of HT_.out (by kernel_rfl)) ?_
        try go_wp2
        have n0_ : Aside0 (((w22.setCell ⟨gb451, 0, none⟩ (.int .u64 t448)).setCell ⟨gb451, 1, none⟩ (.int .u64 t449)).heap[gb444]? = some (.cells #[.int .u64 a0_0, .int .u64 a0_1] 55 (0, 0))) := ⟨by (with_reducible repeat (first | refine bN ?_ _ | refine bD ?_ | refine bA ?_ _)); refine blk_far ?_ NB444_451.out _; (with_reducible repeat (first | refine bN ?_ _ | refine bD ?_ | refine bA ?_ _)); refine blk_far ?_ NB444_451.out _; (with_reducible repeat (first | refine bN ?_ _ | refine bD ?_ | refine bA ?_ _)); exact BK444.out⟩
        have n1_ : Aside0 (((w22.setCell ⟨gb451, 0, none⟩ (.int .u64 t448)).setCell ⟨gb451, 1, none⟩ (.int .u64 t449)).heap[gb445]? = some (.cells #[.int .u64 0, .int .u64 0] 55 (0, 0))) := ⟨by (with_reducible repeat (first | refine bN ?_ _ | refine bD ?_ | refine bA ?_ _)); refine blk_far ?_ NB445_451.out _; (with_reducible repeat (first | refine bN ?_ _ | refine bD ?_ | refine bA ?_ _)); refine blk_far ?_ NB445_451.out _; (with_reducible repeat (first | refine bN ?_ _ | refine bD ?_ | refine bA ?_ _)); exact BK445.out⟩
        have n2_ : Aside0 (((w22.setCell ⟨gb451, 0, none⟩ (.int .u64 t448)).setCell ⟨gb451, 1, none⟩ (.int .u64 t449)).heap[gb451]? = some (.cells #[.int .u64 t448, .int .u64 t449] 55 (0, 0))) := ⟨by (with_reducible repeat (first | refine bN ?_ _ | refine bD ?_ | refine bA ?_ _)); refine blk_put (cs := #[.int .u64 t448, .int .u64 0]) ?_ 1 _ rfl; (with_reducible repeat (first | refine bN ?_ _ | refine bD ?_ | refine bA ?_ _)); refine blk_put (cs := #[.int .u64 0, .int .u64 0]) ?_ 0 _ rfl; (with_reducible repeat (first | refine bN ?_ _ | refine bD ?_ | refine bA ?_ _)); exact BK451.out⟩
        have n3_ : Aside0 (Below w.heap.size w ((w22.setCell ⟨gb451, 0, none⟩ (.int .u64 t448)).setCell ⟨gb451, 1, none⟩ (.int .u64 t449))) := ⟨by repeat (first | (with_reducible first | exact HB.out | apply pA | apply pN | apply p1 | refine pS ?_ GE444.out | refine pS ?_ GE445.out | refine pS ?_ GE451.out) | exact HB.out)⟩
        (try clear BK444)
        (try clear BK445)
        (try clear BK451)
        (try clear HB)
        generalize ((w22.setCell ⟨gb451, 0, none⟩ (.int .u64 t448)).setCell ⟨gb451, 1, none⟩ (.int .u64 t449)) = w25 at n0_ n1_ n2_ n3_ ⊢
        have BK444 := n0_
        have BK445 := n1_
        have BK451 := n2_
        have HB := n3_
        clear n0_ n1_ n2_ n3_
        have n0_ := Aside0.mk (bD BK444.out)
        have n1_ := Aside0.mk (bD BK445.out)
        have n2_ := Aside0.mk (bD BK451.out)
        have n3_ := Aside0.mk (p1 HB.out)
        clear BK444
        clear BK445
        clear BK451
        clear HB
        have BK444 := n0_
        have BK445 := n1_
        have BK451 := n2_
        have HB := n3_
        clear n0_ n1_ n2_ n3_
        refine start_ (n := 4) (S := fun w' => w'.cell? ⟨gb451, 0, none⟩ = some (.int .u64 t448) ∧ w'.cell? ⟨gb451, 1, none⟩ = some (.int .u64 t449)) (ds := []) #[false, false, false, false] (by kernel_rfl) rfl rfl ⟨(blk_cell BK451.out 0).trans rfl, (blk_cell BK451.out 1).trans rfl⟩ (fun hHeld => ?_)
        generalize w25.drew = w26 at BK444 BK445 BK451 HB hHeld ⊢
        refine pure_ (i := 0) (N := some 32) (v := ?_) (a' := ?_) #[true, false, false, false] rfl rfl (by kernel_rfl) (fun _ _ _ h => h) (Or.inl ⟨by rfl, ?_⟩) ?_ ?_
        rotate_left
        · intro w'
          go_simp
          with_reducible rfl
        rotate_left
        · simp only [Act.put, List.setIfInBounds_toArray, List.set_cons_zero, List.set_cons_succ, i64_w, i32_w]
          rfl
        refine pure_ (i := 2) (N := some 2) (v := ?_) (a' := ?_) #[true, false, true, false] rfl rfl (by kernel_rfl) (fun _ _ _ h => h) (Or.inl ⟨by rfl, ?_⟩) ?_ ?_
        rotate_left
        · intro w'
          go_simp
          with_reducible rfl
        rotate_left
        · simp only [Act.put, List.setIfInBounds_toArray, List.set_cons_zero, List.set_cons_succ, i64_w, i32_w]
          rfl
        refine take_ (i := 1) (N := some 33) (v := ?_) (a' := ?_) #[true, true, true, false] rfl rfl (by kernel_rfl) (fun _ _ _ h => h) (Or.inl ⟨by rfl, ?_⟩) hHeld ?_ ?_
        rotate_left
        · rintro w' ⟨s0, s1⟩
          go_simp
          with_reducible rfl
        rotate_left
        · simp only [Act.put, List.setIfInBounds_toArray, List.set_cons_zero, List.set_cons_succ, i64_w, i32_w]
          rfl
        refine one_ (i := 3) (N := none) #[true, true, true, true] rfl rfl (by kernel_rfl) (by decide) (fun K hK => ?_)
        have hs27 : w26.cell? ⟨gb445, 0, none⟩ = some (.int .u64 0) := (blk_cell BK445.out 0).trans rfl
        have hfs27 := blk_frozen BK445.out 0
        have hns27_0 := NB444_445.out
        have hns27_2 := NB451_445.out
        have hms27_0 := NB445_444.out
        have hms27_2 := NB445_451.out
        have hs28 : w26.cell? ⟨gb445, 1, none⟩ = some (.int .u64 0) := (blk_cell BK445.out 1).trans rfl
        have hfs28 := blk_frozen BK445.out 1
        have hns28_0 := NB444_445.out
        have hns28_2 := NB451_445.out
        have hms28_0 := NB445_444.out
        have hms28_2 := NB445_451.out
        refine skip_ (w1 := ?_) (by rfl) rfl ?_ ?_
        rotate_left
        · go_simp
          rfl
        refine hK.out _ _ ⟨((cell_far (p := ⟨gb445, _, none⟩) NB451_445.out _).trans (((cell_far (p := ⟨gb445, _, none⟩) NB451_445.out _).trans (hHeld.1)))), ((cell_far (p := ⟨gb445, _, none⟩) NB451_445.out _).trans (((cell_far (p := ⟨gb445, _, none⟩) NB451_445.out _).trans (hHeld.2))))⟩ (fun hHeld => ?_)
        clear hK K
        refine done_ (by kernel_rfl) ?_
        try go_wp2
        refine bodyPost_ret (results_tc rfl _ _ gb445 55 #[.int .u64 t448, .int .u64 t449] (0, 0) _ rfl (by (with_reducible repeat (first | refine bN ?_ _ | refine bD ?_ | refine bA ?_ _)); refine blk_put (cs := #[.int .u64 t448, .int .u64 0]) ?_ 1 _ rfl; (with_reducible repeat (first | refine bN ?_ _ | refine bD ?_ | refine bA ?_ _)); refine blk_put (cs := #[.int .u64 0, .int .u64 0]) ?_ 0 _ rfl; (with_reducible repeat (first | refine bN ?_ _ | refine bD ?_ | refine bA ?_ _)); exact BK445.out) Try.underlying55 rfl (by kernel_rfl)) rfl ?_
        exact ⟨by first | rfl | (simp [errW_none, errW_some] <;> rfl) | (simp [*, errW_none, errW_some] <;> rfl), by repeat (first | (with_reducible first | exact HB.out | apply pA | apply pN | apply p1 | refine pS ?_ GE444.out | refine pS ?_ GE445.out | refine pS ?_ GE451.out) | exact HB.out)⟩

/-! ### part_Long: function 48 -/
def part_Long.f (k : Nat) (a0_0 : Int) (a0_1 : Int) (a1 : Int) : Option (Int × Int × Int × Option Int) := if a1 = 0 then (some (0, 0, 0, some 4)) else ((bits_Div64.f k (Int.tmod a0_0 a1) a0_1 a1).bind fun bt708 => (some (IntKind.u64.wrap (Int.tdiv a0_0 a1), bt708.1, bt708.2, none)))
theorem part_Long.mono : ∀ a0 a1 a2 k, LeO (part_Long.f k a0 a1 a2) (part_Long.f (k + 1) a0 a1 a2) := by
  intro a0 a1 a2 k
  unfold part_Long.f
  repeat' first
      | (with_reducible exact bits_Div64.mono _ _ _ _)
      | (with_reducible exact LeO.refl _)
      | (with_reducible exact LeO.none _)
      | (with_reducible refine LeO.ite ?_ ?_)
      | (with_reducible refine LeO.bind ?_ (fun _ => ?_))
      | exact bits_Div64.mono _ _ _ _
      | exact LeO.none _
      | refine LeO.ite ?_ ?_
      | refine LeO.bind ?_ (fun _ => ?_)
set_option maxHeartbeats 8000000 in
set_option maxRecDepth 100000 in
theorem part_Long.calls (k : Nat) (a0_0 : Int) (a0_1 : Int) (a1 : Int) (r1 : Int) (r2 : Int) (r3 : Int) (r4 : Option Int) (w : World) (h : part_Long.f k a0_0 a0_1 a1 = some (r1, r2, r3, r4)) :
    Calls Try.prog 48 #[.agg #[.int .u64 a0_0, .int .u64 a0_1], .int .u64 a1] w fun e w' => e = .returned (.tuple #[.agg #[.int .u64 r1, .int .u64 r2], .int .u64 r3, errW r4]) ∧ Below w.heap.size w w' := by
  have hu55 := Try.underlying55
  have hu25 := Try.underlying25
  have hu33 := Try.underlying33
  have HB := Aside0.mk (Below.refl w.heap.size w)
  have H : (if a1 = 0 then (some (0, 0, 0, some 4)) else ((bits_Div64.f k (Int.tmod a0_0 a1) a0_1 a1).bind fun bt708 => (some (IntKind.u64.wrap (Int.tdiv a0_0 a1), bt708.1, bt708.2, none)))) = some (r1, r2, r3, r4) := h
  clear h
  by_cases c3 : a1 = 0
  · rw [if_pos c3] at H
    have c3b0 : (a1 == 0) = true := beq_iff_eq.mpr c3
    have c3b1 : (a1 != 0) = false := bne_eq_false_iff_eq.mpr c3
    clear c3
    simp only [Option.some.injEq, Prod.mk.injEq] at H
    obtain ⟨rfl, rfl, rfl, rfl⟩ := H
    go_enter Try.func48, Try.ntmps48
    go_wp2_with (first | ((with_reducible refine gD (N := 2) rfl ?_); refine bE3 2 #[.int .u64 a0_0, .int .u64 a0_1] 55 ?hr ?_; (case hr => first | (go_simp; done) | (go_simp; rfl)); intro gb706 hg w4 hbox hb; have n0_ := Aside0.mk (bS3 HB.out hb); have n1_ := Aside0.mk (hbox); have n2_ := Aside0.mk ((bZ3 hg HB.out)); have n3_ := Aside0.mk ((bZ3 hg HB.out)); clear HB; have HB := n0_; have BK706 := n1_; have GW706 := n2_; have GE706 := n3_; clear n0_ n1_ n2_ n3_; clear hb hbox hg) | ((with_reducible refine gD (N := 4) rfl ?_); refine bE3 4 #[.int .u64 0, .int .u64 0] 55 ?hr ?_; (case hr => first | (go_simp; done) | (go_simp; rfl)); intro gb707 hg w5 hbox hb; have n0_ := Aside0.mk (bB3 BK706.out hb); have n1_ := Aside0.mk (bS3 HB.out hb); have n2_ := Aside0.mk (hbox); have n3_ := Aside0.mk ((bZ3 hg HB.out)); have n4_ := Aside0.mk ((bZ3 hg HB.out)); have n5_ := Aside0.mk ((bL3 hg BK706.out)); have n6_ := Aside0.mk ((bG3 hg BK706.out)); clear BK706; clear HB; have BK706 := n0_; have HB := n1_; have BK707 := n2_; have GW707 := n3_; have GE707 := n4_; have NB706_707 := n5_; have NB707_706 := n6_; clear n0_ n1_ n2_ n3_ n4_ n5_ n6_; clear hb hbox hg; have hnb6 := NB707_706.out; have hnc6 := NB706_707.out; have hcz7_0 : w5.cell? ⟨gb707, 0, none⟩ = some (.int .u64 0) := (blk_cell BK707.out 0).trans rfl; have hcz7_1 : w5.cell? ⟨gb707, 1, none⟩ = some (.int .u64 0) := (blk_cell BK707.out 1).trans rfl; have hfz7_0 := blk_frozen BK707.out 0; have hfz7_1 := blk_frozen BK707.out 1))
    repeat (go_quiet (first | ((with_reducible refine gD (N := 2) rfl ?_); refine bE3 2 #[.int .u64 a0_0, .int .u64 a0_1] 55 ?hr ?_; (case hr => first | (go_simp; done) | (go_simp; rfl)); intro gb706 hg w4 hbox hb; have n0_ := Aside0.mk (bS3 HB.out hb); have n1_ := Aside0.mk (hbox); have n2_ := Aside0.mk ((bZ3 hg HB.out)); have n3_ := Aside0.mk ((bZ3 hg HB.out)); clear HB; have HB := n0_; have BK706 := n1_; have GW706 := n2_; have GE706 := n3_; clear n0_ n1_ n2_ n3_; clear hb hbox hg) | ((with_reducible refine gD (N := 4) rfl ?_); refine bE3 4 #[.int .u64 0, .int .u64 0] 55 ?hr ?_; (case hr => first | (go_simp; done) | (go_simp; rfl)); intro gb707 hg w5 hbox hb; have n0_ := Aside0.mk (bB3 BK706.out hb); have n1_ := Aside0.mk (bS3 HB.out hb); have n2_ := Aside0.mk (hbox); have n3_ := Aside0.mk ((bZ3 hg HB.out)); have n4_ := Aside0.mk ((bZ3 hg HB.out)); have n5_ := Aside0.mk ((bL3 hg BK706.out)); have n6_ := Aside0.mk ((bG3 hg BK706.out)); clear BK706; clear HB; have BK706 := n0_; have HB := n1_; have BK707 := n2_; have GW707 := n3_; have GE707 := n4_; have NB706_707 := n5_; have NB707_706 := n6_; clear n0_ n1_ n2_ n3_ n4_ n5_ n6_; clear hb hbox hg; have hnb6 := NB707_706.out; have hnc6 := NB706_707.out; have hcz7_0 : w5.cell? ⟨gb707, 0, none⟩ = some (.int .u64 0) := (blk_cell BK707.out 0).trans rfl; have hcz7_1 : w5.cell? ⟨gb707, 1, none⟩ = some (.int .u64 0) := (blk_cell BK707.out 1).trans rfl; have hfz7_0 := blk_frozen BK707.out 0; have hfz7_1 := blk_frozen BK707.out 1)); try go_wp2_with (first | ((with_reducible refine gD (N := 2) rfl ?_); refine bE3 2 #[.int .u64 a0_0, .int .u64 a0_1] 55 ?hr ?_; (case hr => first | (go_simp; done) | (go_simp; rfl)); intro gb706 hg w4 hbox hb; have n0_ := Aside0.mk (bS3 HB.out hb); have n1_ := Aside0.mk (hbox); have n2_ := Aside0.mk ((bZ3 hg HB.out)); have n3_ := Aside0.mk ((bZ3 hg HB.out)); clear HB; have HB := n0_; have BK706 := n1_; have GW706 := n2_; have GE706 := n3_; clear n0_ n1_ n2_ n3_; clear hb hbox hg) | ((with_reducible refine gD (N := 4) rfl ?_); refine bE3 4 #[.int .u64 0, .int .u64 0] 55 ?hr ?_; (case hr => first | (go_simp; done) | (go_simp; rfl)); intro gb707 hg w5 hbox hb; have n0_ := Aside0.mk (bB3 BK706.out hb); have n1_ := Aside0.mk (bS3 HB.out hb); have n2_ := Aside0.mk (hbox); have n3_ := Aside0.mk ((bZ3 hg HB.out)); have n4_ := Aside0.mk ((bZ3 hg HB.out)); have n5_ := Aside0.mk ((bL3 hg BK706.out)); have n6_ := Aside0.mk ((bG3 hg BK706.out)); clear BK706; clear HB; have BK706 := n0_; have HB := n1_; have BK707 := n2_; have GW707 := n3_; have GE707 := n4_; have NB706_707 := n5_; have NB707_706 := n6_; clear n0_ n1_ n2_ n3_ n4_ n5_ n6_; clear hb hbox hg; have hnb6 := NB707_706.out; have hnc6 := NB706_707.out; have hcz7_0 : w5.cell? ⟨gb707, 0, none⟩ = some (.int .u64 0) := (blk_cell BK707.out 0).trans rfl; have hcz7_1 : w5.cell? ⟨gb707, 1, none⟩ = some (.int .u64 0) := (blk_cell BK707.out 1).trans rfl; have hfz7_0 := blk_frozen BK707.out 0; have hfz7_1 := blk_frozen BK707.out 1)))
    refine bodyPost_ret (results_ctt rfl _ _ gb707 55 #[.int .u64 0, .int .u64 0] (0, 0) _ rfl (by (with_reducible repeat (first | refine bN ?_ _ | refine bD ?_ | refine bA ?_ _)); refine blk_put (cs := #[.int .u64 0, .int .u64 0]) ?_ 1 _ rfl; (with_reducible repeat (first | refine bN ?_ _ | refine bD ?_ | refine bA ?_ _)); refine blk_put (cs := #[.int .u64 0, .int .u64 0]) ?_ 0 _ rfl; (with_reducible repeat (first | refine bN ?_ _ | refine bD ?_ | refine bA ?_ _)); exact BK707.out) Try.underlying55 rfl (by kernel_rfl)) rfl ?_
    exact ⟨by first | rfl | (simp [errW_none, errW_some] <;> rfl) | (simp [*, errW_none, errW_some] <;> rfl), by repeat (first | (with_reducible first | exact HB.out | apply pA | apply pN | apply p1 | refine pS ?_ GE706.out | refine pS ?_ GE707.out) | exact HB.out)⟩
  · rw [if_neg c3] at H
    have c3b0 : (a1 == 0) = false := beq_eq_false_iff_ne.mpr c3
    have c3b1 : (a1 != 0) = true := bne_iff_ne.mpr c3
    replace H := Option.bind_eq_some_iff.mp H
    obtain ⟨⟨t708, t709⟩, A80, H⟩ := H
    replace H : (some (IntKind.u64.wrap (Int.tdiv a0_0 a1), t708, t709, none)) = some (r1, r2, r3, r4) := H
    have A8 := Aside0.mk A80
    clear A80
    simp only [Option.some.injEq, Prod.mk.injEq] at H
    obtain ⟨rfl, rfl, rfl, rfl⟩ := H
    go_enter Try.func48, Try.ntmps48
    go_wp2_with (first | ((with_reducible refine gD (N := 2) rfl ?_); refine bE3 2 #[.int .u64 a0_0, .int .u64 a0_1] 55 ?hr ?_; (case hr => first | (go_simp; done) | (go_simp; rfl)); intro gb706 hg w9 hbox hb; have n0_ := Aside0.mk (bS3 HB.out hb); have n1_ := Aside0.mk (hbox); have n2_ := Aside0.mk ((bZ3 hg HB.out)); have n3_ := Aside0.mk ((bZ3 hg HB.out)); clear HB; have HB := n0_; have BK706 := n1_; have GW706 := n2_; have GE706 := n3_; clear n0_ n1_ n2_ n3_; clear hb hbox hg) | ((with_reducible refine gD (N := 4) rfl ?_); refine bE3 4 #[.int .u64 0, .int .u64 0] 55 ?hr ?_; (case hr => first | (go_simp; done) | (go_simp; rfl)); intro gb707 hg w10 hbox hb; have n0_ := Aside0.mk (bB3 BK706.out hb); have n1_ := Aside0.mk (bS3 HB.out hb); have n2_ := Aside0.mk (hbox); have n3_ := Aside0.mk ((bZ3 hg HB.out)); have n4_ := Aside0.mk ((bZ3 hg HB.out)); have n5_ := Aside0.mk ((bL3 hg BK706.out)); have n6_ := Aside0.mk ((bG3 hg BK706.out)); clear BK706; clear HB; have BK706 := n0_; have HB := n1_; have BK707 := n2_; have GW707 := n3_; have GE707 := n4_; have NB706_707 := n5_; have NB707_706 := n6_; clear n0_ n1_ n2_ n3_ n4_ n5_ n6_; clear hb hbox hg; have hnb11 := NB706_707.out; have hnc11 := NB707_706.out; have hcz12_0 : w10.cell? ⟨gb706, 0, none⟩ = some (.int .u64 a0_0) := (blk_cell BK706.out 0).trans rfl; have hcz12_1 : w10.cell? ⟨gb706, 1, none⟩ = some (.int .u64 a0_1) := (blk_cell BK706.out 1).trans rfl; have hfz12_0 := blk_frozen BK706.out 0; have hfz12_1 := blk_frozen BK706.out 1) | (go_at_call 70; (with_reducible refine (bits_Div64.calls k (Int.tmod a0_0 a1) a0_1 a1 t708 t709 _ A8.out).mono ?_); rintro e w' ⟨rfl, ⟨nd, rfl⟩⟩; (try first | exact ⟨rfl, _, World.drewN_drewN _ _ _⟩ | exact ⟨rfl, _, Eq.trans (World.drewN_drewN _ _ _) (congrArg (World.drewN _) (Nat.add_assoc _ _ _))⟩); have hcz13_0 : w10.cell? ⟨gb707, 0, none⟩ = some (.int .u64 0) := (blk_cell BK707.out 0).trans rfl; have hcz13_1 : w10.cell? ⟨gb707, 1, none⟩ = some (.int .u64 0) := (blk_cell BK707.out 1).trans rfl; have hfz13_0 := blk_frozen BK707.out 0; have hfz13_1 := blk_frozen BK707.out 1))
    repeat (go_quiet (first | ((with_reducible refine gD (N := 2) rfl ?_); refine bE3 2 #[.int .u64 a0_0, .int .u64 a0_1] 55 ?hr ?_; (case hr => first | (go_simp; done) | (go_simp; rfl)); intro gb706 hg w9 hbox hb; have n0_ := Aside0.mk (bS3 HB.out hb); have n1_ := Aside0.mk (hbox); have n2_ := Aside0.mk ((bZ3 hg HB.out)); have n3_ := Aside0.mk ((bZ3 hg HB.out)); clear HB; have HB := n0_; have BK706 := n1_; have GW706 := n2_; have GE706 := n3_; clear n0_ n1_ n2_ n3_; clear hb hbox hg) | ((with_reducible refine gD (N := 4) rfl ?_); refine bE3 4 #[.int .u64 0, .int .u64 0] 55 ?hr ?_; (case hr => first | (go_simp; done) | (go_simp; rfl)); intro gb707 hg w10 hbox hb; have n0_ := Aside0.mk (bB3 BK706.out hb); have n1_ := Aside0.mk (bS3 HB.out hb); have n2_ := Aside0.mk (hbox); have n3_ := Aside0.mk ((bZ3 hg HB.out)); have n4_ := Aside0.mk ((bZ3 hg HB.out)); have n5_ := Aside0.mk ((bL3 hg BK706.out)); have n6_ := Aside0.mk ((bG3 hg BK706.out)); clear BK706; clear HB; have BK706 := n0_; have HB := n1_; have BK707 := n2_; have GW707 := n3_; have GE707 := n4_; have NB706_707 := n5_; have NB707_706 := n6_; clear n0_ n1_ n2_ n3_ n4_ n5_ n6_; clear hb hbox hg; have hnb11 := NB706_707.out; have hnc11 := NB707_706.out; have hcz12_0 : w10.cell? ⟨gb706, 0, none⟩ = some (.int .u64 a0_0) := (blk_cell BK706.out 0).trans rfl; have hcz12_1 : w10.cell? ⟨gb706, 1, none⟩ = some (.int .u64 a0_1) := (blk_cell BK706.out 1).trans rfl; have hfz12_0 := blk_frozen BK706.out 0; have hfz12_1 := blk_frozen BK706.out 1) | (go_at_call 70; (with_reducible refine (bits_Div64.calls k (Int.tmod a0_0 a1) a0_1 a1 t708 t709 _ A8.out).mono ?_); rintro e w' ⟨rfl, ⟨nd, rfl⟩⟩; (try first | exact ⟨rfl, _, World.drewN_drewN _ _ _⟩ | exact ⟨rfl, _, Eq.trans (World.drewN_drewN _ _ _) (congrArg (World.drewN _) (Nat.add_assoc _ _ _))⟩); have hcz13_0 : w10.cell? ⟨gb707, 0, none⟩ = some (.int .u64 0) := (blk_cell BK707.out 0).trans rfl; have hcz13_1 : w10.cell? ⟨gb707, 1, none⟩ = some (.int .u64 0) := (blk_cell BK707.out 1).trans rfl; have hfz13_0 := blk_frozen BK707.out 0; have hfz13_1 := blk_frozen BK707.out 1)); try go_wp2_with (first | ((with_reducible refine gD (N := 2) rfl ?_); refine bE3 2 #[.int .u64 a0_0, .int .u64 a0_1] 55 ?hr ?_; (case hr => first | (go_simp; done) | (go_simp; rfl)); intro gb706 hg w9 hbox hb; have n0_ := Aside0.mk (bS3 HB.out hb); have n1_ := Aside0.mk (hbox); have n2_ := Aside0.mk ((bZ3 hg HB.out)); have n3_ := Aside0.mk ((bZ3 hg HB.out)); clear HB; have HB := n0_; have BK706 := n1_; have GW706 := n2_; have GE706 := n3_; clear n0_ n1_ n2_ n3_; clear hb hbox hg) | ((with_reducible refine gD (N := 4) rfl ?_); refine bE3 4 #[.int .u64 0, .int .u64 0] 55 ?hr ?_; (case hr => first | (go_simp; done) | (go_simp; rfl)); intro gb707 hg w10 hbox hb; have n0_ := Aside0.mk (bB3 BK706.out hb); have n1_ := Aside0.mk (bS3 HB.out hb); have n2_ := Aside0.mk (hbox); have n3_ := Aside0.mk ((bZ3 hg HB.out)); have n4_ := Aside0.mk ((bZ3 hg HB.out)); have n5_ := Aside0.mk ((bL3 hg BK706.out)); have n6_ := Aside0.mk ((bG3 hg BK706.out)); clear BK706; clear HB; have BK706 := n0_; have HB := n1_; have BK707 := n2_; have GW707 := n3_; have GE707 := n4_; have NB706_707 := n5_; have NB707_706 := n6_; clear n0_ n1_ n2_ n3_ n4_ n5_ n6_; clear hb hbox hg; have hnb11 := NB706_707.out; have hnc11 := NB707_706.out; have hcz12_0 : w10.cell? ⟨gb706, 0, none⟩ = some (.int .u64 a0_0) := (blk_cell BK706.out 0).trans rfl; have hcz12_1 : w10.cell? ⟨gb706, 1, none⟩ = some (.int .u64 a0_1) := (blk_cell BK706.out 1).trans rfl; have hfz12_0 := blk_frozen BK706.out 0; have hfz12_1 := blk_frozen BK706.out 1) | (go_at_call 70; (with_reducible refine (bits_Div64.calls k (Int.tmod a0_0 a1) a0_1 a1 t708 t709 _ A8.out).mono ?_); rintro e w' ⟨rfl, ⟨nd, rfl⟩⟩; (try first | exact ⟨rfl, _, World.drewN_drewN _ _ _⟩ | exact ⟨rfl, _, Eq.trans (World.drewN_drewN _ _ _) (congrArg (World.drewN _) (Nat.add_assoc _ _ _))⟩); have hcz13_0 : w10.cell? ⟨gb707, 0, none⟩ = some (.int .u64 0) := (blk_cell BK707.out 0).trans rfl; have hcz13_1 : w10.cell? ⟨gb707, 1, none⟩ = some (.int .u64 0) := (blk_cell BK707.out 1).trans rfl; have hfz13_0 := blk_frozen BK707.out 0; have hfz13_1 := blk_frozen BK707.out 1)))
    refine bodyPost_ret (results_ctt rfl _ _ gb707 55 #[.int .u64 (IntKind.u64.wrap (Int.tdiv a0_0 a1)), .int .u64 t708] (0, 0) _ rfl (by (with_reducible repeat (first | refine bN ?_ _ | refine bD ?_ | refine bA ?_ _)); refine blk_put (cs := #[.int .u64 (IntKind.u64.wrap (Int.tdiv a0_0 a1)), .int .u64 0]) ?_ 1 _ rfl; (with_reducible repeat (first | refine bN ?_ _ | refine bD ?_ | refine bA ?_ _)); refine blk_put (cs := #[.int .u64 0, .int .u64 0]) ?_ 0 _ rfl; (with_reducible repeat (first | refine bN ?_ _ | refine bD ?_ | refine bA ?_ _)); exact BK707.out) Try.underlying55 rfl (by kernel_rfl)) rfl ?_
    exact ⟨by first | rfl | (simp [errW_none, errW_some] <;> rfl) | (simp [*, errW_none, errW_some] <;> rfl), by repeat (first | (with_reducible first | exact HB.out | apply pA | apply pN | apply p1 | refine pS ?_ GE706.out | refine pS ?_ GE707.out) | exact HB.out)⟩


end Go.Proofs.Yteekhbmffdmgjaa.F
