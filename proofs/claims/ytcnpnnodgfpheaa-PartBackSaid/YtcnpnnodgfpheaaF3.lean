/- Functions of the given program as plain Lean functions, and for each a proof that the program's call comes to just these answers; no further conditions. (Written by a program of this repo out of the translation.) -/
import Derived.Test.YtcnpnnodgfpheaaF0
import Derived.Test.YtcnpnnodgfpheaaF2
import Derived.Test.YtcnpnnodgfpheaaF4
namespace Go.Proofs.Ytcnpnnodgfpheaa.F
open Go.RowKit Go.Proofs.YtcnpnnodgfpheaaW.PrintWords Go.Proofs.YtcnpnnodgfpheaaW.PrintLast Go.Proofs.YtcnpnnodgfpheaaW.PrintMore
attribute [local go_sem high] xor_u64 xor_u32 eqErr27 neErr27 eqErrL27 neErrL27
attribute [local go_sem] max2_int min2_int max_two min_two max_three min_three max_four min_four   -- for this text's walks alone
set_option linter.unusedVariables false
set_option linter.unusedSimpArgs false

/-! ### part_Div: function 10 -/
def part_Div.f (k : Nat) (a0_0 : Int) (a0_1 : Int) (a1 : Int) : Option (Int × Int × Option Int) := if a1 = 0 then (some (0, 0, some 4)) else (if a0_0 ≥ a1 then (some (0, 0, some 5)) else ((bits_Div64.f k a0_0 a0_1 a1).bind fun bt104 => (some (bt104.1, bt104.2, none))))
theorem part_Div.mono : ∀ a0 a1 a2 k, LeO (part_Div.f k a0 a1 a2) (part_Div.f (k + 1) a0 a1 a2) := by
  intro a0 a1 a2 k
  unfold part_Div.f
  repeat' first
      | (with_reducible exact bits_Div64.mono _ _ _ _)
      | (with_reducible exact LeO.refl _)
      | (with_reducible exact LeO.none _)
      | (with_reducible refine LeO.ite ?_ ?_)
      | (with_reducible refine LeO.bind ?_ (fun _ => ?_))
      | exact bits_Div64.mono _ _ _ _
      | exact LeO.none _
      | refine LeO.ite ?_ ?_
      | refine LeO.bind ?_ (fun _ => ?_)
set_option maxHeartbeats 8000000 in
set_option maxRecDepth 100000 in
theorem part_Div.calls (k : Nat) (a0_0 : Int) (a0_1 : Int) (a1 : Int) (r1 : Int) (r2 : Int) (r3 : Option Int) (w : World) (h : part_Div.f k a0_0 a0_1 a1 = some (r1, r2, r3)) :
    Calls Try.prog 10 #[.agg #[.int .u64 a0_0, .int .u64 a0_1], .int .u64 a1] w fun e w' => e = .returned (.tuple #[.int .u64 r1, .int .u64 r2, errW r3]) ∧ Below w.heap.size w w' := by
  have hu24 := Try.underlying24
  have hu27 := Try.underlying27
  have hu38 := Try.underlying38
  have HB := Aside0.mk (Below.refl w.heap.size w)
  have H : (if a1 = 0 then (some (0, 0, some 4)) else (if a0_0 ≥ a1 then (some (0, 0, some 5)) else ((bits_Div64.f k a0_0 a0_1 a1).bind fun bt104 => (some (bt104.1, bt104.2, none))))) = some (r1, r2, r3) := h
  clear h
  by_cases c3 : a1 = 0
  · rw [if_pos c3] at H
    have c3b0 : (a1 == 0) = true := beq_iff_eq.mpr c3
    have c3b1 : (a1 != 0) = false := bne_eq_false_iff_eq.mpr c3
    clear c3
    simp only [Option.some.injEq, Prod.mk.injEq] at H
    obtain ⟨rfl, rfl, rfl⟩ := H
    go_enter Try.func10, Try.ntmps10
    go_wp2_with (first | ((with_reducible refine gD (N := 2) rfl ?_); refine bE3 2 #[.int .u64 a0_0, .int .u64 a0_1] 24 ?hr ?_; (case hr => first | (go_simp; done) | (go_simp; rfl)); intro gb103 hg w4 hbox hb; have n0_ := Aside0.mk (bS3 HB.out hb); have n1_ := Aside0.mk (hbox); have n2_ := Aside0.mk ((bZ3 hg HB.out)); have n3_ := Aside0.mk ((bZ3 hg HB.out)); clear HB; have HB := n0_; have BK103 := n1_; have GW103 := n2_; have GE103 := n3_; clear n0_ n1_ n2_ n3_; clear hb hbox hg))
    go_ret3
    exact ⟨by first | rfl | (simp [errW_none, errW_some] <;> rfl) | (simp [*, errW_none, errW_some] <;> rfl), by repeat (first | (with_reducible first | exact HB.out | apply pA | apply pN | apply p1 | refine pS ?_ GE103.out) | exact HB.out)⟩
  · rw [if_neg c3] at H
    have c3b0 : (a1 == 0) = false := beq_eq_false_iff_ne.mpr c3
    have c3b1 : (a1 != 0) = true := bne_iff_ne.mpr c3
    by_cases c5 : a0_0 ≥ a1
    · rw [if_pos c5] at H
      have c5b0 : decide (a1 ≤ a0_0) = true := decide_eq_true c5
      clear c5
      simp only [Option.some.injEq, Prod.mk.injEq] at H
      obtain ⟨rfl, rfl, rfl⟩ := H
      go_enter Try.func10, Try.ntmps10
      go_wp2_with (first | ((with_reducible refine gD (N := 2) rfl ?_); refine bE3 2 #[.int .u64 a0_0, .int .u64 a0_1] 24 ?hr ?_; (case hr => first | (go_simp; done) | (go_simp; rfl)); intro gb103 hg w6 hbox hb; have n0_ := Aside0.mk (bS3 HB.out hb); have n1_ := Aside0.mk (hbox); have n2_ := Aside0.mk ((bZ3 hg HB.out)); have n3_ := Aside0.mk ((bZ3 hg HB.out)); clear HB; have HB := n0_; have BK103 := n1_; have GW103 := n2_; have GE103 := n3_; clear n0_ n1_ n2_ n3_; clear hb hbox hg; have hcz7_0 : w6.cell? ⟨gb103, 0, none⟩ = some (.int .u64 a0_0) := (blk_cell BK103.out 0).trans rfl; have hcz7_1 : w6.cell? ⟨gb103, 1, none⟩ = some (.int .u64 a0_1) := (blk_cell BK103.out 1).trans rfl; have hfz7_0 := blk_frozen BK103.out 0; have hfz7_1 := blk_frozen BK103.out 1))
      go_ret3
      exact ⟨by first | rfl | (simp [errW_none, errW_some] <;> rfl) | (simp [*, errW_none, errW_some] <;> rfl), by repeat (first | (with_reducible first | exact HB.out | apply pA | apply pN | apply p1 | refine pS ?_ GE103.out) | exact HB.out)⟩
    · rw [if_neg c5] at H
      have c5b0 : decide (a1 ≤ a0_0) = false := decide_eq_false c5
      clear c5
      replace H := Option.bind_eq_some_iff.mp H
      obtain ⟨⟨t104, t105⟩, A80, H⟩ := H
      replace H : (some (t104, t105, none)) = some (r1, r2, r3) := H
      have A8 := Aside0.mk A80
      clear A80
      simp only [Option.some.injEq, Prod.mk.injEq] at H
      obtain ⟨rfl, rfl, rfl⟩ := H
      go_enter Try.func10, Try.ntmps10
      go_wp2_with (first | ((with_reducible refine gD (N := 2) rfl ?_); refine bE3 2 #[.int .u64 a0_0, .int .u64 a0_1] 24 ?hr ?_; (case hr => first | (go_simp; done) | (go_simp; rfl)); intro gb103 hg w9 hbox hb; have n0_ := Aside0.mk (bS3 HB.out hb); have n1_ := Aside0.mk (hbox); have n2_ := Aside0.mk ((bZ3 hg HB.out)); have n3_ := Aside0.mk ((bZ3 hg HB.out)); clear HB; have HB := n0_; have BK103 := n1_; have GW103 := n2_; have GE103 := n3_; clear n0_ n1_ n2_ n3_; clear hb hbox hg; have hcz10_0 : w9.cell? ⟨gb103, 0, none⟩ = some (.int .u64 a0_0) := (blk_cell BK103.out 0).trans rfl; have hcz10_1 : w9.cell? ⟨gb103, 1, none⟩ = some (.int .u64 a0_1) := (blk_cell BK103.out 1).trans rfl; have hfz10_0 := blk_frozen BK103.out 0; have hfz10_1 := blk_frozen BK103.out 1) | ((with_reducible refine gC (f := 17) rfl ?_); (with_reducible refine gD (N := 23) rfl ?_); refine goesY_ (some 23) Try.func17 #[.int .u64 a0_0, .int .u64 a0_1, .int .u64 a1] ?_; (with_reducible refine (bits_Div64.calls k a0_0 a0_1 a1 t104 t105 _ A8.out).mono ?_); rintro e w' ⟨rfl, ⟨nd, rfl⟩⟩; refine ⟨_, rfl, ?_⟩))
      go_ret3
      exact ⟨by first | rfl | (simp [errW_none, errW_some] <;> rfl) | (simp [*, errW_none, errW_some] <;> rfl), by repeat (first | (with_reducible first | exact HB.out | apply pA | apply pN | apply p1 | refine pS ?_ GE103.out) | exact HB.out)⟩

/-! ### part_Root: function 14 -/
def part_Root.l0 : Nat → Int → Int → Int → Int → Option (Int × Int × Int)
  | 0, _, _, _, _ => none
  | k + 1, x4, x5, x119000, x119001 => if x5 ≥ 0 then (if 0 ≤ x5 then ((twin_Mul.f (Go.bits .or .u64 x4 (shl .u64 1 x5)) (Go.bits .or .u64 x4 (shl .u64 1 x5))).bind fun bt126 => ((twin_Cmp.f bt126.1 bt126.2 x119000 x119001).bind fun t128 => (if t128 ≤ 0 then (part_Root.l0 k (Go.bits .or .u64 x4 (shl .u64 1 x5)) (wrap64 (x5 - 1)) x119000 x119001) else (part_Root.l0 k x4 (wrap64 (x5 - 1)) x119000 x119001)))) else (none)) else ((twin_Mul.f x4 x4).bind fun bt120 => ((twin_Sub.f x119000 x119001 bt120.1 bt120.2).bind fun bt122 => (some (x4, bt122.1, bt122.2.1))))
def part_Root.f (k : Nat) (a0_0 : Int) (a0_1 : Int) : Option (Int × Int × Int) := part_Root.l0 k 0 63 a0_0 a0_1
theorem part_Root.mono_l : ∀ k, (∀ y0 y1 y2 y3, LeO (part_Root.l0 k y0 y1 y2 y3) (part_Root.l0 (k + 1) y0 y1 y2 y3))
  | 0 => fun _ _ _ _ r h => by simp [part_Root.l0] at h
  | k + 1 => by
    have ih0 := part_Root.mono_l k
    · intro y0 y1 y2 y3
      unfold part_Root.l0
      repeat' first
      | (with_reducible exact ih0 _ _ _ _)
      | (with_reducible exact LeO.refl _)
      | (with_reducible exact LeO.none _)
      | (with_reducible refine LeO.ite ?_ ?_)
      | (with_reducible refine LeO.bind ?_ (fun _ => ?_))
      | exact ih0 _ _ _ _
      | exact LeO.none _
      | refine LeO.ite ?_ ?_
      | refine LeO.bind ?_ (fun _ => ?_)
theorem part_Root.mono : ∀ a0 a1 k, LeO (part_Root.f k a0 a1) (part_Root.f (k + 1) a0 a1) := by
  intro a0 a1 k
  have ih0 := part_Root.mono_l k
  unfold part_Root.f
  repeat' first
      | (with_reducible exact ih0 _ _ _ _)
      | (with_reducible exact LeO.refl _)
      | (with_reducible exact LeO.none _)
      | (with_reducible refine LeO.ite ?_ ?_)
      | (with_reducible refine LeO.bind ?_ (fun _ => ?_))
      | exact ih0 _ _ _ _
      | exact LeO.none _
      | refine LeO.ite ?_ ?_
      | refine LeO.bind ?_ (fun _ => ?_)
def part_Root.T8 : Bool × List (List Nat × List Nat) := (true, [([], []), ([], []), ([], []), ([1, 2], [1, 2]), ([0, 3, 3], [0, 3]), ([4], [4]), ([5], [5]), ([5], [5]), ([], []), ([8, 6, 4, 0, 1, 2, 3, 4, 5, 6, 8], [6, 8]), ([7, 9, 0, 1, 2, 3, 4, 5, 6, 7, 8, 9], [7])])
def part_Root.B8 : List Nat := [0, 0, 0, 6, 15, 31, 63, 63, 0, 383, 1023]
theorem part_Root.tab8 : rtab .any (opsOf Try.f14 8) = part_Root.T8 := by kernel_rfl
theorem part_Root.bits8 : waitsOk part_Root.T8.2 part_Root.B8 = true := by kernel_rfl
set_option maxHeartbeats 8000000 in
set_option maxRecDepth 100000 in
theorem part_Root.calls (k : Nat) (a0_0 : Int) (a0_1 : Int) (r1 : Int) (r2 : Int) (r3 : Int) (w : World) (h : part_Root.f k a0_0 a0_1 = some (r1, r2, r3)) :
    Calls Try.prog 14 #[.agg #[.int .u64 a0_0, .int .u64 a0_1]] w fun e w' => e = .returned (.tuple #[.int .u64 r1, .agg #[.int .u64 r2, .int .u64 r3]]) ∧ Below w.heap.size w w' := by
  have hu24 := Try.underlying24
  have HB := Aside0.mk (Below.refl w.heap.size w)
  have H : (part_Root.l0 k 0 63 a0_0 a0_1) = some (r1, r2, r3) := h
  clear h
  have H' := Aside0.mk H
  clear H
  go_enter Try.func14, Try.ntmps14
  go_wp2_with (first | ((with_reducible refine gD (N := 1) rfl ?_); refine bE3 1 #[.int .u64 a0_0, .int .u64 a0_1] 24 ?hr ?_; (case hr => first | (go_simp; done) | (go_simp; rfl)); intro gb118 hg w2 hbox hb; have n0_ := Aside0.mk (bS3 HB.out hb); have n1_ := Aside0.mk (hbox); have n2_ := Aside0.mk ((bZ3 hg HB.out)); have n3_ := Aside0.mk ((bZ3 hg HB.out)); clear HB; have HB := n0_; have BK118 := n1_; have GW118 := n2_; have GE118 := n3_; clear n0_ n1_ n2_ n3_; clear hb hbox hg) | ((with_reducible refine gD (N := 3) rfl ?_); refine bE3 3 #[.int .u64 0, .int .u64 0] 24 ?hr ?_; (case hr => first | (go_simp; done) | (go_simp; rfl)); intro gb119 hg w3 hbox hb; have n0_ := Aside0.mk (bB3 BK118.out hb); have n1_ := Aside0.mk (bS3 HB.out hb); have n2_ := Aside0.mk (hbox); have n3_ := Aside0.mk ((bZ3 hg HB.out)); have n4_ := Aside0.mk ((bZ3 hg HB.out)); have n5_ := Aside0.mk ((bL3 hg BK118.out)); have n6_ := Aside0.mk ((bG3 hg BK118.out)); clear BK118; clear HB; have BK118 := n0_; have HB := n1_; have BK119 := n2_; have GW119 := n3_; have GE119 := n4_; have NB118_119 := n5_; have NB119_118 := n6_; clear n0_ n1_ n2_ n3_ n4_ n5_ n6_; clear hb hbox hg))
  go_loopg [4, 5] k (fun kq v4 v5 w' => ∃ (x4_1 : Int) (x5_1 : Int), v4 = .int .u64 x4_1 ∧ v5 = .int .i64 x5_1 ∧ Aside0 (part_Root.l0 kq x4_1 x5_1 a0_0 a0_1 = some (r1, r2, r3)) ∧ Aside0 (kq ≤ k) ∧ Aside0 (w'.heap[gb118]? = some (.cells #[.int .u64 a0_0, .int .u64 a0_1] 24 (0, 0))) ∧ Aside0 (w'.heap[gb119]? = some (.cells #[.int .u64 0, .int .u64 0] 24 (0, 0))) ∧ Aside0 (Below w.heap.size w w'))
  case atStart => exact ⟨(0), (63), (by first | rfl | (simp; done) | (simp [*]; done)), (by first | rfl | (simp; done) | (simp [*]; done)), H', ⟨Nat.le_refl _⟩, ⟨by (with_reducible repeat (first | refine bN ?_ _ | refine bD ?_ | refine bA ?_ _)); exact BK118.out⟩, ⟨by (with_reducible repeat (first | refine bN ?_ _ | refine bD ?_ | refine bA ?_ _)); exact BK119.out⟩, ⟨by repeat (first | (with_reducible first | exact HB.out | apply pA | apply pN | apply p1 | refine pS ?_ GE118.out | refine pS ?_ GE119.out) | exact HB.out)⟩⟩
  case round =>
    clear H'
    try clear c1
    try clear p2
    obtain ⟨x4_1, x5_1, rfl, rfl, HA, HK1, BK118, BK119, HB⟩ := hrel
    cases gk with
    | zero => exact absurd HA.out (by simp [part_Root.l0])
    | succ k1 =>
      have H := HA.out
      clear HA
      simp only [part_Root.l0] at H
      by_cases c4 : x5_1 ≥ 0
      · rw [if_pos c4] at H
        have c4b0 : decide (0 ≤ x5_1) = true := decide_eq_true c4
        clear c4
        by_cases c5 : 0 ≤ x5_1
        · rw [if_pos c5] at H
          have c5b0 := eq_true c5
          have c5b1 : decide (0 ≤ x5_1) = true := decide_eq_true c5
          clear c5
          obtain ⟨ji6, hji6⟩ : ∃ j_ : Int, (shl .u64 1 x5_1) = j_ := ⟨_, rfl⟩
          replace H : ((twin_Mul.f (Go.bits .or .u64 x4_1 (ji6)) (Go.bits .or .u64 x4_1 (ji6))).bind fun bt126 => ((twin_Cmp.f bt126.1 bt126.2 a0_0 a0_1).bind fun t128 => (if t128 ≤ 0 then (part_Root.l0 k1 (Go.bits .or .u64 x4_1 (ji6)) (wrap64 (x5_1 - 1)) a0_0 a0_1) else (part_Root.l0 k1 x4_1 (wrap64 (x5_1 - 1)) a0_0 a0_1)))) = some (r1, r2, r3) := by first | (rw [hji6] at H; exact H) | (simp only [hji6] at H ⊢; exact H)
          have hji6_ : (IntKind.u64.wrap (1 * 2 ^ min x5_1.toNat 64)) = ji6 := hji6
          have hji6z : x5_1 ≤ 64 → (IntKind.u64.wrap (1 * 2 ^ x5_1.toNat)) = ji6 := shl_small hji6
          have hji6u : (IntKind.u64.wrap (2 ^ min x5_1.toNat 64)) = ji6 := by have h_ := hji6_; rw [Int.one_mul] at h_; exact h_
          have hji6v : x5_1 ≤ 64 → (IntKind.u64.wrap (2 ^ x5_1.toNat)) = ji6 := fun hle_ => by have h_ := hji6z hle_; rw [Int.one_mul] at h_; exact h_
          replace H := Option.bind_eq_some_iff.mp H
          obtain ⟨⟨t126, t127⟩, A70, H⟩ := H
          replace H : ((twin_Cmp.f t126 t127 a0_0 a0_1).bind fun t128 => (if t128 ≤ 0 then (part_Root.l0 k1 (Go.bits .or .u64 x4_1 (ji6)) (wrap64 (x5_1 - 1)) a0_0 a0_1) else (part_Root.l0 k1 x4_1 (wrap64 (x5_1 - 1)) a0_0 a0_1))) = some (r1, r2, r3) := H
          have A7 := Aside0.mk A70
          clear A70
          replace H := Option.bind_eq_some_iff.mp H
          obtain ⟨t128, A80, H⟩ := H
          replace H : (if t128 ≤ 0 then (part_Root.l0 k1 (Go.bits .or .u64 x4_1 (ji6)) (wrap64 (x5_1 - 1)) a0_0 a0_1) else (part_Root.l0 k1 x4_1 (wrap64 (x5_1 - 1)) a0_0 a0_1)) = some (r1, r2, r3) := H
          have A8 := Aside0.mk A80
          clear A80
          by_cases c9 : t128 ≤ 0
          · rw [if_pos c9] at H
            have c9b0 : decide (t128 ≤ 0) = true := decide_eq_true c9
            clear c9
            have H' := Aside0.mk H
            clear H
            try go_wp2
            have n0_ := Aside0.mk (bD BK118.out)
            have n1_ := Aside0.mk (bD BK119.out)
            have n2_ := Aside0.mk (p1 HB.out)
            clear BK118
            clear BK119
            clear HB
            have BK118 := n0_
            have BK119 := n1_
            have HB := n2_
            clear n0_ n1_ n2_
            refine start_ (n := 6) (S := fun w' => w'.cell? ⟨gb118, 0, none⟩ = some (.int .u64 a0_0) ∧ w'.cell? ⟨gb118, 1, none⟩ = some (.int .u64 a0_1)) (ds := []) #[false, false, false, false, false, false] (by kernel_rfl) rfl rfl ⟨(blk_cell BK118.out 0).trans rfl, (blk_cell BK118.out 1).trans rfl⟩ (fun hHeld => ?_)
            generalize wr.drew = w10 at BK118 BK119 HB hHeld ⊢
            refine pure_ (i := 0) (N := some 17) (v := ?_) (a' := ?_) #[true, false, false, false, false, false] rfl rfl (by kernel_rfl) (fun _ _ _ h => h) (Or.inl ⟨by rfl, ?_⟩) ?_ ?_
            rotate_left
            · intro w'
              go_simp
              with_reducible rfl
            rotate_left
            · simp only [Act.put, List.setIfInBounds_toArray, List.set_cons_zero, List.set_cons_succ, i64_w, i32_w]
              rfl
            refine pure_ (i := 1) (N := some 18) (v := ?_) (a' := ?_) #[true, true, false, false, false, false] rfl rfl (by kernel_rfl) (fun _ _ _ h => h) (Or.inl ⟨by rfl, ?_⟩) ?_ ?_
            rotate_left
            · intro w'
              go_simp
              with_reducible rfl
            rotate_left
            · simp only [Act.put, List.setIfInBounds_toArray, List.set_cons_zero, List.set_cons_succ, i64_w, i32_w]
              rfl
            refine take_ (i := 3) (N := some 20) (v := ?_) (a' := ?_) #[true, true, false, true, false, false] rfl rfl (by kernel_rfl) (fun _ _ _ h => h) (Or.inl ⟨by rfl, ?_⟩) hHeld ?_ ?_
            rotate_left
            · rintro w' ⟨s0, s1⟩
              go_simp
              with_reducible rfl
            rotate_left
            · simp only [Act.put, List.setIfInBounds_toArray, List.set_cons_zero, List.set_cons_succ, i64_w, i32_w]
              rfl
            refine one_ (i := 2) (N := some 19) #[true, true, true, true, false, false] rfl rfl (by kernel_rfl) (by decide) (fun K hK => ?_)
            refine goes_ Try.func11 (by kernel_rfl) rfl #[.int .u64 (Go.bits .or .u64 x4_1 (ji6)), .int .u64 (Go.bits .or .u64 x4_1 (ji6))] (by rfl) rfl rfl (by (try simp only [List.map_toArray, List.map_cons, List.map_nil]); first | done | (simp only [hji6]; rfl) | rfl | (simp only [List.length_drop, List.length_take]; rfl)) ?_
            with_reducible refine (twin_Mul.calls (Go.bits .or .u64 x4_1 (ji6)) (Go.bits .or .u64 x4_1 (ji6)) t126 t127 _ A7.out).mono ?_
            rintro e w11 ⟨rfl, hb⟩
            refine ⟨_, rfl, ?_⟩
            have n0_ := Aside0.mk (bB3 BK118.out hb)
            have n1_ := Aside0.mk (bB3 BK119.out hb)
            have n2_ := Aside0.mk (bS3 HB.out hb)
            clear BK118
            clear BK119
            clear HB
            have BK118 := n0_
            have BK119 := n1_
            have HB := n2_
            clear n0_ n1_ n2_
            (try clear hb)
            (try clear hb2)
            (try clear hk)
            (try clear hi)
            refine hK.out _ _ ⟨(blk_cell BK118.out 0).trans rfl, (blk_cell BK118.out 1).trans rfl⟩ (fun hHeld => ?_)
            clear hK K
            refine norm_ (a' := ?_) ?_ ?_
            rotate_left
            · show Act.put _ (some 19) _ = _
              simp only [Act.put, List.setIfInBounds_toArray, List.set_cons_zero, List.set_cons_succ, i64_w, i32_w]
              rfl
            refine one_ (i := 4) (N := some 21) #[true, true, true, true, true, false] rfl rfl (by kernel_rfl) (by decide) (fun K hK => ?_)
            refine goes_ Try.func20 (by kernel_rfl) rfl #[.agg #[.int .u64 t126, .int .u64 t127], .agg #[.int .u64 a0_0, .int .u64 a0_1]] (by rfl) rfl rfl (by (try simp only [List.map_toArray, List.map_cons, List.map_nil]); first | done | rfl | (simp only [List.length_drop, List.length_take]; rfl)) ?_
            with_reducible refine (twin_Cmp.calls t126 t127 a0_0 a0_1 t128 _ A8.out).mono ?_
            rintro e w12 ⟨rfl, hb⟩
            refine ⟨_, rfl, ?_⟩
            have n0_ := Aside0.mk (bB3 BK118.out hb)
            have n1_ := Aside0.mk (bB3 BK119.out hb)
            have n2_ := Aside0.mk (bS3 HB.out hb)
            clear BK118
            clear BK119
            clear HB
            have BK118 := n0_
            have BK119 := n1_
            have HB := n2_
            clear n0_ n1_ n2_
            (try clear hb)
            (try clear hb2)
            (try clear hk)
            (try clear hi)
            refine hK.out _ _ ⟨(blk_cell BK118.out 0).trans rfl, (blk_cell BK118.out 1).trans rfl⟩ (fun hHeld => ?_)
            clear hK K
            refine norm_ (a' := ?_) ?_ ?_
            rotate_left
            · show Act.put _ (some 21) _ = _
              simp only [Act.put, List.setIfInBounds_toArray, List.set_cons_zero, List.set_cons_succ, i64_w, i32_w]
              rfl
            refine pure_ (i := 5) (N := some 22) (v := ?_) (a' := ?_) #[true, true, true, true, true, true] rfl rfl (by kernel_rfl) (fun _ _ _ h => h) (Or.inl ⟨by rfl, ?_⟩) ?_ ?_
            rotate_left
            · intro w'
              go_simp
              with_reducible rfl
            rotate_left
            · simp only [Act.put, List.setIfInBounds_toArray, List.set_cons_zero, List.set_cons_succ, i64_w, i32_w]
              rfl
            refine done_ (by kernel_rfl) ?_
            try go_wp2
            go_roundg k1
            case measure => have := HK1.out; omega
            case rel => exact ⟨(Go.bits .or .u64 x4_1 (ji6)), (wrap64 (x5_1 - 1)), (by first | rfl | (simp; done) | (simp only [← hji6] <;> (first | rfl | simp)) | (simp [*]; done)), (by first | rfl | (simp; done) | (simp [*]; done)), H', ⟨by have := HK1.out; omega⟩, ⟨by (with_reducible repeat (first | refine bN ?_ _ | refine bD ?_ | refine bA ?_ _)); exact BK118.out⟩, ⟨by (with_reducible repeat (first | refine bN ?_ _ | refine bD ?_ | refine bA ?_ _)); exact BK119.out⟩, ⟨by repeat (first | (with_reducible first | exact HB.out | apply pA | apply pN | apply p1 | refine pS ?_ GE118.out | refine pS ?_ GE119.out) | exact HB.out)⟩⟩
          · rw [if_neg c9] at H
            have c9b0 : decide (t128 ≤ 0) = false := decide_eq_false c9
            clear c9
            have H' := Aside0.mk H
            clear H
            try go_wp2
            have n0_ := Aside0.mk (bD BK118.out)
            have n1_ := Aside0.mk (bD BK119.out)
            have n2_ := Aside0.mk (p1 HB.out)
            clear BK118
            clear BK119
            clear HB
            have BK118 := n0_
            have BK119 := n1_
            have HB := n2_
            clear n0_ n1_ n2_
            refine start_ (n := 6) (S := fun w' => w'.cell? ⟨gb118, 0, none⟩ = some (.int .u64 a0_0) ∧ w'.cell? ⟨gb118, 1, none⟩ = some (.int .u64 a0_1)) (ds := []) #[false, false, false, false, false, false] (by kernel_rfl) rfl rfl ⟨(blk_cell BK118.out 0).trans rfl, (blk_cell BK118.out 1).trans rfl⟩ (fun hHeld => ?_)
            generalize wr.drew = w13 at BK118 BK119 HB hHeld ⊢
            refine pure_ (i := 0) (N := some 17) (v := ?_) (a' := ?_) #[true, false, false, false, false, false] rfl rfl (by kernel_rfl) (fun _ _ _ h => h) (Or.inl ⟨by rfl, ?_⟩) ?_ ?_
            rotate_left
            · intro w'
              go_simp
              with_reducible rfl
            rotate_left
            · simp only [Act.put, List.setIfInBounds_toArray, List.set_cons_zero, List.set_cons_succ, i64_w, i32_w]
              rfl
            refine pure_ (i := 1) (N := some 18) (v := ?_) (a' := ?_) #[true, true, false, false, false, false] rfl rfl (by kernel_rfl) (fun _ _ _ h => h) (Or.inl ⟨by rfl, ?_⟩) ?_ ?_
            rotate_left
            · intro w'
              go_simp
              with_reducible rfl
            rotate_left
            · simp only [Act.put, List.setIfInBounds_toArray, List.set_cons_zero, List.set_cons_succ, i64_w, i32_w]
              rfl
            refine take_ (i := 3) (N := some 20) (v := ?_) (a' := ?_) #[true, true, false, true, false, false] rfl rfl (by kernel_rfl) (fun _ _ _ h => h) (Or.inl ⟨by rfl, ?_⟩) hHeld ?_ ?_
            rotate_left
            · rintro w' ⟨s0, s1⟩
              go_simp
              with_reducible rfl
            rotate_left
            · simp only [Act.put, List.setIfInBounds_toArray, List.set_cons_zero, List.set_cons_succ, i64_w, i32_w]
              rfl
            refine one_ (i := 2) (N := some 19) #[true, true, true, true, false, false] rfl rfl (by kernel_rfl) (by decide) (fun K hK => ?_)
            refine goes_ Try.func11 (by kernel_rfl) rfl #[.int .u64 (Go.bits .or .u64 x4_1 (ji6)), .int .u64 (Go.bits .or .u64 x4_1 (ji6))] (by rfl) rfl rfl (by (try simp only [List.map_toArray, List.map_cons, List.map_nil]); first | done | (simp only [hji6]; rfl) | rfl | (simp only [List.length_drop, List.length_take]; rfl)) ?_
            with_reducible refine (twin_Mul.calls (Go.bits .or .u64 x4_1 (ji6)) (Go.bits .or .u64 x4_1 (ji6)) t126 t127 _ A7.out).mono ?_
            rintro e w14 ⟨rfl, hb⟩
            refine ⟨_, rfl, ?_⟩
            have n0_ := Aside0.mk (bB3 BK118.out hb)
            have n1_ := Aside0.mk (bB3 BK119.out hb)
            have n2_ := Aside0.mk (bS3 HB.out hb)
            clear BK118
            clear BK119
            clear HB
            have BK118 := n0_
            have BK119 := n1_
            have HB := n2_
            clear n0_ n1_ n2_
            (try clear hb)
            (try clear hb2)
            (try clear hk)
            (try clear hi)
            refine hK.out _ _ ⟨(blk_cell BK118.out 0).trans rfl, (blk_cell BK118.out 1).trans rfl⟩ (fun hHeld => ?_)
            clear hK K
            refine norm_ (a' := ?_) ?_ ?_
            rotate_left
            · show Act.put _ (some 19) _ = _
              simp only [Act.put, List.setIfInBounds_toArray, List.set_cons_zero, List.set_cons_succ, i64_w, i32_w]
              rfl
            refine one_ (i := 4) (N := some 21) #[true, true, true, true, true, false] rfl rfl (by kernel_rfl) (by decide) (fun K hK => ?_)
            refine goes_ Try.func20 (by kernel_rfl) rfl #[.agg #[.int .u64 t126, .int .u64 t127], .agg #[.int .u64 a0_0, .int .u64 a0_1]] (by rfl) rfl rfl (by (try simp only [List.map_toArray, List.map_cons, List.map_nil]); first | done | rfl | (simp only [List.length_drop, List.length_take]; rfl)) ?_
            with_reducible refine (twin_Cmp.calls t126 t127 a0_0 a0_1 t128 _ A8.out).mono ?_
            rintro e w15 ⟨rfl, hb⟩
            refine ⟨_, rfl, ?_⟩
            have n0_ := Aside0.mk (bB3 BK118.out hb)
            have n1_ := Aside0.mk (bB3 BK119.out hb)
            have n2_ := Aside0.mk (bS3 HB.out hb)
            clear BK118
            clear BK119
            clear HB
            have BK118 := n0_
            have BK119 := n1_
            have HB := n2_
            clear n0_ n1_ n2_
            (try clear hb)
            (try clear hb2)
            (try clear hk)
            (try clear hi)
            refine hK.out _ _ ⟨(blk_cell BK118.out 0).trans rfl, (blk_cell BK118.out 1).trans rfl⟩ (fun hHeld => ?_)
            clear hK K
            refine norm_ (a' := ?_) ?_ ?_
            rotate_left
            · show Act.put _ (some 21) _ = _
              simp only [Act.put, List.setIfInBounds_toArray, List.set_cons_zero, List.set_cons_succ, i64_w, i32_w]
              rfl
            refine pure_ (i := 5) (N := some 22) (v := ?_) (a' := ?_) #[true, true, true, true, true, true] rfl rfl (by kernel_rfl) (fun _ _ _ h => h) (Or.inl ⟨by rfl, ?_⟩) ?_ ?_
            rotate_left
            · intro w'
              go_simp
              with_reducible rfl
            rotate_left
            · simp only [Act.put, List.setIfInBounds_toArray, List.set_cons_zero, List.set_cons_succ, i64_w, i32_w]
              rfl
            refine done_ (by kernel_rfl) ?_
            try go_wp2
            go_roundg k1
            case measure => have := HK1.out; omega
            case rel => exact ⟨(x4_1), (wrap64 (x5_1 - 1)), (by first | rfl | (simp; done) | (simp [*]; done)), (by first | rfl | (simp; done) | (simp [*]; done)), H', ⟨by have := HK1.out; omega⟩, ⟨by (with_reducible repeat (first | refine bN ?_ _ | refine bD ?_ | refine bA ?_ _)); exact BK118.out⟩, ⟨by (with_reducible repeat (first | refine bN ?_ _ | refine bD ?_ | refine bA ?_ _)); exact BK119.out⟩, ⟨by repeat (first | (with_reducible first | exact HB.out | apply pA | apply pN | apply p1 | refine pS ?_ GE118.out | refine pS ?_ GE119.out) | exact HB.out)⟩⟩
        · rw [if_neg c5] at H
          exact absurd H (by simp)
      · rw [if_neg c4] at H
        have c4b0 : decide (0 ≤ x5_1) = false := decide_eq_false c4
        clear c4
        replace H := Option.bind_eq_some_iff.mp H
        obtain ⟨⟨t120, t121⟩, A160, H⟩ := H
        replace H : ((twin_Sub.f a0_0 a0_1 t120 t121).bind fun bt122 => (some (x4_1, bt122.1, bt122.2.1))) = some (r1, r2, r3) := H
        have A16 := Aside0.mk A160
        clear A160
        replace H := Option.bind_eq_some_iff.mp H
        obtain ⟨⟨t122, t123, t124⟩, A170, H⟩ := H
        replace H : (some (x4_1, t122, t123)) = some (r1, r2, r3) := H
        have A17 := Aside0.mk A170
        clear A170
        simp only [Option.some.injEq, Prod.mk.injEq] at H
        obtain ⟨rfl, rfl, rfl⟩ := H
        try go_wp2
        have n0_ := Aside0.mk (bD BK118.out)
        have n1_ := Aside0.mk (bD BK119.out)
        have n2_ := Aside0.mk (p1 HB.out)
        clear BK118
        clear BK119
        clear HB
        have BK118 := n0_
        have BK119 := n1_
        have HB := n2_
        clear n0_ n1_ n2_
        refine start_ (n := 11) (S := fun w' => w'.cell? ⟨gb118, 0, none⟩ = some (.int .u64 a0_0) ∧ w'.cell? ⟨gb118, 1, none⟩ = some (.int .u64 a0_1)) (ds := []) #[false, false, false, false, false, false, false, false, false, false, false] (by kernel_rfl) rfl rfl ⟨(blk_cell BK118.out 0).trans rfl, (blk_cell BK118.out 1).trans rfl⟩ (fun hHeld => ?_); refine with_tabW part_Root.tab8 part_Root.bits8 (fun HT_ HW_ => ?_)
        generalize wr.drew = w18 at BK118 BK119 HB hHeld ⊢
        refine pure_ (i := 1) (N := some 26) (v := ?_) (a' := ?_) #[false, true, false, false, false, false, false, false, false, false, false] rfl rfl (any_of HT_.out (by kernel_rfl)) (fun _ _ _ h => h) (Or.inl ⟨by rfl, ?_⟩) ?_ ?_
        rotate_left
        · intro w'
          go_simp
          with_reducible rfl
        rotate_left
        · simp only [Act.put, List.setIfInBounds_toArray, List.set_cons_zero, List.set_cons_succ, i64_w, i32_w]
          rfl
        refine pure_ (i := 2) (N := some 27) (v := ?_) (a' := ?_) #[false, true, true, false, false, false, false, false, false, false, false] rfl rfl (any_of HT_.out (by kernel_rfl)) (fun _ _ _ h => h) (Or.inl ⟨by rfl, ?_⟩) ?_ ?_
        rotate_left
        · intro w'
          go_simp
          with_reducible rfl
        rotate_left
        · simp only [Act.put, List.setIfInBounds_toArray, List.set_cons_zero, List.set_cons_succ, i64_w, i32_w]
          rfl
        refine take_ (i := 0) (N := some 25) (v := ?_) (a' := ?_) #[true, true, true, false, false, false, false, false, false, false, false] rfl rfl (take_ofW HT_.out HW_.out (by kernel_rfl)) (fun _ _ _ h => h) (Or.inl ⟨by rfl, ?_⟩) hHeld ?_ ?_
        rotate_left
        · rintro w' ⟨s0, s1⟩
          go_simp
          with_reducible rfl
        rotate_left
        · simp only [Act.put, List.setIfInBounds_toArray, List.set_cons_zero, List.set_cons_succ, i64_w, i32_w]
          rfl
        refine join_ (σ := Nat) 2 #[true, true, true, true, true, true, true, true, true, false, false] (fun s_ => [(28, .agg #[.int .u64 t120, .int .u64 t121]), (29, .tuple #[.agg #[.int .u64 t122, .int .u64 t123], .bool t124]), (7, .pointer (some ⟨s_, 0, none⟩)), (24, .tuple #[.agg #[.int .u64 t122, .int .u64 t123], .bool t124]), (30, .agg #[.int .u64 t122, .int .u64 t123]), (31, .bool t124)]) (fun s_ w' => (w'.cell? ⟨gb118, 0, none⟩ = some (.int .u64 a0_0) ∧ w'.cell? ⟨gb118, 1, none⟩ = some (.int .u64 a0_1)) ∧ (w'.heap[gb118]? = some (.cells #[.int .u64 a0_0, .int .u64 a0_1] 24 (0, 0))) ∧ (w'.heap[gb119]? = some (.cells #[.int .u64 0, .int .u64 0] 24 (0, 0))) ∧ (w'.heap[s_]? = some (.cells #[.int .u64 0, .int .u64 0] 24 (0, 0))) ∧ (w.heap.size ≤ s_) ∧ (w.heap.size ≤ s_) ∧ (gb118 ≠ s_) ∧ (s_ ≠ gb118) ∧ (gb119 ≠ s_) ∧ (s_ ≠ gb119) ∧ (Below w.heap.size w w')) ?_ ?_
        rotate_left
        · intro hCont
          refine two_ (i := 3) (j := 8) (Ni := some 28) (Nj := some 7) #[true, true, true, true, false, false, false, false, false, false, false] #[true, true, true, false, false, false, false, false, true, false, false] rfl rfl rfl rfl (two_of HT_.out (by kernel_rfl)) (by decide) (by decide) (fun K hK => ?_) (fun K hK => ?_)
          · skip
            refine goes_ Try.func11 (by kernel_rfl) rfl #[.int .u64 x4_1, .int .u64 x4_1] (by rfl) rfl rfl (by (try simp only [List.map_toArray, List.map_cons, List.map_nil]); first | done | rfl | (simp only [List.length_drop, List.length_take]; rfl)) ?_
            with_reducible refine (twin_Mul.calls x4_1 x4_1 t120 t121 _ A16.out).mono ?_
            rintro e w19 ⟨rfl, hb⟩
            refine ⟨_, rfl, ?_⟩
            have n0_ := Aside0.mk (bB3 BK118.out hb)
            have n1_ := Aside0.mk (bB3 BK119.out hb)
            have n2_ := Aside0.mk (bS3 HB.out hb)
            clear BK118
            clear BK119
            clear HB
            have BK118 := n0_
            have BK119 := n1_
            have HB := n2_
            clear n0_ n1_ n2_
            (try clear hb)
            (try clear hb2)
            (try clear hk)
            (try clear hi)
            refine hK.out _ _ ⟨(blk_cell BK118.out 0).trans rfl, (blk_cell BK118.out 1).trans rfl⟩ (fun hHeld => ?_)
            clear hK K
            refine norm_ (a' := ?_) ?_ ?_
            rotate_left
            · show Act.put _ (some 28) _ = _
              simp only [Act.put, List.setIfInBounds_toArray, List.set_cons_zero, List.set_cons_succ, i64_w, i32_w]
              rfl
            refine two_ (i := 4) (j := 8) (Ni := some 29) (Nj := some 7) #[true, true, true, true, true, false, false, false, false, false, false] #[true, true, true, true, false, false, false, false, true, false, false] rfl rfl rfl rfl (two_of HT_.out (by kernel_rfl)) (by decide) (by decide) (fun K hK => ?_) (fun K hK => ?_)
            · skip
              refine goes_ Try.func19 (by kernel_rfl) rfl #[.agg #[.int .u64 a0_0, .int .u64 a0_1], .agg #[.int .u64 t120, .int .u64 t121]] (by rfl) rfl rfl (by (try simp only [List.map_toArray, List.map_cons, List.map_nil]); first | done | rfl | (simp only [List.length_drop, List.length_take]; rfl)) ?_
              with_reducible refine (twin_Sub.calls a0_0 a0_1 t120 t121 t122 t123 t124 _ A17.out).mono ?_
              rintro e w20 ⟨rfl, hb⟩
              refine ⟨_, rfl, ?_⟩
              have n0_ := Aside0.mk (bB3 BK118.out hb)
              have n1_ := Aside0.mk (bB3 BK119.out hb)
              have n2_ := Aside0.mk (bS3 HB.out hb)
              clear BK118
              clear BK119
              clear HB
              have BK118 := n0_
              have BK119 := n1_
              have HB := n2_
              clear n0_ n1_ n2_
              (try clear hb)
              (try clear hb2)
              (try clear hk)
              (try clear hi)
              refine hK.out _ _ ⟨(blk_cell BK118.out 0).trans rfl, (blk_cell BK118.out 1).trans rfl⟩ (fun hHeld => ?_)
              clear hK K
              refine norm_ (a' := ?_) ?_ ?_
              rotate_left
              · show Act.put _ (some 29) _ = _
                simp only [Act.put, List.setIfInBounds_toArray, List.set_cons_zero, List.set_cons_succ, i64_w, i32_w]
                rfl
              refine pure_ (i := 5) (N := some 24) (v := ?_) (a' := ?_) #[true, true, true, true, true, true, false, false, false, false, false] rfl rfl (any_of HT_.out (by kernel_rfl)) (fun _ _ _ h => h) (Or.inl ⟨by rfl, ?_⟩) ?_ ?_
              rotate_left
              · intro w'
                go_simp
                with_reducible rfl
              rotate_left
              · simp only [Act.put, List.setIfInBounds_toArray, List.set_cons_zero, List.set_cons_succ, i64_w, i32_w]
                rfl
              refine pure_ (i := 6) (N := some 30) (v := ?_) (a' := ?_) #[true, true, true, true, true, true, true, false, false, false, false] rfl rfl (any_of HT_.out (by kernel_rfl)) (fun _ _ _ h => h) (Or.inl ⟨by rfl, ?_⟩) ?_ ?_
              rotate_left
              · intro w'
                go_simp
                with_reducible rfl
              rotate_left
              · simp only [Act.put, List.setIfInBounds_toArray, List.set_cons_zero, List.set_cons_succ, i64_w, i32_w]
                rfl
              refine pure_ (i := 7) (N := some 31) (v := ?_) (a' := ?_) #[true, true, true, true, true, true, true, true, false, false, false] rfl rfl (any_of HT_.out (by kernel_rfl)) (fun _ _ _ h => h) (Or.inl ⟨by rfl, ?_⟩) ?_ ?_
              rotate_left
              · intro w'
                go_simp
                with_reducible rfl
              rotate_left
              · simp only [Act.put, List.setIfInBounds_toArray, List.set_cons_zero, List.set_cons_succ, i64_w, i32_w]
                rfl
              refine one_ (i := 8) (N := some 7) #[true, true, true, true, true, true, true, true, true, false, false] rfl rfl (one_of HT_.out (by kernel_rfl)) (by decide) (fun K hK => ?_)
              refine box_step ?hg (N := 7) ?hd (cs := #[.int .u64 0, .int .u64 0]) (t := 24) ?hr ?_; (case hd => rfl); (case hg => rfl); (case hr => first | (go_simp; done) | (go_simp; rfl))
              intro gb125 hg w21 hbox hb
              have n0_ := Aside0.mk (bB3 BK118.out hb)
              have n1_ := Aside0.mk (bB3 BK119.out hb)
              have n2_ := Aside0.mk (bS3 HB.out hb)
              have n3_ := Aside0.mk (hbox)
              have n4_ := Aside0.mk ((bZ3 hg HB.out))
              have n5_ := Aside0.mk ((bZ3 hg HB.out))
              have n6_ := Aside0.mk ((bL3 hg BK118.out))
              have n7_ := Aside0.mk ((bG3 hg BK118.out))
              have n8_ := Aside0.mk ((bL3 hg BK119.out))
              have n9_ := Aside0.mk ((bG3 hg BK119.out))
              clear BK118
              clear BK119
              clear HB
              have BK118 := n0_
              have BK119 := n1_
              have HB := n2_
              have BK125 := n3_
              have GW125 := n4_
              have GE125 := n5_
              have NB118_125 := n6_
              have NB125_118 := n7_
              have NB119_125 := n8_
              have NB125_119 := n9_
              clear n0_ n1_ n2_ n3_ n4_ n5_ n6_ n7_ n8_ n9_
              clear hb hbox hg
              refine hK.out _ _ ⟨(blk_cell BK118.out 0).trans rfl, (blk_cell BK118.out 1).trans rfl⟩ (fun hHeld => ?_)
              clear hK K
              refine norm_ (a' := ?_) ?_ ?_
              rotate_left
              · show Act.put _ (some 7) _ = _
                simp only [Act.put, List.setIfInBounds_toArray, List.set_cons_zero, List.set_cons_succ, i64_w, i32_w]
                rfl
              exact norm_ (by simp only [putAll, Act.put, List.setIfInBounds_toArray, List.set_cons_zero, List.set_cons_succ]) (hCont (gb125) _ ⟨hHeld, (by (with_reducible repeat (first | refine bN ?_ _ | refine bD ?_ | refine bA ?_ _)); exact BK118.out), (by (with_reducible repeat (first | refine bN ?_ _ | refine bD ?_ | refine bA ?_ _)); exact BK119.out), (by (with_reducible repeat (first | refine bN ?_ _ | refine bD ?_ | refine bA ?_ _)); exact BK125.out), GW125.out, GE125.out, NB118_125.out, NB125_118.out, NB119_125.out, NB125_119.out, (by repeat (first | (with_reducible first | exact HB.out | apply pA | apply pN | apply p1 | refine pS ?_ GE118.out | refine pS ?_ GE119.out | refine pS ?_ GE125.out) | exact HB.out))⟩)
            · skip
              refine box_step ?hg (N := 7) ?hd (cs := #[.int .u64 0, .int .u64 0]) (t := 24) ?hr ?_; (case hd => rfl); (case hg => rfl); (case hr => first | (go_simp; done) | (go_simp; rfl))
              intro gb125 hg w20 hbox hb
              have n0_ := Aside0.mk (bB3 BK118.out hb)
              have n1_ := Aside0.mk (bB3 BK119.out hb)
              have n2_ := Aside0.mk (bS3 HB.out hb)
              have n3_ := Aside0.mk (hbox)
              have n4_ := Aside0.mk ((bZ3 hg HB.out))
              have n5_ := Aside0.mk ((bZ3 hg HB.out))
              have n6_ := Aside0.mk ((bL3 hg BK118.out))
              have n7_ := Aside0.mk ((bG3 hg BK118.out))
              have n8_ := Aside0.mk ((bL3 hg BK119.out))
              have n9_ := Aside0.mk ((bG3 hg BK119.out))
              clear BK118
              clear BK119
              clear HB
              have BK118 := n0_
              have BK119 := n1_
              have HB := n2_
              have BK125 := n3_
              have GW125 := n4_
              have GE125 := n5_
              have NB118_125 := n6_
              have NB125_118 := n7_
              have NB119_125 := n8_
              have NB125_119 := n9_
              clear n0_ n1_ n2_ n3_ n4_ n5_ n6_ n7_ n8_ n9_
              clear hb hbox hg
              refine hK.out _ _ ⟨(blk_cell BK118.out 0).trans rfl, (blk_cell BK118.out 1).trans rfl⟩ (fun hHeld => ?_)
              clear hK K
              refine norm_ (a' := ?_) ?_ ?_
              rotate_left
              · show Act.put _ (some 7) _ = _
                simp only [Act.put, List.setIfInBounds_toArray, List.set_cons_zero, List.set_cons_succ, i64_w, i32_w]
                rfl
              refine one_ (i := 4) (N := some 29) #[true, true, true, true, true, false, false, false, true, false, false] rfl rfl (one_of HT_.out (by kernel_rfl)) (by decide) (fun K hK => ?_)
              refine goes_ Try.func19 (by kernel_rfl) rfl #[.agg #[.int .u64 a0_0, .int .u64 a0_1], .agg #[.int .u64 t120, .int .u64 t121]] (by rfl) rfl rfl (by (try simp only [List.map_toArray, List.map_cons, List.map_nil]); first | done | rfl | (simp only [List.length_drop, List.length_take]; rfl)) ?_
              with_reducible refine (twin_Sub.calls a0_0 a0_1 t120 t121 t122 t123 t124 _ A17.out).mono ?_
              rintro e w21 ⟨rfl, hb⟩
              refine ⟨_, rfl, ?_⟩
              have n0_ := Aside0.mk (bB3 BK118.out hb)
              have n1_ := Aside0.mk (bB3 BK119.out hb)
              have n2_ := Aside0.mk (bB3 BK125.out hb)
              have n3_ := Aside0.mk (bS3 HB.out hb)
              clear BK118
              clear BK119
              clear BK125
              clear HB
              have BK118 := n0_
              have BK119 := n1_
              have BK125 := n2_
              have HB := n3_
              clear n0_ n1_ n2_ n3_
              (try clear hb)
              (try clear hb2)
              (try clear hk)
              (try clear hi)
              refine hK.out _ _ ⟨(blk_cell BK118.out 0).trans rfl, (blk_cell BK118.out 1).trans rfl⟩ (fun hHeld => ?_)
              clear hK K
              refine norm_ (a' := ?_) ?_ ?_
              rotate_left
              · show Act.put _ (some 29) _ = _
                simp only [Act.put, List.setIfInBounds_toArray, List.set_cons_zero, List.set_cons_succ, i64_w, i32_w]
                rfl
              refine pure_ (i := 5) (N := some 24) (v := ?_) (a' := ?_) #[true, true, true, true, true, true, false, false, true, false, false] rfl rfl (any_of HT_.out (by kernel_rfl)) (fun _ _ _ h => h) (Or.inl ⟨by rfl, ?_⟩) ?_ ?_
              rotate_left
              · intro w'
                go_simp
                with_reducible rfl
              rotate_left
              · simp only [Act.put, List.setIfInBounds_toArray, List.set_cons_zero, List.set_cons_succ, i64_w, i32_w]
                rfl
              refine pure_ (i := 6) (N := some 30) (v := ?_) (a' := ?_) #[true, true, true, true, true, true, true, false, true, false, false] rfl rfl (any_of HT_.out (by kernel_rfl)) (fun _ _ _ h => h) (Or.inl ⟨by rfl, ?_⟩) ?_ ?_
              rotate_left
              · intro w'
                go_simp
                with_reducible rfl
              rotate_left
              · simp only [Act.put, List.setIfInBounds_toArray, List.set_cons_zero, List.set_cons_succ, i64_w, i32_w]
                rfl
              refine pure_ (i := 7) (N := some 31) (v := ?_) (a' := ?_) #[true, true, true, true, true, true, true, true, true, false, false] rfl rfl (any_of HT_.out (by kernel_rfl)) (fun _ _ _ h => h) (Or.inl ⟨by rfl, ?_⟩) ?_ ?_
              rotate_left
              · intro w'
                go_simp
                with_reducible rfl
              rotate_left
              · simp only [Act.put, List.setIfInBounds_toArray, List.set_cons_zero, List.set_cons_succ, i64_w, i32_w]
                rfl
              exact norm_ (by simp only [putAll, Act.put, List.setIfInBounds_toArray, List.set_cons_zero, List.set_cons_succ]) (hCont (gb125) _ ⟨hHeld, (by (with_reducible repeat (first | refine bN ?_ _ | refine bD ?_ | refine bA ?_ _)); exact BK118.out), (by (with_reducible repeat (first | refine bN ?_ _ | refine bD ?_ | refine bA ?_ _)); exact BK119.out), (by (with_reducible repeat (first | refine bN ?_ _ | refine bD ?_ | refine bA ?_ _)); exact BK125.out), GW125.out, GE125.out, NB118_125.out, NB125_118.out, NB119_125.out, NB125_119.out, (by repeat (first | (with_reducible first | exact HB.out | apply pA | apply pN | apply p1 | refine pS ?_ GE118.out | refine pS ?_ GE119.out | refine pS ?_ GE125.out) | exact HB.out))⟩)
          · skip
            refine box_step ?hg (N := 7) ?hd (cs := #[.int .u64 0, .int .u64 0]) (t := 24) ?hr ?_; (case hd => rfl); (case hg => rfl); (case hr => first | (go_simp; done) | (go_simp; rfl))
            intro gb125 hg w19 hbox hb
            have n0_ := Aside0.mk (bB3 BK118.out hb)
            have n1_ := Aside0.mk (bB3 BK119.out hb)
            have n2_ := Aside0.mk (bS3 HB.out hb)
            have n3_ := Aside0.mk (hbox)
            have n4_ := Aside0.mk ((bZ3 hg HB.out))
            have n5_ := Aside0.mk ((bZ3 hg HB.out))
            have n6_ := Aside0.mk ((bL3 hg BK118.out))
            have n7_ := Aside0.mk ((bG3 hg BK118.out))
            have n8_ := Aside0.mk ((bL3 hg BK119.out))
            have n9_ := Aside0.mk ((bG3 hg BK119.out))
            clear BK118
            clear BK119
            clear HB
            have BK118 := n0_
            have BK119 := n1_
            have HB := n2_
            have BK125 := n3_
            have GW125 := n4_
            have GE125 := n5_
            have NB118_125 := n6_
            have NB125_118 := n7_
            have NB119_125 := n8_
            have NB125_119 := n9_
            clear n0_ n1_ n2_ n3_ n4_ n5_ n6_ n7_ n8_ n9_
            clear hb hbox hg
            refine hK.out _ _ ⟨(blk_cell BK118.out 0).trans rfl, (blk_cell BK118.out 1).trans rfl⟩ (fun hHeld => ?_)
            clear hK K
            refine norm_ (a' := ?_) ?_ ?_
            rotate_left
            · show Act.put _ (some 7) _ = _
              simp only [Act.put, List.setIfInBounds_toArray, List.set_cons_zero, List.set_cons_succ, i64_w, i32_w]
              rfl
            refine one_ (i := 3) (N := some 28) #[true, true, true, true, false, false, false, false, true, false, false] rfl rfl (one_of HT_.out (by kernel_rfl)) (by decide) (fun K hK => ?_)
            refine goes_ Try.func11 (by kernel_rfl) rfl #[.int .u64 x4_1, .int .u64 x4_1] (by rfl) rfl rfl (by (try simp only [List.map_toArray, List.map_cons, List.map_nil]); first | done | rfl | (simp only [List.length_drop, List.length_take]; rfl)) ?_
            with_reducible refine (twin_Mul.calls x4_1 x4_1 t120 t121 _ A16.out).mono ?_
            rintro e w20 ⟨rfl, hb⟩
            refine ⟨_, rfl, ?_⟩
            have n0_ := Aside0.mk (bB3 BK118.out hb)
            have n1_ := Aside0.mk (bB3 BK119.out hb)
            have n2_ := Aside0.mk (bB3 BK125.out hb)
            have n3_ := Aside0.mk (bS3 HB.out hb)
            clear BK118
            clear BK119
            clear BK125
            clear HB
            have BK118 := n0_
            have BK119 := n1_
            have BK125 := n2_
            have HB := n3_
            clear n0_ n1_ n2_ n3_
            (try clear hb)
            (try clear hb2)
            (try clear hk)
            (try clear hi)
            refine hK.out _ _ ⟨(blk_cell BK118.out 0).trans rfl, (blk_cell BK118.out 1).trans rfl⟩ (fun hHeld => ?_)
            clear hK K
            refine norm_ (a' := ?_) ?_ ?_
            rotate_left
            · show Act.put _ (some 28) _ = _
              simp only [Act.put, List.setIfInBounds_toArray, List.set_cons_zero, List.set_cons_succ, i64_w, i32_w]
              rfl
            refine one_ (i := 4) (N := some 29) #[true, true, true, true, true, false, false, false, true, false, false] rfl rfl (one_of HT_.out (by kernel_rfl)) (by decide) (fun K hK => ?_)
            refine goes_ Try.func19 (by kernel_rfl) rfl #[.agg #[.int .u64 a0_0, .int .u64 a0_1], .agg #[.int .u64 t120, .int .u64 t121]] (by rfl) rfl rfl (by (try simp only [List.map_toArray, List.map_cons, List.map_nil]); first | done | rfl | (simp only [List.length_drop, List.length_take]; rfl)) ?_
            with_reducible refine (twin_Sub.calls a0_0 a0_1 t120 t121 t122 t123 t124 _ A17.out).mono ?_
            rintro e w21 ⟨rfl, hb⟩
            refine ⟨_, rfl, ?_⟩
            have n0_ := Aside0.mk (bB3 BK118.out hb)
            have n1_ := Aside0.mk (bB3 BK119.out hb)
            have n2_ := Aside0.mk (bB3 BK125.out hb)
            have n3_ := Aside0.mk (bS3 HB.out hb)
            clear BK118
            clear BK119
            clear BK125
            clear HB
            have BK118 := n0_
            have BK119 := n1_
            have BK125 := n2_
            have HB := n3_
            clear n0_ n1_ n2_ n3_
            (try clear hb)
            (try clear hb2)
            (try clear hk)
            (try clear hi)
            refine hK.out _ _ ⟨(blk_cell BK118.out 0).trans rfl, (blk_cell BK118.out 1).trans rfl⟩ (fun hHeld => ?_)
            clear hK K
            refine norm_ (a' := ?_) ?_ ?_
            rotate_left
            · show Act.put _ (some 29) _ = _
              simp only [Act.put, List.setIfInBounds_toArray, List.set_cons_zero, List.set_cons_succ, i64_w, i32_w]
              rfl
            refine pure_ (i := 5) (N := some 24) (v := ?_) (a' := ?_) #[true, true, true, true, true, true, false, false, true, false, false] rfl rfl (any_of HT_.out (by kernel_rfl)) (fun _ _ _ h => h) (Or.inl ⟨by rfl, ?_⟩) ?_ ?_
            rotate_left
            · intro w'
              go_simp
              with_reducible rfl
            rotate_left
            · simp only [Act.put, List.setIfInBounds_toArray, List.set_cons_zero, List.set_cons_succ, i64_w, i32_w]
              rfl
            refine pure_ (i := 6) (N := some 30) (v := ?_) (a' := ?_) #[true, true, true, true, true, true, true, false, true, false, false] rfl rfl (any_of HT_.out (by kernel_rfl)) (fun _ _ _ h => h) (Or.inl ⟨by rfl, ?_⟩) ?_ ?_
            rotate_left
            · intro w'
              go_simp
              with_reducible rfl
            rotate_left
            · simp only [Act.put, List.setIfInBounds_toArray, List.set_cons_zero, List.set_cons_succ, i64_w, i32_w]
              rfl
            refine pure_ (i := 7) (N := some 31) (v := ?_) (a' := ?_) #[true, true, true, true, true, true, true, true, true, false, false] rfl rfl (any_of HT_.out (by kernel_rfl)) (fun _ _ _ h => h) (Or.inl ⟨by rfl, ?_⟩) ?_ ?_
            rotate_left
            · intro w'
              go_simp
              with_reducible rfl
            rotate_left
            · simp only [Act.put, List.setIfInBounds_toArray, List.set_cons_zero, List.set_cons_succ, i64_w, i32_w]
              rfl
            exact norm_ (by simp only [putAll, Act.put, List.setIfInBounds_toArray, List.set_cons_zero, List.set_cons_succ]) (hCont (gb125) _ ⟨hHeld, (by (with_reducible repeat (first | refine bN ?_ _ | refine bD ?_ | refine bA ?_ _)); exact BK118.out), (by (with_reducible repeat (first | refine bN ?_ _ | refine bD ?_ | refine bA ?_ _)); exact BK119.out), (by (with_reducible repeat (first | refine bN ?_ _ | refine bD ?_ | refine bA ?_ _)); exact BK125.out), GW125.out, GE125.out, NB118_125.out, NB125_118.out, NB119_125.out, NB125_119.out, (by repeat (first | (with_reducible first | exact HB.out | apply pA | apply pN | apply p1 | refine pS ?_ GE118.out | refine pS ?_ GE119.out | refine pS ?_ GE125.out) | exact HB.out))⟩)
        rintro gb125 w22 ⟨hS_, h0_, h1_, h2_, h3_, h4_, h5_, h6_, h7_, h8_, h9_⟩
        have n0_ : Aside0 (w22.heap[gb118]? = some (.cells #[.int .u64 a0_0, .int .u64 a0_1] 24 (0, 0))) := ⟨h0_⟩
        have n1_ : Aside0 (w22.heap[gb119]? = some (.cells #[.int .u64 0, .int .u64 0] 24 (0, 0))) := ⟨h1_⟩
        have n2_ : Aside0 (w22.heap[gb125]? = some (.cells #[.int .u64 0, .int .u64 0] 24 (0, 0))) := ⟨h2_⟩
        have n3_ : Aside0 (w.heap.size ≤ gb125) := ⟨h3_⟩
        have n4_ : Aside0 (w.heap.size ≤ gb125) := ⟨h4_⟩
        have n5_ : Aside0 (gb118 ≠ gb125) := ⟨h5_⟩
        have n6_ : Aside0 (gb125 ≠ gb118) := ⟨h6_⟩
        have n7_ : Aside0 (gb119 ≠ gb125) := ⟨h7_⟩
        have n8_ : Aside0 (gb125 ≠ gb119) := ⟨h8_⟩
        have n9_ : Aside0 (Below w.heap.size w w22) := ⟨h9_⟩
        clear BK118
        clear BK119
        clear HB
        clear h0_ h1_ h2_ h3_ h4_ h5_ h6_ h7_ h8_ h9_
        have BK118 := n0_
        have BK119 := n1_
        have BK125 := n2_
        have GW125 := n3_
        have GE125 := n4_
        have NB118_125 := n5_
        have NB125_118 := n6_
        have NB119_125 := n7_
        have NB125_119 := n8_
        have HB := n9_
        clear n0_ n1_ n2_ n3_ n4_ n5_ n6_ n7_ n8_ n9_
        have hHeld : w22.cell? ⟨gb118, 0, none⟩ = some (.int .u64 a0_0) ∧ w22.cell? ⟨gb118, 1, none⟩ = some (.int .u64 a0_1) := hS_
        refine norm_ (a' := ?_) ?_ ?_
        rotate_left
        · simp only [putAll, Act.put, List.setIfInBounds_toArray, List.set_cons_zero, List.set_cons_succ]
          rfl
        refine one_ (i := 9) (N := none) #[true, true, true, true, true, true, true, true, true, true, false] rfl rfl (one_of HT_.out (by kernel_rfl)) (by decide) (fun K hK => ?_)
        have hs23 : w22.cell? ⟨gb125, 0, none⟩ = some (.int .u64 0) := (blk_cell BK125.out 0).trans rfl
        have hfs23 := blk_frozen BK125.out 0
        have hns23_0 := NB118_125.out
        have hns23_1 := NB119_125.out
        have hms23_0 := NB125_118.out
        have hms23_1 := NB125_119.out
        have hs24 : w22.cell? ⟨gb125, 1, none⟩ = some (.int .u64 0) := (blk_cell BK125.out 1).trans rfl
        have hfs24 := blk_frozen BK125.out 1
        have hns24_0 := NB118_125.out
        have hns24_1 := NB119_125.out
        have hms24_0 := NB125_118.out
        have hms24_1 := NB125_119.out
        refine skip_ (w1 := ?_) (by rfl) rfl ?_ ?_
        rotate_left
        · go_simp
          rfl
        refine hK.out _ _ ⟨((cell_far (p := ⟨gb125, _, none⟩) NB118_125.out _).trans (((cell_far (p := ⟨gb125, _, none⟩) NB118_125.out _).trans (hHeld.1)))), ((cell_far (p := ⟨gb125, _, none⟩) NB118_125.out _).trans (((cell_far (p := ⟨gb125, _, none⟩) NB118_125.out _).trans (hHeld.2))))⟩ (fun hHeld => ?_)
        clear hK K
        refine pure_ (i := 10) (N := some 8) (v := ?_) (a' := ?_) #[true, true, true, true, true, true, true, true, true, true, true] rfl rfl (any_of HT_.out (by kernel_rfl)) (fun _ _ _ h => h) (Or.inl ⟨by rfl, ?_⟩) ?_ ?_
        rotate_left
        · intro w'
          go_simp
          with_reducible rfl
        rotate_left
        · simp only [Act.put, List.setIfInBounds_toArray, List.set_cons_zero, List.set_cons_succ, i64_w, i32_w]
          rfl
        refine done_ (done_of HT_.out (by kernel_rfl)) ?_
        try go_wp2
        have n0_ : Aside0 (((w22.setCell ⟨gb125, 0, none⟩ (.int .u64 t122)).setCell ⟨gb125, 1, none⟩ (.int .u64 t123)).heap[gb118]? = some (.cells #[.int .u64 a0_0, .int .u64 a0_1] 24 (0, 0))) := ⟨by (with_reducible repeat (first | refine bN ?_ _ | refine bD ?_ | refine bA ?_ _)); refine blk_far ?_ NB118_125.out _; (with_reducible repeat (first | refine bN ?_ _ | refine bD ?_ | refine bA ?_ _)); refine blk_far ?_ NB118_125.out _; (with_reducible repeat (first | refine bN ?_ _ | refine bD ?_ | refine bA ?_ _)); exact BK118.out⟩
        have n1_ : Aside0 (((w22.setCell ⟨gb125, 0, none⟩ (.int .u64 t122)).setCell ⟨gb125, 1, none⟩ (.int .u64 t123)).heap[gb119]? = some (.cells #[.int .u64 0, .int .u64 0] 24 (0, 0))) := ⟨by (with_reducible repeat (first | refine bN ?_ _ | refine bD ?_ | refine bA ?_ _)); refine blk_far ?_ NB119_125.out _; (with_reducible repeat (first | refine bN ?_ _ | refine bD ?_ | refine bA ?_ _)); refine blk_far ?_ NB119_125.out _; (with_reducible repeat (first | refine bN ?_ _ | refine bD ?_ | refine bA ?_ _)); exact BK119.out⟩
        have n2_ : Aside0 (((w22.setCell ⟨gb125, 0, none⟩ (.int .u64 t122)).setCell ⟨gb125, 1, none⟩ (.int .u64 t123)).heap[gb125]? = some (.cells #[.int .u64 t122, .int .u64 t123] 24 (0, 0))) := ⟨by (with_reducible repeat (first | refine bN ?_ _ | refine bD ?_ | refine bA ?_ _)); refine blk_put (cs := #[.int .u64 t122, .int .u64 0]) ?_ 1 _ rfl; (with_reducible repeat (first | refine bN ?_ _ | refine bD ?_ | refine bA ?_ _)); refine blk_put (cs := #[.int .u64 0, .int .u64 0]) ?_ 0 _ rfl; (with_reducible repeat (first | refine bN ?_ _ | refine bD ?_ | refine bA ?_ _)); exact BK125.out⟩
        have n3_ : Aside0 (Below w.heap.size w ((w22.setCell ⟨gb125, 0, none⟩ (.int .u64 t122)).setCell ⟨gb125, 1, none⟩ (.int .u64 t123))) := ⟨by repeat (first | (with_reducible first | exact HB.out | apply pA | apply pN | apply p1 | refine pS ?_ GE118.out | refine pS ?_ GE119.out | refine pS ?_ GE125.out) | exact HB.out)⟩
        (try clear BK118)
        (try clear BK119)
        (try clear BK125)
        (try clear HB)
        generalize ((w22.setCell ⟨gb125, 0, none⟩ (.int .u64 t122)).setCell ⟨gb125, 1, none⟩ (.int .u64 t123)) = w25 at n0_ n1_ n2_ n3_ ⊢
        have BK118 := n0_
        have BK119 := n1_
        have BK125 := n2_
        have HB := n3_
        clear n0_ n1_ n2_ n3_
        have n0_ := Aside0.mk (bD BK118.out)
        have n1_ := Aside0.mk (bD BK119.out)
        have n2_ := Aside0.mk (bD BK125.out)
        have n3_ := Aside0.mk (p1 HB.out)
        clear BK118
        clear BK119
        clear BK125
        clear HB
        have BK118 := n0_
        have BK119 := n1_
        have BK125 := n2_
        have HB := n3_
        clear n0_ n1_ n2_ n3_
        refine start_ (n := 4) (S := fun w' => w'.cell? ⟨gb125, 0, none⟩ = some (.int .u64 t122) ∧ w'.cell? ⟨gb125, 1, none⟩ = some (.int .u64 t123)) (ds := []) #[false, false, false, false] (by kernel_rfl) rfl rfl ⟨(blk_cell BK125.out 0).trans rfl, (blk_cell BK125.out 1).trans rfl⟩ (fun hHeld => ?_)
        generalize w25.drew = w26 at BK118 BK119 BK125 HB hHeld ⊢
        refine pure_ (i := 0) (N := some 32) (v := ?_) (a' := ?_) #[true, false, false, false] rfl rfl (by kernel_rfl) (fun _ _ _ h => h) (Or.inl ⟨by rfl, ?_⟩) ?_ ?_
        rotate_left
        · intro w'
          go_simp
          with_reducible rfl
        rotate_left
        · simp only [Act.put, List.setIfInBounds_toArray, List.set_cons_zero, List.set_cons_succ, i64_w, i32_w]
          rfl
        refine pure_ (i := 2) (N := some 2) (v := ?_) (a' := ?_) #[true, false, true, false] rfl rfl (by kernel_rfl) (fun _ _ _ h => h) (Or.inl ⟨by rfl, ?_⟩) ?_ ?_
        rotate_left
        · intro w'
          go_simp
          with_reducible rfl
        rotate_left
        · simp only [Act.put, List.setIfInBounds_toArray, List.set_cons_zero, List.set_cons_succ, i64_w, i32_w]
          rfl
        refine take_ (i := 1) (N := some 33) (v := ?_) (a' := ?_) #[true, true, true, false] rfl rfl (by kernel_rfl) (fun _ _ _ h => h) (Or.inl ⟨by rfl, ?_⟩) hHeld ?_ ?_
        rotate_left
        · rintro w' ⟨s0, s1⟩
          go_simp
          with_reducible rfl
        rotate_left
        · simp only [Act.put, List.setIfInBounds_toArray, List.set_cons_zero, List.set_cons_succ, i64_w, i32_w]
          rfl
        refine one_ (i := 3) (N := none) #[true, true, true, true] rfl rfl (by kernel_rfl) (by decide) (fun K hK => ?_)
        have hs27 : w26.cell? ⟨gb119, 0, none⟩ = some (.int .u64 0) := (blk_cell BK119.out 0).trans rfl
        have hfs27 := blk_frozen BK119.out 0
        have hns27_0 := NB118_119.out
        have hns27_2 := NB125_119.out
        have hms27_0 := NB119_118.out
        have hms27_2 := NB119_125.out
        have hs28 : w26.cell? ⟨gb119, 1, none⟩ = some (.int .u64 0) := (blk_cell BK119.out 1).trans rfl
        have hfs28 := blk_frozen BK119.out 1
        have hns28_0 := NB118_119.out
        have hns28_2 := NB125_119.out
        have hms28_0 := NB119_118.out
        have hms28_2 := NB119_125.out
        refine skip_ (w1 := ?_) (by rfl) rfl ?_ ?_
        rotate_left
        · go_simp
          rfl
        refine hK.out _ _ ⟨((cell_far (p := ⟨gb119, _, none⟩) NB125_119.out _).trans (((cell_far (p := ⟨gb119, _, none⟩) NB125_119.out _).trans (hHeld.1)))), ((cell_far (p := ⟨gb119, _, none⟩) NB125_119.out _).trans (((cell_far (p := ⟨gb119, _, none⟩) NB125_119.out _).trans (hHeld.2))))⟩ (fun hHeld => ?_)
        clear hK K
        refine done_ (by kernel_rfl) ?_
        try go_wp2
        refine bodyPost_ret (results_tc rfl _ _ gb119 24 #[.int .u64 t122, .int .u64 t123] (0, 0) _ rfl (by (with_reducible repeat (first | refine bN ?_ _ | refine bD ?_ | refine bA ?_ _)); refine blk_put (cs := #[.int .u64 t122, .int .u64 0]) ?_ 1 _ rfl; (with_reducible repeat (first | refine bN ?_ _ | refine bD ?_ | refine bA ?_ _)); refine blk_put (cs := #[.int .u64 0, .int .u64 0]) ?_ 0 _ rfl; (with_reducible repeat (first | refine bN ?_ _ | refine bD ?_ | refine bA ?_ _)); exact BK119.out) Try.underlying24 rfl (by kernel_rfl)) rfl ?_
        exact ⟨by first | rfl | (simp [errW_none, errW_some] <;> rfl) | (simp [*, errW_none, errW_some] <;> rfl), by repeat (first | (with_reducible first | exact HB.out | apply pA | apply pN | apply p1 | refine pS ?_ GE118.out | refine pS ?_ GE119.out | refine pS ?_ GE125.out) | exact HB.out)⟩

/-! ### part_Long: function 9 -/
def part_Long.f (k : Nat) (a0_0 : Int) (a0_1 : Int) (a1 : Int) : Option (Int × Int × Int × Option Int) := if a1 = 0 then (some (0, 0, 0, some 4)) else ((bits_Div64.f k (Int.tmod a0_0 a1) a0_1 a1).bind fun bt139 => (some (IntKind.u64.wrap (Int.tdiv a0_0 a1), bt139.1, bt139.2, none)))
theorem part_Long.mono : ∀ a0 a1 a2 k, LeO (part_Long.f k a0 a1 a2) (part_Long.f (k + 1) a0 a1 a2) := by
  intro a0 a1 a2 k
  unfold part_Long.f
  repeat' first
      | (with_reducible exact bits_Div64.mono _ _ _ _)
      | (with_reducible exact LeO.refl _)
      | (with_reducible exact LeO.none _)
      | (with_reducible refine LeO.ite ?_ ?_)
      | (with_reducible refine LeO.bind ?_ (fun _ => ?_))
      | exact bits_Div64.mono _ _ _ _
      | exact LeO.none _
      | refine LeO.ite ?_ ?_
      | refine LeO.bind ?_ (fun _ => ?_)
set_option maxHeartbeats 8000000 in
set_option maxRecDepth 100000 in
theorem part_Long.calls (k : Nat) (a0_0 : Int) (a0_1 : Int) (a1 : Int) (r1 : Int) (r2 : Int) (r3 : Int) (r4 : Option Int) (w : World) (h : part_Long.f k a0_0 a0_1 a1 = some (r1, r2, r3, r4)) :
    Calls Try.prog 9 #[.agg #[.int .u64 a0_0, .int .u64 a0_1], .int .u64 a1] w fun e w' => e = .returned (.tuple #[.agg #[.int .u64 r1, .int .u64 r2], .int .u64 r3, errW r4]) ∧ Below w.heap.size w w' := by
  have hu24 := Try.underlying24
  have hu27 := Try.underlying27
  have hu38 := Try.underlying38
  have HB := Aside0.mk (Below.refl w.heap.size w)
  have H : (if a1 = 0 then (some (0, 0, 0, some 4)) else ((bits_Div64.f k (Int.tmod a0_0 a1) a0_1 a1).bind fun bt139 => (some (IntKind.u64.wrap (Int.tdiv a0_0 a1), bt139.1, bt139.2, none)))) = some (r1, r2, r3, r4) := h
  clear h
  by_cases c3 : a1 = 0
  · rw [if_pos c3] at H
    have c3b0 : (a1 == 0) = true := beq_iff_eq.mpr c3
    have c3b1 : (a1 != 0) = false := bne_eq_false_iff_eq.mpr c3
    clear c3
    simp only [Option.some.injEq, Prod.mk.injEq] at H
    obtain ⟨rfl, rfl, rfl, rfl⟩ := H
    go_enter Try.func9, Try.ntmps9
    go_wp2_with (first | ((with_reducible refine gD (N := 2) rfl ?_); refine bE3 2 #[.int .u64 a0_0, .int .u64 a0_1] 24 ?hr ?_; (case hr => first | (go_simp; done) | (go_simp; rfl)); intro gb137 hg w4 hbox hb; have n0_ := Aside0.mk (bS3 HB.out hb); have n1_ := Aside0.mk (hbox); have n2_ := Aside0.mk ((bZ3 hg HB.out)); have n3_ := Aside0.mk ((bZ3 hg HB.out)); clear HB; have HB := n0_; have BK137 := n1_; have GW137 := n2_; have GE137 := n3_; clear n0_ n1_ n2_ n3_; clear hb hbox hg) | ((with_reducible refine gD (N := 4) rfl ?_); refine bE3 4 #[.int .u64 0, .int .u64 0] 24 ?hr ?_; (case hr => first | (go_simp; done) | (go_simp; rfl)); intro gb138 hg w5 hbox hb; have n0_ := Aside0.mk (bB3 BK137.out hb); have n1_ := Aside0.mk (bS3 HB.out hb); have n2_ := Aside0.mk (hbox); have n3_ := Aside0.mk ((bZ3 hg HB.out)); have n4_ := Aside0.mk ((bZ3 hg HB.out)); have n5_ := Aside0.mk ((bL3 hg BK137.out)); have n6_ := Aside0.mk ((bG3 hg BK137.out)); clear BK137; clear HB; have BK137 := n0_; have HB := n1_; have BK138 := n2_; have GW138 := n3_; have GE138 := n4_; have NB137_138 := n5_; have NB138_137 := n6_; clear n0_ n1_ n2_ n3_ n4_ n5_ n6_; clear hb hbox hg; have hnb6 := NB138_137.out; have hnc6 := NB137_138.out; have hcz7_0 : w5.cell? ⟨gb138, 0, none⟩ = some (.int .u64 0) := (blk_cell BK138.out 0).trans rfl; have hcz7_1 : w5.cell? ⟨gb138, 1, none⟩ = some (.int .u64 0) := (blk_cell BK138.out 1).trans rfl; have hfz7_0 := blk_frozen BK138.out 0; have hfz7_1 := blk_frozen BK138.out 1))
    repeat (go_quiet (first | ((with_reducible refine gD (N := 2) rfl ?_); refine bE3 2 #[.int .u64 a0_0, .int .u64 a0_1] 24 ?hr ?_; (case hr => first | (go_simp; done) | (go_simp; rfl)); intro gb137 hg w4 hbox hb; have n0_ := Aside0.mk (bS3 HB.out hb); have n1_ := Aside0.mk (hbox); have n2_ := Aside0.mk ((bZ3 hg HB.out)); have n3_ := Aside0.mk ((bZ3 hg HB.out)); clear HB; have HB := n0_; have BK137 := n1_; have GW137 := n2_; have GE137 := n3_; clear n0_ n1_ n2_ n3_; clear hb hbox hg) | ((with_reducible refine gD (N := 4) rfl ?_); refine bE3 4 #[.int .u64 0, .int .u64 0] 24 ?hr ?_; (case hr => first | (go_simp; done) | (go_simp; rfl)); intro gb138 hg w5 hbox hb; have n0_ := Aside0.mk (bB3 BK137.out hb); have n1_ := Aside0.mk (bS3 HB.out hb); have n2_ := Aside0.mk (hbox); have n3_ := Aside0.mk ((bZ3 hg HB.out)); have n4_ := Aside0.mk ((bZ3 hg HB.out)); have n5_ := Aside0.mk ((bL3 hg BK137.out)); have n6_ := Aside0.mk ((bG3 hg BK137.out)); clear BK137; clear HB; have BK137 := n0_; have HB := n1_; have BK138 := n2_; have GW138 := n3_; have GE138 := n4_; have NB137_138 := n5_; have NB138_137 := n6_; clear n0_ n1_ n2_ n3_ n4_ n5_ n6_; clear hb hbox hg; have hnb6 := NB138_137.out; have hnc6 := NB137_138.out; have hcz7_0 : w5.cell? ⟨gb138, 0, none⟩ = some (.int .u64 0) := (blk_cell BK138.out 0).trans rfl; have hcz7_1 : w5.cell? ⟨gb138, 1, none⟩ = some (.int .u64 0) := (blk_cell BK138.out 1).trans rfl; have hfz7_0 := blk_frozen BK138.out 0; have hfz7_1 := blk_frozen BK138.out 1)); try go_wp2_with (first | ((with_reducible refine gD (N := 2) rfl ?_); refine bE3 2 #[.int .u64 a0_0, .int .u64 a0_1] 24 ?hr ?_; (case hr => first | (go_simp; done) | (go_simp; rfl)); intro gb137 hg w4 hbox hb; have n0_ := Aside0.mk (bS3 HB.out hb); have n1_ := Aside0.mk (hbox); have n2_ := Aside0.mk ((bZ3 hg HB.out)); have n3_ := Aside0.mk ((bZ3 hg HB.out)); clear HB; have HB := n0_; have BK137 := n1_; have GW137 := n2_; have GE137 := n3_; clear n0_ n1_ n2_ n3_; clear hb hbox hg) | ((with_reducible refine gD (N := 4) rfl ?_); refine bE3 4 #[.int .u64 0, .int .u64 0] 24 ?hr ?_; (case hr => first | (go_simp; done) | (go_simp; rfl)); intro gb138 hg w5 hbox hb; have n0_ := Aside0.mk (bB3 BK137.out hb); have n1_ := Aside0.mk (bS3 HB.out hb); have n2_ := Aside0.mk (hbox); have n3_ := Aside0.mk ((bZ3 hg HB.out)); have n4_ := Aside0.mk ((bZ3 hg HB.out)); have n5_ := Aside0.mk ((bL3 hg BK137.out)); have n6_ := Aside0.mk ((bG3 hg BK137.out)); clear BK137; clear HB; have BK137 := n0_; have HB := n1_; have BK138 := n2_; have GW138 := n3_; have GE138 := n4_; have NB137_138 := n5_; have NB138_137 := n6_; clear n0_ n1_ n2_ n3_ n4_ n5_ n6_; clear hb hbox hg; have hnb6 := NB138_137.out; have hnc6 := NB137_138.out; have hcz7_0 : w5.cell? ⟨gb138, 0, none⟩ = some (.int .u64 0) := (blk_cell BK138.out 0).trans rfl; have hcz7_1 : w5.cell? ⟨gb138, 1, none⟩ = some (.int .u64 0) := (blk_cell BK138.out 1).trans rfl; have hfz7_0 := blk_frozen BK138.out 0; have hfz7_1 := blk_frozen BK138.out 1)))
    refine bodyPost_ret (results_ctt rfl _ _ gb138 24 #[.int .u64 0, .int .u64 0] (0, 0) _ rfl (by (with_reducible repeat (first | refine bN ?_ _ | refine bD ?_ | refine bA ?_ _)); refine blk_put (cs := #[.int .u64 0, .int .u64 0]) ?_ 1 _ rfl; (with_reducible repeat (first | refine bN ?_ _ | refine bD ?_ | refine bA ?_ _)); refine blk_put (cs := #[.int .u64 0, .int .u64 0]) ?_ 0 _ rfl; (with_reducible repeat (first | refine bN ?_ _ | refine bD ?_ | refine bA ?_ _)); exact BK138.out) Try.underlying24 rfl (by kernel_rfl)) rfl ?_
    exact ⟨by first | rfl | (simp [errW_none, errW_some] <;> rfl) | (simp [*, errW_none, errW_some] <;> rfl), by repeat (first | (with_reducible first | exact HB.out | apply pA | apply pN | apply p1 | refine pS ?_ GE137.out | refine pS ?_ GE138.out) | exact HB.out)⟩
  · rw [if_neg c3] at H
    have c3b0 : (a1 == 0) = false := beq_eq_false_iff_ne.mpr c3
    have c3b1 : (a1 != 0) = true := bne_iff_ne.mpr c3
    replace H := Option.bind_eq_some_iff.mp H
    obtain ⟨⟨t139, t140⟩, A80, H⟩ := H
    replace H : (some (IntKind.u64.wrap (Int.tdiv a0_0 a1), t139, t140, none)) = some (r1, r2, r3, r4) := H
    have A8 := Aside0.mk A80
    clear A80
    simp only [Option.some.injEq, Prod.mk.injEq] at H
    obtain ⟨rfl, rfl, rfl, rfl⟩ := H
    go_enter Try.func9, Try.ntmps9
    go_wp2_with (first | ((with_reducible refine gD (N := 2) rfl ?_); refine bE3 2 #[.int .u64 a0_0, .int .u64 a0_1] 24 ?hr ?_; (case hr => first | (go_simp; done) | (go_simp; rfl)); intro gb137 hg w9 hbox hb; have n0_ := Aside0.mk (bS3 HB.out hb); have n1_ := Aside0.mk (hbox); have n2_ := Aside0.mk ((bZ3 hg HB.out)); have n3_ := Aside0.mk ((bZ3 hg HB.out)); clear HB; have HB := n0_; have BK137 := n1_; have GW137 := n2_; have GE137 := n3_; clear n0_ n1_ n2_ n3_; clear hb hbox hg) | ((with_reducible refine gD (N := 4) rfl ?_); refine bE3 4 #[.int .u64 0, .int .u64 0] 24 ?hr ?_; (case hr => first | (go_simp; done) | (go_simp; rfl)); intro gb138 hg w10 hbox hb; have n0_ := Aside0.mk (bB3 BK137.out hb); have n1_ := Aside0.mk (bS3 HB.out hb); have n2_ := Aside0.mk (hbox); have n3_ := Aside0.mk ((bZ3 hg HB.out)); have n4_ := Aside0.mk ((bZ3 hg HB.out)); have n5_ := Aside0.mk ((bL3 hg BK137.out)); have n6_ := Aside0.mk ((bG3 hg BK137.out)); clear BK137; clear HB; have BK137 := n0_; have HB := n1_; have BK138 := n2_; have GW138 := n3_; have GE138 := n4_; have NB137_138 := n5_; have NB138_137 := n6_; clear n0_ n1_ n2_ n3_ n4_ n5_ n6_; clear hb hbox hg; have hnb11 := NB137_138.out; have hnc11 := NB138_137.out; have hcz12_0 : w10.cell? ⟨gb137, 0, none⟩ = some (.int .u64 a0_0) := (blk_cell BK137.out 0).trans rfl; have hcz12_1 : w10.cell? ⟨gb137, 1, none⟩ = some (.int .u64 a0_1) := (blk_cell BK137.out 1).trans rfl; have hfz12_0 := blk_frozen BK137.out 0; have hfz12_1 := blk_frozen BK137.out 1) | (go_at_call 17; (with_reducible refine (bits_Div64.calls k (Int.tmod a0_0 a1) a0_1 a1 t139 t140 _ A8.out).mono ?_); rintro e w' ⟨rfl, ⟨nd, rfl⟩⟩; (try first | exact ⟨rfl, _, World.drewN_drewN _ _ _⟩ | exact ⟨rfl, _, Eq.trans (World.drewN_drewN _ _ _) (congrArg (World.drewN _) (Nat.add_assoc _ _ _))⟩); have hcz13_0 : w10.cell? ⟨gb138, 0, none⟩ = some (.int .u64 0) := (blk_cell BK138.out 0).trans rfl; have hcz13_1 : w10.cell? ⟨gb138, 1, none⟩ = some (.int .u64 0) := (blk_cell BK138.out 1).trans rfl; have hfz13_0 := blk_frozen BK138.out 0; have hfz13_1 := blk_frozen BK138.out 1))
    repeat (go_quiet (first | ((with_reducible refine gD (N := 2) rfl ?_); refine bE3 2 #[.int .u64 a0_0, .int .u64 a0_1] 24 ?hr ?_; (case hr => first | (go_simp; done) | (go_simp; rfl)); intro gb137 hg w9 hbox hb; have n0_ := Aside0.mk (bS3 HB.out hb); have n1_ := Aside0.mk (hbox); have n2_ := Aside0.mk ((bZ3 hg HB.out)); have n3_ := Aside0.mk ((bZ3 hg HB.out)); clear HB; have HB := n0_; have BK137 := n1_; have GW137 := n2_; have GE137 := n3_; clear n0_ n1_ n2_ n3_; clear hb hbox hg) | ((with_reducible refine gD (N := 4) rfl ?_); refine bE3 4 #[.int .u64 0, .int .u64 0] 24 ?hr ?_; (case hr => first | (go_simp; done) | (go_simp; rfl)); intro gb138 hg w10 hbox hb; have n0_ := Aside0.mk (bB3 BK137.out hb); have n1_ := Aside0.mk (bS3 HB.out hb); have n2_ := Aside0.mk (hbox); have n3_ := Aside0.mk ((bZ3 hg HB.out)); have n4_ := Aside0.mk ((bZ3 hg HB.out)); have n5_ := Aside0.mk ((bL3 hg BK137.out)); have n6_ := Aside0.mk ((bG3 hg BK137.out)); clear BK137; clear HB; have BK137 := n0_; have HB := n1_; have BK138 := n2_; have GW138 := n3_; have GE138 := n4_; have NB137_138 := n5_; have NB138_137 := n6_; clear n0_ n1_ n2_ n3_ n4_ n5_ n6_; clear hb hbox hg; have hnb11 := NB137_138.out; have hnc11 := NB138_137.out; have hcz12_0 : w10.cell? ⟨gb137, 0, none⟩ = some (.int .u64 a0_0) := (blk_cell BK137.out 0).trans rfl; have hcz12_1 : w10.cell? ⟨gb137, 1, none⟩ = some (.int .u64 a0_1) := (blk_cell BK137.out 1).trans rfl; have hfz12_0 := blk_frozen BK137.out 0; have hfz12_1 := blk_frozen BK137.out 1) | (go_at_call 17; (with_reducible refine (bits_Div64.calls k (Int.tmod a0_0 a1) a0_1 a1 t139 t140 _ A8.out).mono ?_); rintro e w' ⟨rfl, ⟨nd, rfl⟩⟩; (try first | exact ⟨rfl, _, World.drewN_drewN _ _ _⟩ | exact ⟨rfl, _, Eq.trans (World.drewN_drewN _ _ _) (congrArg (World.drewN _) (Nat.add_assoc _ _ _))⟩); have hcz13_0 : w10.cell? ⟨gb138, 0, none⟩ = some (.int .u64 0) := (blk_cell BK138.out 0).trans rfl; have hcz13_1 : w10.cell? ⟨gb138, 1, none⟩ = some (.int .u64 0) := (blk_cell BK138.out 1).trans rfl; have hfz13_0 := blk_frozen BK138.out 0; have hfz13_1 := blk_frozen BK138.out 1)); try go_wp2_with (first | ((with_reducible refine gD (N := 2) rfl ?_); refine bE3 2 #[.int .u64 a0_0, .int .u64 a0_1] 24 ?hr ?_; (case hr => first | (go_simp; done) | (go_simp; rfl)); intro gb137 hg w9 hbox hb; have n0_ := Aside0.mk (bS3 HB.out hb); have n1_ := Aside0.mk (hbox); have n2_ := Aside0.mk ((bZ3 hg HB.out)); have n3_ := Aside0.mk ((bZ3 hg HB.out)); clear HB; have HB := n0_; have BK137 := n1_; have GW137 := n2_; have GE137 := n3_; clear n0_ n1_ n2_ n3_; clear hb hbox hg) | ((with_reducible refine gD (N := 4) rfl ?_); refine bE3 4 #[.int .u64 0, .int .u64 0] 24 ?hr ?_; (case hr => first | (go_simp; done) | (go_simp; rfl)); intro gb138 hg w10 hbox hb; have n0_ := Aside0.mk (bB3 BK137.out hb); have n1_ := Aside0.mk (bS3 HB.out hb); have n2_ := Aside0.mk (hbox); have n3_ := Aside0.mk ((bZ3 hg HB.out)); have n4_ := Aside0.mk ((bZ3 hg HB.out)); have n5_ := Aside0.mk ((bL3 hg BK137.out)); have n6_ := Aside0.mk ((bG3 hg BK137.out)); clear BK137; clear HB; have BK137 := n0_; have HB := n1_; have BK138 := n2_; have GW138 := n3_; have GE138 := n4_; have NB137_138 := n5_; have NB138_137 := n6_; clear n0_ n1_ n2_ n3_ n4_ n5_ n6_; clear hb hbox hg; have hnb11 := NB137_138.out; have hnc11 := NB138_137.out; have hcz12_0 : w10.cell? ⟨gb137, 0, none⟩ = some (.int .u64 a0_0) := (blk_cell BK137.out 0).trans rfl; have hcz12_1 : w10.cell? ⟨gb137, 1, none⟩ = some (.int .u64 a0_1) := (blk_cell BK137.out 1).trans rfl; have hfz12_0 := blk_frozen BK137.out 0; have hfz12_1 := blk_frozen BK137.out 1) | (go_at_call 17; (with_reducible refine (bits_Div64.calls k (Int.tmod a0_0 a1) a0_1 a1 t139 t140 _ A8.out).mono ?_); rintro e w' ⟨rfl, ⟨nd, rfl⟩⟩; (try first | exact ⟨rfl, _, World.drewN_drewN _ _ _⟩ | exact ⟨rfl, _, Eq.trans (World.drewN_drewN _ _ _) (congrArg (World.drewN _) (Nat.add_assoc _ _ _))⟩); have hcz13_0 : w10.cell? ⟨gb138, 0, none⟩ = some (.int .u64 0) := (blk_cell BK138.out 0).trans rfl; have hcz13_1 : w10.cell? ⟨gb138, 1, none⟩ = some (.int .u64 0) := (blk_cell BK138.out 1).trans rfl; have hfz13_0 := blk_frozen BK138.out 0; have hfz13_1 := blk_frozen BK138.out 1)))
    refine bodyPost_ret (results_ctt rfl _ _ gb138 24 #[.int .u64 (IntKind.u64.wrap (Int.tdiv a0_0 a1)), .int .u64 t139] (0, 0) _ rfl (by (with_reducible repeat (first | refine bN ?_ _ | refine bD ?_ | refine bA ?_ _)); refine blk_put (cs := #[.int .u64 (IntKind.u64.wrap (Int.tdiv a0_0 a1)), .int .u64 0]) ?_ 1 _ rfl; (with_reducible repeat (first | refine bN ?_ _ | refine bD ?_ | refine bA ?_ _)); refine blk_put (cs := #[.int .u64 0, .int .u64 0]) ?_ 0 _ rfl; (with_reducible repeat (first | refine bN ?_ _ | refine bD ?_ | refine bA ?_ _)); exact BK138.out) Try.underlying24 rfl (by kernel_rfl)) rfl ?_
    exact ⟨by first | rfl | (simp [errW_none, errW_some] <;> rfl) | (simp [*, errW_none, errW_some] <;> rfl), by repeat (first | (with_reducible first | exact HB.out | apply pA | apply pN | apply p1 | refine pS ?_ GE137.out | refine pS ?_ GE138.out) | exact HB.out)⟩

/-! ### part_times: function 18 -/
def part_times.f (a0_0 : Int) (a0_1 : Int) (a1 : Int) : Option (Int × Int) := (twin_Mul.f a0_1 a1).bind fun bt162 => (some (IntKind.u64.wrap (bt162.1 + (IntKind.u64.wrap (a0_0 * a1))), bt162.2))
set_option maxHeartbeats 8000000 in
set_option maxRecDepth 100000 in
theorem part_times.calls (a0_0 : Int) (a0_1 : Int) (a1 : Int) (r1 : Int) (r2 : Int) (w : World) (h : part_times.f a0_0 a0_1 a1 = some (r1, r2)) :
    Calls Try.prog 18 #[.agg #[.int .u64 a0_0, .int .u64 a0_1], .int .u64 a1] w fun e w' => e = .returned (.agg #[.int .u64 r1, .int .u64 r2]) ∧ Below w.heap.size w w' := by
  have hu24 := Try.underlying24
  have HB := Aside0.mk (Below.refl w.heap.size w)
  have H : ((twin_Mul.f a0_1 a1).bind fun bt162 => (some (IntKind.u64.wrap (bt162.1 + (IntKind.u64.wrap (a0_0 * a1))), bt162.2))) = some (r1, r2) := h
  clear h
  replace H := Option.bind_eq_some_iff.mp H
  obtain ⟨⟨t162, t163⟩, A30, H⟩ := H
  replace H : (some (IntKind.u64.wrap (t162 + (IntKind.u64.wrap (a0_0 * a1))), t163)) = some (r1, r2) := H
  have A3 := Aside0.mk A30
  clear A30
  simp only [Option.some.injEq, Prod.mk.injEq] at H
  obtain ⟨rfl, rfl⟩ := H
  go_enter Try.func18, Try.ntmps18
  go_wp2_with (first | ((with_reducible refine gD (N := 2) rfl ?_); refine bE3 2 #[.int .u64 a0_0, .int .u64 a0_1] 24 ?hr ?_; (case hr => first | (go_simp; done) | (go_simp; rfl)); intro gb160 hg w4 hbox hb; have n0_ := Aside0.mk (bS3 HB.out hb); have n1_ := Aside0.mk (hbox); have n2_ := Aside0.mk ((bZ3 hg HB.out)); have n3_ := Aside0.mk ((bZ3 hg HB.out)); clear HB; have HB := n0_; have BK160 := n1_; have GW160 := n2_; have GE160 := n3_; clear n0_ n1_ n2_ n3_; clear hb hbox hg) | ((with_reducible refine gD (N := 4) rfl ?_); refine bE3 4 #[.int .u64 0, .int .u64 0] 24 ?hr ?_; (case hr => first | (go_simp; done) | (go_simp; rfl)); intro gb161 hg w5 hbox hb; have n0_ := Aside0.mk (bB3 BK160.out hb); have n1_ := Aside0.mk (bS3 HB.out hb); have n2_ := Aside0.mk (hbox); have n3_ := Aside0.mk ((bZ3 hg HB.out)); have n4_ := Aside0.mk ((bZ3 hg HB.out)); have n5_ := Aside0.mk ((bL3 hg BK160.out)); have n6_ := Aside0.mk ((bG3 hg BK160.out)); clear BK160; clear HB; have BK160 := n0_; have HB := n1_; have BK161 := n2_; have GW161 := n3_; have GE161 := n4_; have NB160_161 := n5_; have NB161_160 := n6_; clear n0_ n1_ n2_ n3_ n4_ n5_ n6_; clear hb hbox hg; have hnb6 := NB160_161.out; have hnc6 := NB161_160.out; have hcz7_0 : w5.cell? ⟨gb160, 0, none⟩ = some (.int .u64 a0_0) := (blk_cell BK160.out 0).trans rfl; have hcz7_1 : w5.cell? ⟨gb160, 1, none⟩ = some (.int .u64 a0_1) := (blk_cell BK160.out 1).trans rfl; have hfz7_0 := blk_frozen BK160.out 0; have hfz7_1 := blk_frozen BK160.out 1) | ((with_reducible refine gC (f := 11) rfl ?_); (with_reducible refine gD (N := 9) rfl ?_); refine goesY_ (some 9) Try.func11 #[.int .u64 a0_1, .int .u64 a1] ?_; (with_reducible refine (twin_Mul.calls a0_1 a1 t162 t163 _ A3.out).mono ?_); rintro e w8 ⟨rfl, hb⟩; refine ⟨_, rfl, ?_⟩; have n0_ := Aside0.mk (bB3 BK160.out hb); have n1_ := Aside0.mk (bB3 BK161.out hb); have n2_ := Aside0.mk (bS3 HB.out hb); clear BK160; clear BK161; clear HB; have BK160 := n0_; have BK161 := n1_; have HB := n2_; clear n0_ n1_ n2_; (try clear hb); (try clear hb2); (try clear hk); (try clear hi)) | ((with_reducible refine gD (N := 5) rfl ?_); refine bE3 5 #[.int .u64 0, .int .u64 0] 24 ?hr ?_; (case hr => first | (go_simp; done) | (go_simp; rfl)); intro gb164 hg w9 hbox hb; have n0_ := Aside0.mk (bB3 BK160.out hb); have n1_ := Aside0.mk (bB3 BK161.out hb); have n2_ := Aside0.mk (bS3 HB.out hb); have n3_ := Aside0.mk (hbox); have n4_ := Aside0.mk ((bZ3 hg HB.out)); have n5_ := Aside0.mk ((bZ3 hg HB.out)); have n6_ := Aside0.mk ((bL3 hg BK160.out)); have n7_ := Aside0.mk ((bG3 hg BK160.out)); have n8_ := Aside0.mk ((bL3 hg BK161.out)); have n9_ := Aside0.mk ((bG3 hg BK161.out)); clear BK160; clear BK161; clear HB; have BK160 := n0_; have BK161 := n1_; have HB := n2_; have BK164 := n3_; have GW164 := n4_; have GE164 := n5_; have NB160_164 := n6_; have NB164_160 := n7_; have NB161_164 := n8_; have NB164_161 := n9_; clear n0_ n1_ n2_ n3_ n4_ n5_ n6_ n7_ n8_ n9_; clear hb hbox hg; have hnb10 := NB164_160.out; have hnc10 := NB160_164.out; have hnb11 := NB164_161.out; have hnc11 := NB161_164.out; have hcz12_0 : w9.cell? ⟨gb164, 0, none⟩ = some (.int .u64 0) := (blk_cell BK164.out 0).trans rfl; have hcz12_1 : w9.cell? ⟨gb164, 1, none⟩ = some (.int .u64 0) := (blk_cell BK164.out 1).trans rfl; have hfz12_0 := blk_frozen BK164.out 0; have hfz12_1 := blk_frozen BK164.out 1; have hcz13_0 : w9.cell? ⟨gb160, 0, none⟩ = some (.int .u64 a0_0) := (blk_cell BK160.out 0).trans rfl; have hcz13_1 : w9.cell? ⟨gb160, 1, none⟩ = some (.int .u64 a0_1) := (blk_cell BK160.out 1).trans rfl; have hfz13_0 := blk_frozen BK160.out 0; have hfz13_1 := blk_frozen BK160.out 1; have hcz14_0 : w9.cell? ⟨gb161, 0, none⟩ = some (.int .u64 0) := (blk_cell BK161.out 0).trans rfl; have hcz14_1 : w9.cell? ⟨gb161, 1, none⟩ = some (.int .u64 0) := (blk_cell BK161.out 1).trans rfl; have hfz14_0 := blk_frozen BK161.out 0; have hfz14_1 := blk_frozen BK161.out 1))
  refine bodyPost_ret (results_cell_row rfl _ _ gb161 24 #[.int .u64 (IntKind.u64.wrap (t162 + (IntKind.u64.wrap (a0_0 * a1)))), .int .u64 t163] (0, 0) _ rfl (by (with_reducible repeat (first | refine bN ?_ _ | refine bD ?_ | refine bA ?_ _)); refine blk_put (cs := #[.int .u64 (IntKind.u64.wrap (t162 + (IntKind.u64.wrap (a0_0 * a1)))), .int .u64 0]) ?_ 1 _ rfl; (with_reducible repeat (first | refine bN ?_ _ | refine bD ?_ | refine bA ?_ _)); refine blk_put (cs := #[.int .u64 0, .int .u64 0]) ?_ 0 _ rfl; (with_reducible repeat (first | refine bN ?_ _ | refine bD ?_ | refine bA ?_ _)); refine blk_far ?_ NB161_164.out _; (with_reducible repeat (first | refine bN ?_ _ | refine bD ?_ | refine bA ?_ _)); refine blk_far ?_ NB161_164.out _; (with_reducible repeat (first | refine bN ?_ _ | refine bD ?_ | refine bA ?_ _)); refine blk_far ?_ NB161_164.out _; (with_reducible repeat (first | refine bN ?_ _ | refine bD ?_ | refine bA ?_ _)); exact BK161.out) Try.underlying24 rfl (by kernel_rfl)) rfl ?_
  exact ⟨by first | rfl | (simp [errW_none, errW_some] <;> rfl) | (simp [*, errW_none, errW_some] <;> rfl), by repeat (first | (with_reducible first | exact HB.out | apply pA | apply pN | apply p1 | refine pS ?_ GE160.out | refine pS ?_ GE161.out | refine pS ?_ GE164.out) | exact HB.out)⟩

/-! ### part_Wide: function 6 -/
def part_Wide.j0 : Nat → Int → Int → Int → Int → Int → Option (Int × Int × Int × Int × Option Int)
  | 0, _, _, _, _, _ => none
  | k + 1, x17, x166000, x166001, x167000, x167001 => (part_times.f x167000 x167001 x17).bind fun bt187 => ((twin_Sub.f x166000 x166001 bt187.1 bt187.2).bind fun bt190 => ((twin_Cmp.f bt190.1 bt190.2.1 x167000 x167001).bind fun t194 => (if t194 ≥ 0 then ((twin_Sub.f bt190.1 bt190.2.1 x167000 x167001).bind fun bt195 => (some (0, IntKind.u64.wrap (x17 + 1), bt195.1, bt195.2.1, none))) else (some (0, x17, bt190.1, bt190.2.1, none)))))
def part_Wide.f (k : Nat) (a0_0 : Int) (a0_1 : Int) (a1_0 : Int) (a1_1 : Int) : Option (Int × Int × Int × Int × Option Int) := if a1_0 = 0 then ((part_Long.f k a0_0 a0_1 a1_1).bind fun bt169 => (some (bt169.1, bt169.2.1, 0, bt169.2.2.1, bt169.2.2.2))) else ((bits_LeadingZeros64.f k a1_0).bind fun t174 => ((twin_Shl.f k a1_0 a1_1 t174).bind fun bt175 => ((twin_Shr.f a0_0 a0_1 1).bind fun bt180 => ((bits_Div64.f k bt180.1 bt180.2.1 bt175.1).bind fun bt185 => (if 0 ≤ (wrap64 (63 - t174)) then (if (shr .u64 bt185.1 (wrap64 (63 - t174))) > 0 then (part_Wide.j0 k (IntKind.u64.wrap ((shr .u64 bt185.1 (wrap64 (63 - t174))) - 1)) a0_0 a0_1 a1_0 a1_1) else (part_Wide.j0 k (shr .u64 bt185.1 (wrap64 (63 - t174))) a0_0 a0_1 a1_0 a1_1)) else (none))))))
theorem part_Wide.mono_l : ∀ k, (∀ y0 y1 y2 y3 y4, LeO (part_Wide.j0 k y0 y1 y2 y3 y4) (part_Wide.j0 (k + 1) y0 y1 y2 y3 y4))
  | 0 => fun _ _ _ _ _ r h => by simp [part_Wide.j0] at h
  | k + 1 => by
    have ih0 := part_Wide.mono_l k
    · intro y0 y1 y2 y3 y4
      unfold part_Wide.j0
      repeat' first
      | (with_reducible exact ih0 _ _ _ _ _)
      | (with_reducible exact bits_Div64.mono _ _ _ _)
      | (with_reducible exact bits_LeadingZeros64.mono _ _)
      | (with_reducible exact part_Long.mono _ _ _ _)
      | (with_reducible exact twin_Shl.mono _ _ _ _)
      | (with_reducible exact LeO.refl _)
      | (with_reducible exact LeO.none _)
      | (with_reducible refine LeO.ite ?_ ?_)
      | (with_reducible refine LeO.bind ?_ (fun _ => ?_))
      | exact ih0 _ _ _ _ _
      | exact bits_Div64.mono _ _ _ _
      | exact bits_LeadingZeros64.mono _ _
      | exact part_Long.mono _ _ _ _
      | exact twin_Shl.mono _ _ _ _
      | exact LeO.none _
      | refine LeO.ite ?_ ?_
      | refine LeO.bind ?_ (fun _ => ?_)
theorem part_Wide.mono : ∀ a0 a1 a2 a3 k, LeO (part_Wide.f k a0 a1 a2 a3) (part_Wide.f (k + 1) a0 a1 a2 a3) := by
  intro a0 a1 a2 a3 k
  have ih0 := part_Wide.mono_l k
  unfold part_Wide.f
  repeat' first
      | (with_reducible exact ih0 _ _ _ _ _)
      | (with_reducible exact bits_Div64.mono _ _ _ _)
      | (with_reducible exact bits_LeadingZeros64.mono _ _)
      | (with_reducible exact part_Long.mono _ _ _ _)
      | (with_reducible exact twin_Shl.mono _ _ _ _)
      | (with_reducible exact LeO.refl _)
      | (with_reducible exact LeO.none _)
      | (with_reducible refine LeO.ite ?_ ?_)
      | (with_reducible refine LeO.bind ?_ (fun _ => ?_))
      | exact ih0 _ _ _ _ _
      | exact bits_Div64.mono _ _ _ _
      | exact bits_LeadingZeros64.mono _ _
      | exact part_Long.mono _ _ _ _
      | exact twin_Shl.mono _ _ _ _
      | exact LeO.none _
      | refine LeO.ite ?_ ?_
      | refine LeO.bind ?_ (fun _ => ?_)
set_option maxHeartbeats 8000000 in
set_option maxRecDepth 100000 in
theorem part_Wide.calls (k : Nat) (a0_0 : Int) (a0_1 : Int) (a1_0 : Int) (a1_1 : Int) (r1 : Int) (r2 : Int) (r3 : Int) (r4 : Int) (r5 : Option Int) (w : World) (h : part_Wide.f k a0_0 a0_1 a1_0 a1_1 = some (r1, r2, r3, r4, r5)) :
    Calls Try.prog 6 #[.agg #[.int .u64 a0_0, .int .u64 a0_1], .agg #[.int .u64 a1_0, .int .u64 a1_1]] w fun e w' => e = .returned (.tuple #[.agg #[.int .u64 r1, .int .u64 r2], .agg #[.int .u64 r3, .int .u64 r4], errW r5]) ∧ Below w.heap.size w w' := by
  have hu24 := Try.underlying24
  have HB := Aside0.mk (Below.refl w.heap.size w)
  have H : (if a1_0 = 0 then ((part_Long.f k a0_0 a0_1 a1_1).bind fun bt169 => (some (bt169.1, bt169.2.1, 0, bt169.2.2.1, bt169.2.2.2))) else ((bits_LeadingZeros64.f k a1_0).bind fun t174 => ((twin_Shl.f k a1_0 a1_1 t174).bind fun bt175 => ((twin_Shr.f a0_0 a0_1 1).bind fun bt180 => ((bits_Div64.f k bt180.1 bt180.2.1 bt175.1).bind fun bt185 => (if 0 ≤ (wrap64 (63 - t174)) then (if (shr .u64 bt185.1 (wrap64 (63 - t174))) > 0 then (part_Wide.j0 k (IntKind.u64.wrap ((shr .u64 bt185.1 (wrap64 (63 - t174))) - 1)) a0_0 a0_1 a1_0 a1_1) else (part_Wide.j0 k (shr .u64 bt185.1 (wrap64 (63 - t174))) a0_0 a0_1 a1_0 a1_1)) else (none))))))) = some (r1, r2, r3, r4, r5) := h
  clear h
  by_cases c3 : a1_0 = 0
  · rw [if_pos c3] at H
    have c3b0 : (a1_0 == 0) = true := beq_iff_eq.mpr c3
    have c3b1 : (a1_0 != 0) = false := bne_eq_false_iff_eq.mpr c3
    clear c3
    replace H := Option.bind_eq_some_iff.mp H
    obtain ⟨⟨t169, t170, t171, t172⟩, A40, H⟩ := H
    replace H : (some (t169, t170, 0, t171, t172)) = some (r1, r2, r3, r4, r5) := H
    have A4 := Aside0.mk A40
    clear A40
    simp only [Option.some.injEq, Prod.mk.injEq] at H
    obtain ⟨rfl, rfl, rfl, rfl, rfl⟩ := H
    go_enter Try.func6, Try.ntmps6
    go_wp2_with (first | ((with_reducible refine gD (N := 2) rfl ?_); refine bE3 2 #[.int .u64 a0_0, .int .u64 a0_1] 24 ?hr ?_; (case hr => first | (go_simp; done) | (go_simp; rfl)); intro gb165 hg w5 hbox hb; have n0_ := Aside0.mk (bS3 HB.out hb); have n1_ := Aside0.mk (hbox); have n2_ := Aside0.mk ((bZ3 hg HB.out)); have n3_ := Aside0.mk ((bZ3 hg HB.out)); clear HB; have HB := n0_; have BK165 := n1_; have GW165 := n2_; have GE165 := n3_; clear n0_ n1_ n2_ n3_; clear hb hbox hg) | ((with_reducible refine gD (N := 3) rfl ?_); refine bE3 3 #[.int .u64 a1_0, .int .u64 a1_1] 24 ?hr ?_; (case hr => first | (go_simp; done) | (go_simp; rfl)); intro gb166 hg w6 hbox hb; have n0_ := Aside0.mk (bB3 BK165.out hb); have n1_ := Aside0.mk (bS3 HB.out hb); have n2_ := Aside0.mk (hbox); have n3_ := Aside0.mk ((bZ3 hg HB.out)); have n4_ := Aside0.mk ((bZ3 hg HB.out)); have n5_ := Aside0.mk ((bL3 hg BK165.out)); have n6_ := Aside0.mk ((bG3 hg BK165.out)); clear BK165; clear HB; have BK165 := n0_; have HB := n1_; have BK166 := n2_; have GW166 := n3_; have GE166 := n4_; have NB165_166 := n5_; have NB166_165 := n6_; clear n0_ n1_ n2_ n3_ n4_ n5_ n6_; clear hb hbox hg) | ((with_reducible refine gD (N := 4) rfl ?_); refine bE3 4 #[.int .u64 0, .int .u64 0] 24 ?hr ?_; (case hr => first | (go_simp; done) | (go_simp; rfl)); intro gb167 hg w7 hbox hb; have n0_ := Aside0.mk (bB3 BK165.out hb); have n1_ := Aside0.mk (bB3 BK166.out hb); have n2_ := Aside0.mk (bS3 HB.out hb); have n3_ := Aside0.mk (hbox); have n4_ := Aside0.mk ((bZ3 hg HB.out)); have n5_ := Aside0.mk ((bZ3 hg HB.out)); have n6_ := Aside0.mk ((bL3 hg BK165.out)); have n7_ := Aside0.mk ((bG3 hg BK165.out)); have n8_ := Aside0.mk ((bL3 hg BK166.out)); have n9_ := Aside0.mk ((bG3 hg BK166.out)); clear BK165; clear BK166; clear HB; have BK165 := n0_; have BK166 := n1_; have HB := n2_; have BK167 := n3_; have GW167 := n4_; have GE167 := n5_; have NB165_167 := n6_; have NB167_165 := n7_; have NB166_167 := n8_; have NB167_166 := n9_; clear n0_ n1_ n2_ n3_ n4_ n5_ n6_ n7_ n8_ n9_; clear hb hbox hg) | ((with_reducible refine gD (N := 5) rfl ?_); refine bE3 5 #[.int .u64 0, .int .u64 0] 24 ?hr ?_; (case hr => first | (go_simp; done) | (go_simp; rfl)); intro gb168 hg w8 hbox hb; have n0_ := Aside0.mk (bB3 BK165.out hb); have n1_ := Aside0.mk (bB3 BK166.out hb); have n2_ := Aside0.mk (bB3 BK167.out hb); have n3_ := Aside0.mk (bS3 HB.out hb); have n4_ := Aside0.mk (hbox); have n5_ := Aside0.mk ((bZ3 hg HB.out)); have n6_ := Aside0.mk ((bZ3 hg HB.out)); have n7_ := Aside0.mk ((bL3 hg BK165.out)); have n8_ := Aside0.mk ((bG3 hg BK165.out)); have n9_ := Aside0.mk ((bL3 hg BK166.out)); have n10_ := Aside0.mk ((bG3 hg BK166.out)); have n11_ := Aside0.mk ((bL3 hg BK167.out)); have n12_ := Aside0.mk ((bG3 hg BK167.out)); clear BK165; clear BK166; clear BK167; clear HB; have BK165 := n0_; have BK166 := n1_; have BK167 := n2_; have HB := n3_; have BK168 := n4_; have GW168 := n5_; have GE168 := n6_; have NB165_168 := n7_; have NB168_165 := n8_; have NB166_168 := n9_; have NB168_166 := n10_; have NB167_168 := n11_; have NB168_167 := n12_; clear n0_ n1_ n2_ n3_ n4_ n5_ n6_ n7_ n8_ n9_ n10_ n11_ n12_; clear hb hbox hg; have hnb9 := NB166_165.out; have hnc9 := NB165_166.out; have hnb10 := NB166_167.out; have hnc10 := NB167_166.out; have hnb11 := NB166_168.out; have hnc11 := NB168_166.out; have hcz12_0 : w8.cell? ⟨gb166, 0, none⟩ = some (.int .u64 a1_0) := (blk_cell BK166.out 0).trans rfl; have hcz12_1 : w8.cell? ⟨gb166, 1, none⟩ = some (.int .u64 a1_1) := (blk_cell BK166.out 1).trans rfl; have hfz12_0 := blk_frozen BK166.out 0; have hfz12_1 := blk_frozen BK166.out 1; have hnb13 := NB165_167.out; have hnc13 := NB167_165.out; have hnb14 := NB165_168.out; have hnc14 := NB168_165.out; have hcz15_0 : w8.cell? ⟨gb165, 0, none⟩ = some (.int .u64 a0_0) := (blk_cell BK165.out 0).trans rfl; have hcz15_1 : w8.cell? ⟨gb165, 1, none⟩ = some (.int .u64 a0_1) := (blk_cell BK165.out 1).trans rfl; have hfz15_0 := blk_frozen BK165.out 0; have hfz15_1 := blk_frozen BK165.out 1) | ((with_reducible refine gC (f := 9) rfl ?_); (with_reducible refine gD (N := 29) rfl ?_); refine goesY_ (some 29) Try.func9 #[.agg #[.int .u64 a0_0, .int .u64 a0_1], .int .u64 a1_1] ?_; (with_reducible refine (part_Long.calls k a0_0 a0_1 a1_1 t169 t170 t171 t172 _ A4.out).mono ?_); rintro e w16 ⟨rfl, hb⟩; refine ⟨_, rfl, ?_⟩; have n0_ := Aside0.mk (bB3 BK165.out hb); have n1_ := Aside0.mk (bB3 BK166.out hb); have n2_ := Aside0.mk (bB3 BK167.out hb); have n3_ := Aside0.mk (bB3 BK168.out hb); have n4_ := Aside0.mk (bS3 HB.out hb); clear BK165; clear BK166; clear BK167; clear BK168; clear HB; have BK165 := n0_; have BK166 := n1_; have BK167 := n2_; have BK168 := n3_; have HB := n4_; clear n0_ n1_ n2_ n3_ n4_; (try clear hb); (try clear hb2); (try clear hk); (try clear hi); (try simp only [errW_none, errW_some])) | ((with_reducible refine gD (N := 7) rfl ?_); refine bE3 7 #[.int .u64 0, .int .u64 0] 24 ?hr ?_; (case hr => first | (go_simp; done) | (go_simp; rfl)); intro gb173 hg w17 hbox hb; have n0_ := Aside0.mk (bB3 BK165.out hb); have n1_ := Aside0.mk (bB3 BK166.out hb); have n2_ := Aside0.mk (bB3 BK167.out hb); have n3_ := Aside0.mk (bB3 BK168.out hb); have n4_ := Aside0.mk (bS3 HB.out hb); have n5_ := Aside0.mk (hbox); have n6_ := Aside0.mk ((bZ3 hg HB.out)); have n7_ := Aside0.mk ((bZ3 hg HB.out)); have n8_ := Aside0.mk ((bL3 hg BK165.out)); have n9_ := Aside0.mk ((bG3 hg BK165.out)); have n10_ := Aside0.mk ((bL3 hg BK166.out)); have n11_ := Aside0.mk ((bG3 hg BK166.out)); have n12_ := Aside0.mk ((bL3 hg BK167.out)); have n13_ := Aside0.mk ((bG3 hg BK167.out)); have n14_ := Aside0.mk ((bL3 hg BK168.out)); have n15_ := Aside0.mk ((bG3 hg BK168.out)); clear BK165; clear BK166; clear BK167; clear BK168; clear HB; have BK165 := n0_; have BK166 := n1_; have BK167 := n2_; have BK168 := n3_; have HB := n4_; have BK173 := n5_; have GW173 := n6_; have GE173 := n7_; have NB165_173 := n8_; have NB173_165 := n9_; have NB166_173 := n10_; have NB173_166 := n11_; have NB167_173 := n12_; have NB173_167 := n13_; have NB168_173 := n14_; have NB173_168 := n15_; clear n0_ n1_ n2_ n3_ n4_ n5_ n6_ n7_ n8_ n9_ n10_ n11_ n12_ n13_ n14_ n15_; clear hb hbox hg; have hnb18 := NB173_165.out; have hnc18 := NB165_173.out; have hnb19 := NB173_166.out; have hnc19 := NB166_173.out; have hnb20 := NB173_167.out; have hnc20 := NB167_173.out; have hnb21 := NB173_168.out; have hnc21 := NB168_173.out; have hcz22_0 : w17.cell? ⟨gb173, 0, none⟩ = some (.int .u64 0) := (blk_cell BK173.out 0).trans rfl; have hcz22_1 : w17.cell? ⟨gb173, 1, none⟩ = some (.int .u64 0) := (blk_cell BK173.out 1).trans rfl; have hfz22_0 := blk_frozen BK173.out 0; have hfz22_1 := blk_frozen BK173.out 1; have hnb23 := NB167_168.out; have hnc23 := NB168_167.out; have hcz24_0 : w17.cell? ⟨gb167, 0, none⟩ = some (.int .u64 0) := (blk_cell BK167.out 0).trans rfl; have hcz24_1 : w17.cell? ⟨gb167, 1, none⟩ = some (.int .u64 0) := (blk_cell BK167.out 1).trans rfl; have hfz24_0 := blk_frozen BK167.out 0; have hfz24_1 := blk_frozen BK167.out 1; have hcz25_0 : w17.cell? ⟨gb168, 0, none⟩ = some (.int .u64 0) := (blk_cell BK168.out 0).trans rfl; have hcz25_1 : w17.cell? ⟨gb168, 1, none⟩ = some (.int .u64 0) := (blk_cell BK168.out 1).trans rfl; have hfz25_0 := blk_frozen BK168.out 0; have hfz25_1 := blk_frozen BK168.out 1))
    refine bodyPost_ret (results_list (rs := [.cell 4 24, .cell 5 24, .tmp 6]) rfl (by simp) (.cell gb167 24 #[.int .u64 t169, .int .u64 t170] (0, 0) _ rfl (by (with_reducible repeat (first | refine bN ?_ _ | refine bD ?_ | refine bA ?_ _)); refine blk_far ?_ NB167_168.out _; (with_reducible repeat (first | refine bN ?_ _ | refine bD ?_ | refine bA ?_ _)); refine blk_far ?_ NB167_168.out _; (with_reducible repeat (first | refine bN ?_ _ | refine bD ?_ | refine bA ?_ _)); refine blk_put (cs := #[.int .u64 t169, .int .u64 0]) ?_ 1 _ rfl; (with_reducible repeat (first | refine bN ?_ _ | refine bD ?_ | refine bA ?_ _)); refine blk_put (cs := #[.int .u64 0, .int .u64 0]) ?_ 0 _ rfl; (with_reducible repeat (first | refine bN ?_ _ | refine bD ?_ | refine bA ?_ _)); refine blk_far ?_ NB167_173.out _; (with_reducible repeat (first | refine bN ?_ _ | refine bD ?_ | refine bA ?_ _)); refine blk_far ?_ NB167_173.out _; (with_reducible repeat (first | refine bN ?_ _ | refine bD ?_ | refine bA ?_ _)); exact BK167.out) Try.underlying24 rfl (by kernel_rfl) (.cell gb168 24 #[.int .u64 0, .int .u64 t171] (0, 0) _ rfl (by (with_reducible repeat (first | refine bN ?_ _ | refine bD ?_ | refine bA ?_ _)); refine blk_put (cs := #[.int .u64 0, .int .u64 0]) ?_ 1 _ rfl; (with_reducible repeat (first | refine bN ?_ _ | refine bD ?_ | refine bA ?_ _)); refine blk_put (cs := #[.int .u64 0, .int .u64 0]) ?_ 0 _ rfl; (with_reducible repeat (first | refine bN ?_ _ | refine bD ?_ | refine bA ?_ _)); refine blk_far ?_ NB168_167.out _; (with_reducible repeat (first | refine bN ?_ _ | refine bD ?_ | refine bA ?_ _)); refine blk_far ?_ NB168_167.out _; (with_reducible repeat (first | refine bN ?_ _ | refine bD ?_ | refine bA ?_ _)); refine blk_far ?_ NB168_173.out _; (with_reducible repeat (first | refine bN ?_ _ | refine bD ?_ | refine bA ?_ _)); refine blk_far ?_ NB168_173.out _; (with_reducible repeat (first | refine bN ?_ _ | refine bD ?_ | refine bA ?_ _)); exact BK168.out) Try.underlying24 rfl (by kernel_rfl) (.tmp .nil)))) rfl ?_
    exact ⟨by first | rfl | (simp [errW_none, errW_some] <;> rfl) | (simp [*, errW_none, errW_some] <;> rfl), by repeat (first | (with_reducible first | exact HB.out | apply pA | apply pN | apply p1 | refine pS ?_ GE165.out | refine pS ?_ GE166.out | refine pS ?_ GE167.out | refine pS ?_ GE168.out | refine pS ?_ GE173.out) | exact HB.out)⟩
  · rw [if_neg c3] at H
    have c3b0 : (a1_0 == 0) = false := beq_eq_false_iff_ne.mpr c3
    have c3b1 : (a1_0 != 0) = true := bne_iff_ne.mpr c3
    replace H := Option.bind_eq_some_iff.mp H
    obtain ⟨t174, A260, H⟩ := H
    replace H : ((twin_Shl.f k a1_0 a1_1 t174).bind fun bt175 => ((twin_Shr.f a0_0 a0_1 1).bind fun bt180 => ((bits_Div64.f k bt180.1 bt180.2.1 bt175.1).bind fun bt185 => (if 0 ≤ (wrap64 (63 - t174)) then (if (shr .u64 bt185.1 (wrap64 (63 - t174))) > 0 then (part_Wide.j0 k (IntKind.u64.wrap ((shr .u64 bt185.1 (wrap64 (63 - t174))) - 1)) a0_0 a0_1 a1_0 a1_1) else (part_Wide.j0 k (shr .u64 bt185.1 (wrap64 (63 - t174))) a0_0 a0_1 a1_0 a1_1)) else (none))))) = some (r1, r2, r3, r4, r5) := H
    have A26 := Aside0.mk A260
    clear A260
    replace H := Option.bind_eq_some_iff.mp H
    obtain ⟨⟨t175, t176, t177, t178⟩, A270, H⟩ := H
    replace H : ((twin_Shr.f a0_0 a0_1 1).bind fun bt180 => ((bits_Div64.f k bt180.1 bt180.2.1 t175).bind fun bt185 => (if 0 ≤ (wrap64 (63 - t174)) then (if (shr .u64 bt185.1 (wrap64 (63 - t174))) > 0 then (part_Wide.j0 k (IntKind.u64.wrap ((shr .u64 bt185.1 (wrap64 (63 - t174))) - 1)) a0_0 a0_1 a1_0 a1_1) else (part_Wide.j0 k (shr .u64 bt185.1 (wrap64 (63 - t174))) a0_0 a0_1 a1_0 a1_1)) else (none)))) = some (r1, r2, r3, r4, r5) := H
    have A27 := Aside0.mk A270
    clear A270
    replace H := Option.bind_eq_some_iff.mp H
    obtain ⟨⟨t180, t181, t182, t183⟩, A280, H⟩ := H
    replace H : ((bits_Div64.f k t180 t181 t175).bind fun bt185 => (if 0 ≤ (wrap64 (63 - t174)) then (if (shr .u64 bt185.1 (wrap64 (63 - t174))) > 0 then (part_Wide.j0 k (IntKind.u64.wrap ((shr .u64 bt185.1 (wrap64 (63 - t174))) - 1)) a0_0 a0_1 a1_0 a1_1) else (part_Wide.j0 k (shr .u64 bt185.1 (wrap64 (63 - t174))) a0_0 a0_1 a1_0 a1_1)) else (none))) = some (r1, r2, r3, r4, r5) := H
    have A28 := Aside0.mk A280
    clear A280
    replace H := Option.bind_eq_some_iff.mp H
    obtain ⟨⟨t185, t186⟩, A290, H⟩ := H
    replace H : (if 0 ≤ (wrap64 (63 - t174)) then (if (shr .u64 t185 (wrap64 (63 - t174))) > 0 then (part_Wide.j0 k (IntKind.u64.wrap ((shr .u64 t185 (wrap64 (63 - t174))) - 1)) a0_0 a0_1 a1_0 a1_1) else (part_Wide.j0 k (shr .u64 t185 (wrap64 (63 - t174))) a0_0 a0_1 a1_0 a1_1)) else (none)) = some (r1, r2, r3, r4, r5) := H
    have A29 := Aside0.mk A290
    clear A290
    obtain ⟨ji30, hji30⟩ : ∃ j_ : Int, (wrap64 (63 - t174)) = j_ := ⟨_, rfl⟩
    replace H : (if 0 ≤ (ji30) then (if (shr .u64 t185 (ji30)) > 0 then (part_Wide.j0 k (IntKind.u64.wrap ((shr .u64 t185 (ji30)) - 1)) a0_0 a0_1 a1_0 a1_1) else (part_Wide.j0 k (shr .u64 t185 (ji30)) a0_0 a0_1 a1_0 a1_1)) else (none)) = some (r1, r2, r3, r4, r5) := by first | (rw [hji30] at H; exact H) | (simp only [hji30] at H ⊢; exact H)
    (try rw [hji30] at A26)
    (try rw [hji30] at A27)
    (try rw [hji30] at A28)
    (try rw [hji30] at A29)
    have hji30w : (IntKind.i64.wrap (63 - t174)) = ji30 := (i64_w _).trans hji30
    by_cases c31 : 0 ≤ (ji30)
    · rw [if_pos c31] at H
      have c31b0 := eq_true c31
      have c31b1 : decide (0 ≤ (ji30)) = true := decide_eq_true c31
      clear c31
      obtain ⟨ji32, hji32⟩ : ∃ j_ : Int, (shr .u64 t185 (ji30)) = j_ := ⟨_, rfl⟩
      replace H : (if (ji32) > 0 then (part_Wide.j0 k (IntKind.u64.wrap ((ji32) - 1)) a0_0 a0_1 a1_0 a1_1) else (part_Wide.j0 k ji32 a0_0 a0_1 a1_0 a1_1)) = some (r1, r2, r3, r4, r5) := by first | (rw [hji32] at H; exact H) | (simp only [hji32] at H ⊢; exact H)
      (try rw [hji32] at A26)
      (try rw [hji32] at A27)
      (try rw [hji32] at A28)
      (try rw [hji32] at A29)
      have hji32_ : (t185 / 2 ^ min (ji30).toNat 64) = ji32 := hji32
      have hji32z : (ji30) ≤ 64 → (t185 / 2 ^ (ji30).toNat) = ji32 := shr_small hji32
      have HC33 := Aside0.mk H
      clear H
      go_enter Try.func6, Try.ntmps6
      go_upto_if 68 with (first | ((with_reducible refine gD (N := 2) rfl ?_); refine bE3 2 #[.int .u64 a0_0, .int .u64 a0_1] 24 ?hr ?_; (case hr => first | (go_simp; done) | (go_simp; rfl)); intro gb165 hg w34 hbox hb; have n0_ := Aside0.mk (bS3 HB.out hb); have n1_ := Aside0.mk (hbox); have n2_ := Aside0.mk ((bZ3 hg HB.out)); have n3_ := Aside0.mk ((bZ3 hg HB.out)); clear HB; have HB := n0_; have BK165 := n1_; have GW165 := n2_; have GE165 := n3_; clear n0_ n1_ n2_ n3_; clear hb hbox hg) | ((with_reducible refine gD (N := 3) rfl ?_); refine bE3 3 #[.int .u64 a1_0, .int .u64 a1_1] 24 ?hr ?_; (case hr => first | (go_simp; done) | (go_simp; rfl)); intro gb166 hg w35 hbox hb; have n0_ := Aside0.mk (bB3 BK165.out hb); have n1_ := Aside0.mk (bS3 HB.out hb); have n2_ := Aside0.mk (hbox); have n3_ := Aside0.mk ((bZ3 hg HB.out)); have n4_ := Aside0.mk ((bZ3 hg HB.out)); have n5_ := Aside0.mk ((bL3 hg BK165.out)); have n6_ := Aside0.mk ((bG3 hg BK165.out)); clear BK165; clear HB; have BK165 := n0_; have HB := n1_; have BK166 := n2_; have GW166 := n3_; have GE166 := n4_; have NB165_166 := n5_; have NB166_165 := n6_; clear n0_ n1_ n2_ n3_ n4_ n5_ n6_; clear hb hbox hg) | ((with_reducible refine gD (N := 4) rfl ?_); refine bE3 4 #[.int .u64 0, .int .u64 0] 24 ?hr ?_; (case hr => first | (go_simp; done) | (go_simp; rfl)); intro gb167 hg w36 hbox hb; have n0_ := Aside0.mk (bB3 BK165.out hb); have n1_ := Aside0.mk (bB3 BK166.out hb); have n2_ := Aside0.mk (bS3 HB.out hb); have n3_ := Aside0.mk (hbox); have n4_ := Aside0.mk ((bZ3 hg HB.out)); have n5_ := Aside0.mk ((bZ3 hg HB.out)); have n6_ := Aside0.mk ((bL3 hg BK165.out)); have n7_ := Aside0.mk ((bG3 hg BK165.out)); have n8_ := Aside0.mk ((bL3 hg BK166.out)); have n9_ := Aside0.mk ((bG3 hg BK166.out)); clear BK165; clear BK166; clear HB; have BK165 := n0_; have BK166 := n1_; have HB := n2_; have BK167 := n3_; have GW167 := n4_; have GE167 := n5_; have NB165_167 := n6_; have NB167_165 := n7_; have NB166_167 := n8_; have NB167_166 := n9_; clear n0_ n1_ n2_ n3_ n4_ n5_ n6_ n7_ n8_ n9_; clear hb hbox hg) | ((with_reducible refine gD (N := 5) rfl ?_); refine bE3 5 #[.int .u64 0, .int .u64 0] 24 ?hr ?_; (case hr => first | (go_simp; done) | (go_simp; rfl)); intro gb168 hg w37 hbox hb; have n0_ := Aside0.mk (bB3 BK165.out hb); have n1_ := Aside0.mk (bB3 BK166.out hb); have n2_ := Aside0.mk (bB3 BK167.out hb); have n3_ := Aside0.mk (bS3 HB.out hb); have n4_ := Aside0.mk (hbox); have n5_ := Aside0.mk ((bZ3 hg HB.out)); have n6_ := Aside0.mk ((bZ3 hg HB.out)); have n7_ := Aside0.mk ((bL3 hg BK165.out)); have n8_ := Aside0.mk ((bG3 hg BK165.out)); have n9_ := Aside0.mk ((bL3 hg BK166.out)); have n10_ := Aside0.mk ((bG3 hg BK166.out)); have n11_ := Aside0.mk ((bL3 hg BK167.out)); have n12_ := Aside0.mk ((bG3 hg BK167.out)); clear BK165; clear BK166; clear BK167; clear HB; have BK165 := n0_; have BK166 := n1_; have BK167 := n2_; have HB := n3_; have BK168 := n4_; have GW168 := n5_; have GE168 := n6_; have NB165_168 := n7_; have NB168_165 := n8_; have NB166_168 := n9_; have NB168_166 := n10_; have NB167_168 := n11_; have NB168_167 := n12_; clear n0_ n1_ n2_ n3_ n4_ n5_ n6_ n7_ n8_ n9_ n10_ n11_ n12_; clear hb hbox hg; have hnb38 := NB166_165.out; have hnc38 := NB165_166.out; have hnb39 := NB166_167.out; have hnc39 := NB167_166.out; have hnb40 := NB166_168.out; have hnc40 := NB168_166.out; have hcz41_0 : w37.cell? ⟨gb166, 0, none⟩ = some (.int .u64 a1_0) := (blk_cell BK166.out 0).trans rfl; have hcz41_1 : w37.cell? ⟨gb166, 1, none⟩ = some (.int .u64 a1_1) := (blk_cell BK166.out 1).trans rfl; have hfz41_0 := blk_frozen BK166.out 0; have hfz41_1 := blk_frozen BK166.out 1) | ((with_reducible refine gC (f := 15) rfl ?_); (with_reducible refine gD (N := 39) rfl ?_); refine goesY_ (some 39) Try.func15 #[.int .u64 a1_0] ?_; (with_reducible refine (bits_LeadingZeros64.calls k a1_0 t174 _ A26.out).mono ?_); rintro e w' ⟨rfl, ⟨nd, rfl⟩⟩; refine ⟨_, rfl, ?_⟩; (try (rw [drewN_self w37]; generalize hq_ : World.drewN w37 _ = w37; have n0_ : Aside0 (w37.heap[gb165]? = some (.cells #[.int .u64 a0_0, .int .u64 a0_1] 24 (0, 0))) := ⟨by rw [← hq_]; exact (by (with_reducible repeat (first | refine bN ?_ _ | refine bD ?_ | refine bA ?_ _)); exact BK165.out)⟩; have n1_ : Aside0 (w37.heap[gb166]? = some (.cells #[.int .u64 a1_0, .int .u64 a1_1] 24 (0, 0))) := ⟨by rw [← hq_]; exact (by (with_reducible repeat (first | refine bN ?_ _ | refine bD ?_ | refine bA ?_ _)); exact BK166.out)⟩; have n2_ : Aside0 (w37.heap[gb167]? = some (.cells #[.int .u64 0, .int .u64 0] 24 (0, 0))) := ⟨by rw [← hq_]; exact (by (with_reducible repeat (first | refine bN ?_ _ | refine bD ?_ | refine bA ?_ _)); exact BK167.out)⟩; have n3_ : Aside0 (w37.heap[gb168]? = some (.cells #[.int .u64 0, .int .u64 0] 24 (0, 0))) := ⟨by rw [← hq_]; exact (by (with_reducible repeat (first | refine bN ?_ _ | refine bD ?_ | refine bA ?_ _)); exact BK168.out)⟩; have n4_ : Aside0 (Below w.heap.size w w37) := ⟨by rw [← hq_]; exact (by repeat (first | (with_reducible first | exact HB.out | apply pA | apply pN | apply p1 | refine pS ?_ GE165.out | refine pS ?_ GE166.out | refine pS ?_ GE167.out | refine pS ?_ GE168.out) | exact HB.out))⟩; clear BK165 BK166 BK167 BK168 HB hq_; have BK165 := n0_; have BK166 := n1_; have BK167 := n2_; have BK168 := n3_; have HB := n4_; clear n0_ n1_ n2_ n3_ n4_)); (try have hcz41_0 : w37.cell? ⟨gb166, 0, none⟩ = some (.int .u64 a1_0) := (blk_cell BK166.out 0).trans rfl); (try have hcz41_1 : w37.cell? ⟨gb166, 1, none⟩ = some (.int .u64 a1_1) := (blk_cell BK166.out 1).trans rfl); (try have hfz41_0 := blk_frozen BK166.out 0); (try have hfz41_1 := blk_frozen BK166.out 1)) | ((with_reducible refine gC (f := 12) rfl ?_); (with_reducible refine gD (N := 43) rfl ?_); refine goesY_ (some 43) Try.func12 #[.agg #[.int .u64 a1_0, .int .u64 a1_1], .int .i64 t174] ?_; (with_reducible refine (twin_Shl.calls k a1_0 a1_1 t174 t175 t176 t177 t178 _ A27.out).mono ?_); rintro e w42 ⟨rfl, hb⟩; refine ⟨_, rfl, ?_⟩; have n0_ := Aside0.mk (bB3 BK165.out hb); have n1_ := Aside0.mk (bB3 BK166.out hb); have n2_ := Aside0.mk (bB3 BK167.out hb); have n3_ := Aside0.mk (bB3 BK168.out hb); have n4_ := Aside0.mk (bS3 HB.out hb); clear BK165; clear BK166; clear BK167; clear BK168; clear HB; have BK165 := n0_; have BK166 := n1_; have BK167 := n2_; have BK168 := n3_; have HB := n4_; clear n0_ n1_ n2_ n3_ n4_; (try clear hb); (try clear hb2); (try clear hk); (try clear hi); (try simp only [errW_none, errW_some])) | ((with_reducible refine gD (N := 11) rfl ?_); refine bE3 11 #[.int .u64 0, .int .u64 0] 24 ?hr ?_; (case hr => first | (go_simp; done) | (go_simp; rfl)); intro gb179 hg w43 hbox hb; have n0_ := Aside0.mk (bB3 BK165.out hb); have n1_ := Aside0.mk (bB3 BK166.out hb); have n2_ := Aside0.mk (bB3 BK167.out hb); have n3_ := Aside0.mk (bB3 BK168.out hb); have n4_ := Aside0.mk (bS3 HB.out hb); have n5_ := Aside0.mk (hbox); have n6_ := Aside0.mk ((bZ3 hg HB.out)); have n7_ := Aside0.mk ((bZ3 hg HB.out)); have n8_ := Aside0.mk ((bL3 hg BK165.out)); have n9_ := Aside0.mk ((bG3 hg BK165.out)); have n10_ := Aside0.mk ((bL3 hg BK166.out)); have n11_ := Aside0.mk ((bG3 hg BK166.out)); have n12_ := Aside0.mk ((bL3 hg BK167.out)); have n13_ := Aside0.mk ((bG3 hg BK167.out)); have n14_ := Aside0.mk ((bL3 hg BK168.out)); have n15_ := Aside0.mk ((bG3 hg BK168.out)); clear BK165; clear BK166; clear BK167; clear BK168; clear HB; have BK165 := n0_; have BK166 := n1_; have BK167 := n2_; have BK168 := n3_; have HB := n4_; have BK179 := n5_; have GW179 := n6_; have GE179 := n7_; have NB165_179 := n8_; have NB179_165 := n9_; have NB166_179 := n10_; have NB179_166 := n11_; have NB167_179 := n12_; have NB179_167 := n13_; have NB168_179 := n14_; have NB179_168 := n15_; clear n0_ n1_ n2_ n3_ n4_ n5_ n6_ n7_ n8_ n9_ n10_ n11_ n12_ n13_ n14_ n15_; clear hb hbox hg; have hnb44 := NB179_165.out; have hnc44 := NB165_179.out; have hnb45 := NB179_166.out; have hnc45 := NB166_179.out; have hnb46 := NB179_167.out; have hnc46 := NB167_179.out; have hnb47 := NB179_168.out; have hnc47 := NB168_179.out; have hcz48_0 : w43.cell? ⟨gb179, 0, none⟩ = some (.int .u64 0) := (blk_cell BK179.out 0).trans rfl; have hcz48_1 : w43.cell? ⟨gb179, 1, none⟩ = some (.int .u64 0) := (blk_cell BK179.out 1).trans rfl; have hfz48_0 := blk_frozen BK179.out 0; have hfz48_1 := blk_frozen BK179.out 1; have hnb49 := NB165_167.out; have hnc49 := NB167_165.out; have hnb50 := NB165_168.out; have hnc50 := NB168_165.out; have hcz51_0 : w43.cell? ⟨gb165, 0, none⟩ = some (.int .u64 a0_0) := (blk_cell BK165.out 0).trans rfl; have hcz51_1 : w43.cell? ⟨gb165, 1, none⟩ = some (.int .u64 a0_1) := (blk_cell BK165.out 1).trans rfl; have hfz51_0 := blk_frozen BK165.out 0; have hfz51_1 := blk_frozen BK165.out 1) | ((with_reducible refine gC (f := 16) rfl ?_); (with_reducible refine gD (N := 49) rfl ?_); refine goesY_ (some 49) Try.func16 #[.agg #[.int .u64 a0_0, .int .u64 a0_1], .int .i64 1] ?_; (with_reducible refine (twin_Shr.calls a0_0 a0_1 1 t180 t181 t182 t183 _ A28.out).mono ?_); rintro e w52 ⟨rfl, hb⟩; refine ⟨_, rfl, ?_⟩; have n0_ := Aside0.mk (bB (g := gb165) (o := .cells #[.int .u64 a0_0, .int .u64 a0_1] 24 (0, 0)) (by (with_reducible repeat (first | refine bN ?_ _ | refine bD ?_ | refine bA ?_ _)); refine blk_far ?_ NB165_179.out _; (with_reducible repeat (first | refine bN ?_ _ | refine bD ?_ | refine bA ?_ _)); refine blk_far ?_ NB165_179.out _; (with_reducible repeat (first | refine bN ?_ _ | refine bD ?_ | refine bA ?_ _)); exact BK165.out) hb); have n1_ := Aside0.mk (bB (g := gb166) (o := .cells #[.int .u64 a1_0, .int .u64 a1_1] 24 (0, 0)) (by (with_reducible repeat (first | refine bN ?_ _ | refine bD ?_ | refine bA ?_ _)); refine blk_far ?_ NB166_179.out _; (with_reducible repeat (first | refine bN ?_ _ | refine bD ?_ | refine bA ?_ _)); refine blk_far ?_ NB166_179.out _; (with_reducible repeat (first | refine bN ?_ _ | refine bD ?_ | refine bA ?_ _)); exact BK166.out) hb); have n2_ := Aside0.mk (bB (g := gb167) (o := .cells #[.int .u64 0, .int .u64 0] 24 (0, 0)) (by (with_reducible repeat (first | refine bN ?_ _ | refine bD ?_ | refine bA ?_ _)); refine blk_far ?_ NB167_179.out _; (with_reducible repeat (first | refine bN ?_ _ | refine bD ?_ | refine bA ?_ _)); refine blk_far ?_ NB167_179.out _; (with_reducible repeat (first | refine bN ?_ _ | refine bD ?_ | refine bA ?_ _)); exact BK167.out) hb); have n3_ := Aside0.mk (bB (g := gb168) (o := .cells #[.int .u64 0, .int .u64 0] 24 (0, 0)) (by (with_reducible repeat (first | refine bN ?_ _ | refine bD ?_ | refine bA ?_ _)); refine blk_far ?_ NB168_179.out _; (with_reducible repeat (first | refine bN ?_ _ | refine bD ?_ | refine bA ?_ _)); refine blk_far ?_ NB168_179.out _; (with_reducible repeat (first | refine bN ?_ _ | refine bD ?_ | refine bA ?_ _)); exact BK168.out) hb); have n4_ := Aside0.mk (bB (g := gb179) (o := .cells #[.int .u64 t175, .int .u64 t176] 24 (0, 0)) (by (with_reducible repeat (first | refine bN ?_ _ | refine bD ?_ | refine bA ?_ _)); refine blk_put (cs := #[.int .u64 t175, .int .u64 0]) ?_ 1 _ rfl; (with_reducible repeat (first | refine bN ?_ _ | refine bD ?_ | refine bA ?_ _)); refine blk_put (cs := #[.int .u64 0, .int .u64 0]) ?_ 0 _ rfl; (with_reducible repeat (first | refine bN ?_ _ | refine bD ?_ | refine bA ?_ _)); exact BK179.out) hb); have n5_ := Aside0.mk (bS3 HB.out hb); clear BK165; clear BK166; clear BK167; clear BK168; clear BK179; clear HB; have BK165 := n0_; have BK166 := n1_; have BK167 := n2_; have BK168 := n3_; have BK179 := n4_; have HB := n5_; clear n0_ n1_ n2_ n3_ n4_ n5_; (try clear hb); (try clear hb2); (try clear hk); (try clear hi); (try simp only [errW_none, errW_some])) | ((with_reducible refine gD (N := 14) rfl ?_); refine bE3 14 #[.int .u64 0, .int .u64 0] 24 ?hr ?_; (case hr => first | (go_simp; done) | (go_simp; rfl)); intro gb184 hg w53 hbox hb; have n0_ := Aside0.mk (bB3 BK165.out hb); have n1_ := Aside0.mk (bB3 BK166.out hb); have n2_ := Aside0.mk (bB3 BK167.out hb); have n3_ := Aside0.mk (bB3 BK168.out hb); have n4_ := Aside0.mk (bB3 BK179.out hb); have n5_ := Aside0.mk (bS3 HB.out hb); have n6_ := Aside0.mk (hbox); have n7_ := Aside0.mk ((bZ3 hg HB.out)); have n8_ := Aside0.mk ((bZ3 hg HB.out)); have n9_ := Aside0.mk ((bL3 hg BK165.out)); have n10_ := Aside0.mk ((bG3 hg BK165.out)); have n11_ := Aside0.mk ((bL3 hg BK166.out)); have n12_ := Aside0.mk ((bG3 hg BK166.out)); have n13_ := Aside0.mk ((bL3 hg BK167.out)); have n14_ := Aside0.mk ((bG3 hg BK167.out)); have n15_ := Aside0.mk ((bL3 hg BK168.out)); have n16_ := Aside0.mk ((bG3 hg BK168.out)); have n17_ := Aside0.mk ((bL3 hg BK179.out)); have n18_ := Aside0.mk ((bG3 hg BK179.out)); clear BK165; clear BK166; clear BK167; clear BK168; clear BK179; clear HB; have BK165 := n0_; have BK166 := n1_; have BK167 := n2_; have BK168 := n3_; have BK179 := n4_; have HB := n5_; have BK184 := n6_; have GW184 := n7_; have GE184 := n8_; have NB165_184 := n9_; have NB184_165 := n10_; have NB166_184 := n11_; have NB184_166 := n12_; have NB167_184 := n13_; have NB184_167 := n14_; have NB168_184 := n15_; have NB184_168 := n16_; have NB179_184 := n17_; have NB184_179 := n18_; clear n0_ n1_ n2_ n3_ n4_ n5_ n6_ n7_ n8_ n9_ n10_ n11_ n12_ n13_ n14_ n15_ n16_ n17_ n18_; clear hb hbox hg; have hnb54 := NB184_165.out; have hnc54 := NB165_184.out; have hnb55 := NB184_166.out; have hnc55 := NB166_184.out; have hnb56 := NB184_167.out; have hnc56 := NB167_184.out; have hnb57 := NB184_168.out; have hnc57 := NB168_184.out; have hnb58 := NB184_179.out; have hnc58 := NB179_184.out; have hcz59_0 : w53.cell? ⟨gb184, 0, none⟩ = some (.int .u64 0) := (blk_cell BK184.out 0).trans rfl; have hcz59_1 : w53.cell? ⟨gb184, 1, none⟩ = some (.int .u64 0) := (blk_cell BK184.out 1).trans rfl; have hfz59_0 := blk_frozen BK184.out 0; have hfz59_1 := blk_frozen BK184.out 1; have hcz60_0 : w53.cell? ⟨gb179, 0, none⟩ = some (.int .u64 t175) := (blk_cell BK179.out 0).trans rfl; have hcz60_1 : w53.cell? ⟨gb179, 1, none⟩ = some (.int .u64 t176) := (blk_cell BK179.out 1).trans rfl; have hfz60_0 := blk_frozen BK179.out 0; have hfz60_1 := blk_frozen BK179.out 1) | ((with_reducible refine gC (f := 17) rfl ?_); (with_reducible refine gD (N := 60) rfl ?_); refine goesY_ (some 60) Try.func17 #[.int .u64 t180, .int .u64 t181, .int .u64 t175] ?_; (with_reducible refine (bits_Div64.calls k t180 t181 t175 t185 t186 _ A29.out).mono ?_); rintro e w' ⟨rfl, ⟨nd, rfl⟩⟩; refine ⟨_, rfl, ?_⟩))
      (try simp only [Act.put, List.setIfInBounds_toArray, List.set_cons_zero, List.set_cons_succ])
      go_cut [17] (fun v17 wc => ∃ (kq : Nat) (x17_32 : Int), v17 = .int .u64 x17_32 ∧ Aside0 (part_Wide.j0 kq x17_32 a0_0 a0_1 a1_0 a1_1 = some (r1, r2, r3, r4, r5)) ∧ Aside0 (kq ≤ k) ∧ Aside0 (wc.heap[gb165]? = some (.cells #[.int .u64 a0_0, .int .u64 a0_1] 24 (0, 0))) ∧ Aside0 (wc.heap[gb166]? = some (.cells #[.int .u64 a1_0, .int .u64 a1_1] 24 (0, 0))) ∧ Aside0 (wc.heap[gb167]? = some (.cells #[.int .u64 0, .int .u64 0] 24 (0, 0))) ∧ Aside0 (wc.heap[gb168]? = some (.cells #[.int .u64 0, .int .u64 0] 24 (0, 0))) ∧ Aside0 (wc.heap[gb179]? = some (.cells #[.int .u64 t175, .int .u64 t176] 24 (0, 0))) ∧ Aside0 (wc.heap[gb184]? = some (.cells #[.int .u64 t180, .int .u64 t181] 24 (0, 0))) ∧ Aside0 (Below w.heap.size w wc))
      case first =>
        have H := HC33.out
        clear HC33
        by_cases c61 : (ji32) > 0
        · rw [if_pos c61] at H
          have c61b0 : decide (0 < (ji32)) = true := decide_eq_true c61
          clear c61
          (first | rw [c61b0] | (simp only [i64_w, i32_w]; rw [c61b0]) | skip)
          have H' := Aside0.mk H
          clear H
          go_wp2
          go_meet
          case rel => exact ⟨_, (IntKind.u64.wrap ((ji32) - 1)), (by first | rfl | (simp; done) | (simp only [← hji32] <;> (first | rfl | simp)) | (simp [*]; done)), H', ⟨by first | omega | exact Nat.le_refl _⟩, ⟨by (with_reducible repeat (first | refine bN ?_ _ | refine bD ?_ | refine bA ?_ _)); refine blk_far ?_ NB165_184.out _; (with_reducible repeat (first | refine bN ?_ _ | refine bD ?_ | refine bA ?_ _)); refine blk_far ?_ NB165_184.out _; (with_reducible repeat (first | refine bN ?_ _ | refine bD ?_ | refine bA ?_ _)); exact BK165.out⟩, ⟨by (with_reducible repeat (first | refine bN ?_ _ | refine bD ?_ | refine bA ?_ _)); refine blk_far ?_ NB166_184.out _; (with_reducible repeat (first | refine bN ?_ _ | refine bD ?_ | refine bA ?_ _)); refine blk_far ?_ NB166_184.out _; (with_reducible repeat (first | refine bN ?_ _ | refine bD ?_ | refine bA ?_ _)); exact BK166.out⟩, ⟨by (with_reducible repeat (first | refine bN ?_ _ | refine bD ?_ | refine bA ?_ _)); refine blk_far ?_ NB167_184.out _; (with_reducible repeat (first | refine bN ?_ _ | refine bD ?_ | refine bA ?_ _)); refine blk_far ?_ NB167_184.out _; (with_reducible repeat (first | refine bN ?_ _ | refine bD ?_ | refine bA ?_ _)); exact BK167.out⟩, ⟨by (with_reducible repeat (first | refine bN ?_ _ | refine bD ?_ | refine bA ?_ _)); refine blk_far ?_ NB168_184.out _; (with_reducible repeat (first | refine bN ?_ _ | refine bD ?_ | refine bA ?_ _)); refine blk_far ?_ NB168_184.out _; (with_reducible repeat (first | refine bN ?_ _ | refine bD ?_ | refine bA ?_ _)); exact BK168.out⟩, ⟨by (with_reducible repeat (first | refine bN ?_ _ | refine bD ?_ | refine bA ?_ _)); refine blk_far ?_ NB179_184.out _; (with_reducible repeat (first | refine bN ?_ _ | refine bD ?_ | refine bA ?_ _)); refine blk_far ?_ NB179_184.out _; (with_reducible repeat (first | refine bN ?_ _ | refine bD ?_ | refine bA ?_ _)); exact BK179.out⟩, ⟨by (with_reducible repeat (first | refine bN ?_ _ | refine bD ?_ | refine bA ?_ _)); refine blk_put (cs := #[.int .u64 t180, .int .u64 0]) ?_ 1 _ rfl; (with_reducible repeat (first | refine bN ?_ _ | refine bD ?_ | refine bA ?_ _)); refine blk_put (cs := #[.int .u64 0, .int .u64 0]) ?_ 0 _ rfl; (with_reducible repeat (first | refine bN ?_ _ | refine bD ?_ | refine bA ?_ _)); exact BK184.out⟩, ⟨by repeat (first | (with_reducible first | exact HB.out | apply pA | apply pN | apply p1 | refine pS ?_ GE165.out | refine pS ?_ GE166.out | refine pS ?_ GE167.out | refine pS ?_ GE168.out | refine pS ?_ GE179.out | refine pS ?_ GE184.out) | exact HB.out)⟩⟩
        · rw [if_neg c61] at H
          have c61b0 : decide (0 < (ji32)) = false := decide_eq_false c61
          clear c61
          (first | rw [c61b0] | (simp only [i64_w, i32_w]; rw [c61b0]) | skip)
          have H' := Aside0.mk H
          clear H
          go_wp2
          go_meet
          case rel => exact ⟨_, (ji32), (by first | rfl | (simp; done) | (simp only [← hji32] <;> (first | rfl | simp)) | (simp [*]; done)), H', ⟨by first | omega | exact Nat.le_refl _⟩, ⟨by (with_reducible repeat (first | refine bN ?_ _ | refine bD ?_ | refine bA ?_ _)); refine blk_far ?_ NB165_184.out _; (with_reducible repeat (first | refine bN ?_ _ | refine bD ?_ | refine bA ?_ _)); refine blk_far ?_ NB165_184.out _; (with_reducible repeat (first | refine bN ?_ _ | refine bD ?_ | refine bA ?_ _)); exact BK165.out⟩, ⟨by (with_reducible repeat (first | refine bN ?_ _ | refine bD ?_ | refine bA ?_ _)); refine blk_far ?_ NB166_184.out _; (with_reducible repeat (first | refine bN ?_ _ | refine bD ?_ | refine bA ?_ _)); refine blk_far ?_ NB166_184.out _; (with_reducible repeat (first | refine bN ?_ _ | refine bD ?_ | refine bA ?_ _)); exact BK166.out⟩, ⟨by (with_reducible repeat (first | refine bN ?_ _ | refine bD ?_ | refine bA ?_ _)); refine blk_far ?_ NB167_184.out _; (with_reducible repeat (first | refine bN ?_ _ | refine bD ?_ | refine bA ?_ _)); refine blk_far ?_ NB167_184.out _; (with_reducible repeat (first | refine bN ?_ _ | refine bD ?_ | refine bA ?_ _)); exact BK167.out⟩, ⟨by (with_reducible repeat (first | refine bN ?_ _ | refine bD ?_ | refine bA ?_ _)); refine blk_far ?_ NB168_184.out _; (with_reducible repeat (first | refine bN ?_ _ | refine bD ?_ | refine bA ?_ _)); refine blk_far ?_ NB168_184.out _; (with_reducible repeat (first | refine bN ?_ _ | refine bD ?_ | refine bA ?_ _)); exact BK168.out⟩, ⟨by (with_reducible repeat (first | refine bN ?_ _ | refine bD ?_ | refine bA ?_ _)); refine blk_far ?_ NB179_184.out _; (with_reducible repeat (first | refine bN ?_ _ | refine bD ?_ | refine bA ?_ _)); refine blk_far ?_ NB179_184.out _; (with_reducible repeat (first | refine bN ?_ _ | refine bD ?_ | refine bA ?_ _)); exact BK179.out⟩, ⟨by (with_reducible repeat (first | refine bN ?_ _ | refine bD ?_ | refine bA ?_ _)); refine blk_put (cs := #[.int .u64 t180, .int .u64 0]) ?_ 1 _ rfl; (with_reducible repeat (first | refine bN ?_ _ | refine bD ?_ | refine bA ?_ _)); refine blk_put (cs := #[.int .u64 0, .int .u64 0]) ?_ 0 _ rfl; (with_reducible repeat (first | refine bN ?_ _ | refine bD ?_ | refine bA ?_ _)); exact BK184.out⟩, ⟨by repeat (first | (with_reducible first | exact HB.out | apply pA | apply pN | apply p1 | refine pS ?_ GE165.out | refine pS ?_ GE166.out | refine pS ?_ GE167.out | refine pS ?_ GE168.out | refine pS ?_ GE179.out | refine pS ?_ GE184.out) | exact HB.out)⟩⟩
      case rest =>
        clear HC33
        try clear c1
        try clear c2
        try clear p2
        try clear c3
        try clear c3b0
        try clear c3b1
        try clear c4
        try clear c5
        try clear c6
        try clear p6
        try clear c9
        try clear c10
        try clear c11
        try clear c12
        try clear c13
        try clear c14
        try clear c15
        try clear c16
        try clear c17
        try clear c18
        try clear c19
        try clear c20
        try clear c21
        try clear c23
        try clear c31
        try clear c31b0
        try clear c31b1
        try clear c38
        try clear c39
        try clear c40
        try clear c44
        try clear c45
        try clear c46
        try clear c47
        try clear c49
        try clear c50
        try clear c54
        try clear c55
        try clear c56
        try clear c57
        try clear c58
        try clear c61
        try clear c61b0
        try clear hcz12_0
        try clear hcz12_1
        try clear hcz15_0
        try clear hcz15_1
        try clear hcz22_0
        try clear hcz22_1
        try clear hcz24_0
        try clear hcz24_1
        try clear hcz25_0
        try clear hcz25_1
        try clear hcz41_0
        try clear hcz41_1
        try clear hcz48_0
        try clear hcz48_1
        try clear hcz51_0
        try clear hcz51_1
        try clear hcz59_0
        try clear hcz59_1
        try clear hcz60_0
        try clear hcz60_1
        try clear hfz12_0
        try clear hfz12_1
        try clear hfz15_0
        try clear hfz15_1
        try clear hfz22_0
        try clear hfz22_1
        try clear hfz24_0
        try clear hfz24_1
        try clear hfz25_0
        try clear hfz25_1
        try clear hfz41_0
        try clear hfz41_1
        try clear hfz48_0
        try clear hfz48_1
        try clear hfz51_0
        try clear hfz51_1
        try clear hfz59_0
        try clear hfz59_1
        try clear hfz60_0
        try clear hfz60_1
        obtain ⟨kq, x17_32, rfl, HA, HJ32, BK165, BK166, BK167, BK168, BK179, BK184, HB⟩ := hcut
        cases kq with
        | zero => exact absurd HA.out (by simp [part_Wide.j0])
        | succ kj32 =>
          have H := HA.out
          clear HA
          simp only [part_Wide.j0] at H
          replace H := Option.bind_eq_some_iff.mp H
          obtain ⟨⟨t187, t188⟩, A620, H⟩ := H
          replace H : ((twin_Sub.f a0_0 a0_1 t187 t188).bind fun bt190 => ((twin_Cmp.f bt190.1 bt190.2.1 a1_0 a1_1).bind fun t194 => (if t194 ≥ 0 then ((twin_Sub.f bt190.1 bt190.2.1 a1_0 a1_1).bind fun bt195 => (some (0, IntKind.u64.wrap (x17_32 + 1), bt195.1, bt195.2.1, none))) else (some (0, x17_32, bt190.1, bt190.2.1, none))))) = some (r1, r2, r3, r4, r5) := H
          have A62 := Aside0.mk A620
          clear A620
          replace H := Option.bind_eq_some_iff.mp H
          obtain ⟨⟨t190, t191, t192⟩, A630, H⟩ := H
          replace H : ((twin_Cmp.f t190 t191 a1_0 a1_1).bind fun t194 => (if t194 ≥ 0 then ((twin_Sub.f t190 t191 a1_0 a1_1).bind fun bt195 => (some (0, IntKind.u64.wrap (x17_32 + 1), bt195.1, bt195.2.1, none))) else (some (0, x17_32, t190, t191, none)))) = some (r1, r2, r3, r4, r5) := H
          have A63 := Aside0.mk A630
          clear A630
          replace H := Option.bind_eq_some_iff.mp H
          obtain ⟨t194, A640, H⟩ := H
          replace H : (if t194 ≥ 0 then ((twin_Sub.f t190 t191 a1_0 a1_1).bind fun bt195 => (some (0, IntKind.u64.wrap (x17_32 + 1), bt195.1, bt195.2.1, none))) else (some (0, x17_32, t190, t191, none))) = some (r1, r2, r3, r4, r5) := H
          have A64 := Aside0.mk A640
          clear A640
          by_cases c65 : t194 ≥ 0
          · rw [if_pos c65] at H
            have c65b0 : decide (0 ≤ t194) = true := decide_eq_true c65
            clear c65
            replace H := Option.bind_eq_some_iff.mp H
            obtain ⟨⟨t195, t196, t197⟩, A660, H⟩ := H
            replace H : (some (0, IntKind.u64.wrap (x17_32 + 1), t195, t196, none)) = some (r1, r2, r3, r4, r5) := H
            have A66 := Aside0.mk A660
            clear A660
            simp only [Option.some.injEq, Prod.mk.injEq] at H
            obtain ⟨rfl, rfl, rfl, rfl, rfl⟩ := H
            have hnb67 := NB166_165.out
            have hnc67 := NB165_166.out
            have hnb68 := NB166_167.out
            have hnc68 := NB167_166.out
            have hnb69 := NB166_168.out
            have hnc69 := NB168_166.out
            have hnb70 := NB166_179.out
            have hnc70 := NB179_166.out
            have hnb71 := NB166_184.out
            have hnc71 := NB184_166.out
            have hcz72_0 : wc.cell? ⟨gb166, 0, none⟩ = some (.int .u64 a1_0) := (blk_cell BK166.out 0).trans rfl
            have hcz72_1 : wc.cell? ⟨gb166, 1, none⟩ = some (.int .u64 a1_1) := (blk_cell BK166.out 1).trans rfl
            have hfz72_0 := blk_frozen BK166.out 0
            have hfz72_1 := blk_frozen BK166.out 1
            try go_wp2_with (first | ((with_reducible refine gC (f := 18) rfl ?_); (with_reducible refine gD (N := 73) rfl ?_); refine goesY_ (some 73) Try.func18 #[.agg #[.int .u64 a1_0, .int .u64 a1_1], .int .u64 x17_32] ?_; (with_reducible refine (part_times.calls a1_0 a1_1 x17_32 t187 t188 _ A62.out).mono ?_); rintro e w73 ⟨rfl, hb⟩; refine ⟨_, rfl, ?_⟩; have n0_ := Aside0.mk (bB3 BK165.out hb); have n1_ := Aside0.mk (bB3 BK166.out hb); have n2_ := Aside0.mk (bB3 BK167.out hb); have n3_ := Aside0.mk (bB3 BK168.out hb); have n4_ := Aside0.mk (bB3 BK179.out hb); have n5_ := Aside0.mk (bB3 BK184.out hb); have n6_ := Aside0.mk (bS3 HB.out hb); clear BK165; clear BK166; clear BK167; clear BK168; clear BK179; clear BK184; clear HB; have BK165 := n0_; have BK166 := n1_; have BK167 := n2_; have BK168 := n3_; have BK179 := n4_; have BK184 := n5_; have HB := n6_; clear n0_ n1_ n2_ n3_ n4_ n5_ n6_; (try clear hb); (try clear hb2); (try clear hk); (try clear hi)) | ((with_reducible refine gD (N := 19) rfl ?_); refine bE3 19 #[.int .u64 0, .int .u64 0] 24 ?hr ?_; (case hr => first | (go_simp; done) | (go_simp; rfl)); intro gb189 hg w74 hbox hb; have n0_ := Aside0.mk (bB3 BK165.out hb); have n1_ := Aside0.mk (bB3 BK166.out hb); have n2_ := Aside0.mk (bB3 BK167.out hb); have n3_ := Aside0.mk (bB3 BK168.out hb); have n4_ := Aside0.mk (bB3 BK179.out hb); have n5_ := Aside0.mk (bB3 BK184.out hb); have n6_ := Aside0.mk (bS3 HB.out hb); have n7_ := Aside0.mk (hbox); have n8_ := Aside0.mk ((bZ3 hg HB.out)); have n9_ := Aside0.mk ((bZ3 hg HB.out)); have n10_ := Aside0.mk ((bL3 hg BK165.out)); have n11_ := Aside0.mk ((bG3 hg BK165.out)); have n12_ := Aside0.mk ((bL3 hg BK166.out)); have n13_ := Aside0.mk ((bG3 hg BK166.out)); have n14_ := Aside0.mk ((bL3 hg BK167.out)); have n15_ := Aside0.mk ((bG3 hg BK167.out)); have n16_ := Aside0.mk ((bL3 hg BK168.out)); have n17_ := Aside0.mk ((bG3 hg BK168.out)); have n18_ := Aside0.mk ((bL3 hg BK179.out)); have n19_ := Aside0.mk ((bG3 hg BK179.out)); have n20_ := Aside0.mk ((bL3 hg BK184.out)); have n21_ := Aside0.mk ((bG3 hg BK184.out)); clear BK165; clear BK166; clear BK167; clear BK168; clear BK179; clear BK184; clear HB; have BK165 := n0_; have BK166 := n1_; have BK167 := n2_; have BK168 := n3_; have BK179 := n4_; have BK184 := n5_; have HB := n6_; have BK189 := n7_; have GW189 := n8_; have GE189 := n9_; have NB165_189 := n10_; have NB189_165 := n11_; have NB166_189 := n12_; have NB189_166 := n13_; have NB167_189 := n14_; have NB189_167 := n15_; have NB168_189 := n16_; have NB189_168 := n17_; have NB179_189 := n18_; have NB189_179 := n19_; have NB184_189 := n20_; have NB189_184 := n21_; clear n0_ n1_ n2_ n3_ n4_ n5_ n6_ n7_ n8_ n9_ n10_ n11_ n12_ n13_ n14_ n15_ n16_ n17_ n18_ n19_ n20_ n21_; clear hb hbox hg; have hnb75 := NB189_165.out; have hnc75 := NB165_189.out; have hnb76 := NB189_166.out; have hnc76 := NB166_189.out; have hnb77 := NB189_167.out; have hnc77 := NB167_189.out; have hnb78 := NB189_168.out; have hnc78 := NB168_189.out; have hnb79 := NB189_179.out; have hnc79 := NB179_189.out; have hnb80 := NB189_184.out; have hnc80 := NB184_189.out; have hcz81_0 : w74.cell? ⟨gb189, 0, none⟩ = some (.int .u64 0) := (blk_cell BK189.out 0).trans rfl; have hcz81_1 : w74.cell? ⟨gb189, 1, none⟩ = some (.int .u64 0) := (blk_cell BK189.out 1).trans rfl; have hfz81_0 := blk_frozen BK189.out 0; have hfz81_1 := blk_frozen BK189.out 1; have hnb82 := NB165_167.out; have hnc82 := NB167_165.out; have hnb83 := NB165_168.out; have hnc83 := NB168_165.out; have hnb84 := NB165_179.out; have hnc84 := NB179_165.out; have hnb85 := NB165_184.out; have hnc85 := NB184_165.out; have hcz86_0 : w74.cell? ⟨gb165, 0, none⟩ = some (.int .u64 a0_0) := (blk_cell BK165.out 0).trans rfl; have hcz86_1 : w74.cell? ⟨gb165, 1, none⟩ = some (.int .u64 a0_1) := (blk_cell BK165.out 1).trans rfl; have hfz86_0 := blk_frozen BK165.out 0; have hfz86_1 := blk_frozen BK165.out 1) | ((with_reducible refine gC (f := 19) rfl ?_); (with_reducible refine gD (N := 77) rfl ?_); refine goesY_ (some 77) Try.func19 #[.agg #[.int .u64 a0_0, .int .u64 a0_1], .agg #[.int .u64 t187, .int .u64 t188]] ?_; (with_reducible refine (twin_Sub.calls a0_0 a0_1 t187 t188 t190 t191 t192 _ A63.out).mono ?_); rintro e w87 ⟨rfl, hb⟩; refine ⟨_, rfl, ?_⟩; have n0_ := Aside0.mk (bB (g := gb165) (o := .cells #[.int .u64 a0_0, .int .u64 a0_1] 24 (0, 0)) (by (with_reducible repeat (first | refine bN ?_ _ | refine bD ?_ | refine bA ?_ _)); refine blk_far ?_ NB165_189.out _; (with_reducible repeat (first | refine bN ?_ _ | refine bD ?_ | refine bA ?_ _)); refine blk_far ?_ NB165_189.out _; (with_reducible repeat (first | refine bN ?_ _ | refine bD ?_ | refine bA ?_ _)); exact BK165.out) hb); have n1_ := Aside0.mk (bB (g := gb166) (o := .cells #[.int .u64 a1_0, .int .u64 a1_1] 24 (0, 0)) (by (with_reducible repeat (first | refine bN ?_ _ | refine bD ?_ | refine bA ?_ _)); refine blk_far ?_ NB166_189.out _; (with_reducible repeat (first | refine bN ?_ _ | refine bD ?_ | refine bA ?_ _)); refine blk_far ?_ NB166_189.out _; (with_reducible repeat (first | refine bN ?_ _ | refine bD ?_ | refine bA ?_ _)); exact BK166.out) hb); have n2_ := Aside0.mk (bB (g := gb167) (o := .cells #[.int .u64 0, .int .u64 0] 24 (0, 0)) (by (with_reducible repeat (first | refine bN ?_ _ | refine bD ?_ | refine bA ?_ _)); refine blk_far ?_ NB167_189.out _; (with_reducible repeat (first | refine bN ?_ _ | refine bD ?_ | refine bA ?_ _)); refine blk_far ?_ NB167_189.out _; (with_reducible repeat (first | refine bN ?_ _ | refine bD ?_ | refine bA ?_ _)); exact BK167.out) hb); have n3_ := Aside0.mk (bB (g := gb168) (o := .cells #[.int .u64 0, .int .u64 0] 24 (0, 0)) (by (with_reducible repeat (first | refine bN ?_ _ | refine bD ?_ | refine bA ?_ _)); refine blk_far ?_ NB168_189.out _; (with_reducible repeat (first | refine bN ?_ _ | refine bD ?_ | refine bA ?_ _)); refine blk_far ?_ NB168_189.out _; (with_reducible repeat (first | refine bN ?_ _ | refine bD ?_ | refine bA ?_ _)); exact BK168.out) hb); have n4_ := Aside0.mk (bB (g := gb179) (o := .cells #[.int .u64 t175, .int .u64 t176] 24 (0, 0)) (by (with_reducible repeat (first | refine bN ?_ _ | refine bD ?_ | refine bA ?_ _)); refine blk_far ?_ NB179_189.out _; (with_reducible repeat (first | refine bN ?_ _ | refine bD ?_ | refine bA ?_ _)); refine blk_far ?_ NB179_189.out _; (with_reducible repeat (first | refine bN ?_ _ | refine bD ?_ | refine bA ?_ _)); exact BK179.out) hb); have n5_ := Aside0.mk (bB (g := gb184) (o := .cells #[.int .u64 t180, .int .u64 t181] 24 (0, 0)) (by (with_reducible repeat (first | refine bN ?_ _ | refine bD ?_ | refine bA ?_ _)); refine blk_far ?_ NB184_189.out _; (with_reducible repeat (first | refine bN ?_ _ | refine bD ?_ | refine bA ?_ _)); refine blk_far ?_ NB184_189.out _; (with_reducible repeat (first | refine bN ?_ _ | refine bD ?_ | refine bA ?_ _)); exact BK184.out) hb); have n6_ := Aside0.mk (bB (g := gb189) (o := .cells #[.int .u64 t187, .int .u64 t188] 24 (0, 0)) (by (with_reducible repeat (first | refine bN ?_ _ | refine bD ?_ | refine bA ?_ _)); refine blk_put (cs := #[.int .u64 t187, .int .u64 0]) ?_ 1 _ rfl; (with_reducible repeat (first | refine bN ?_ _ | refine bD ?_ | refine bA ?_ _)); refine blk_put (cs := #[.int .u64 0, .int .u64 0]) ?_ 0 _ rfl; (with_reducible repeat (first | refine bN ?_ _ | refine bD ?_ | refine bA ?_ _)); exact BK189.out) hb); have n7_ := Aside0.mk (bS3 HB.out hb); clear BK165; clear BK166; clear BK167; clear BK168; clear BK179; clear BK184; clear BK189; clear HB; have BK165 := n0_; have BK166 := n1_; have BK167 := n2_; have BK168 := n3_; have BK179 := n4_; have BK184 := n5_; have BK189 := n6_; have HB := n7_; clear n0_ n1_ n2_ n3_ n4_ n5_ n6_ n7_; (try clear hb); (try clear hb2); (try clear hk); (try clear hi)) | ((with_reducible refine gD (N := 20) rfl ?_); refine bE3 20 #[.int .u64 0, .int .u64 0] 24 ?hr ?_; (case hr => first | (go_simp; done) | (go_simp; rfl)); intro gb193 hg w88 hbox hb; have n0_ := Aside0.mk (bB3 BK165.out hb); have n1_ := Aside0.mk (bB3 BK166.out hb); have n2_ := Aside0.mk (bB3 BK167.out hb); have n3_ := Aside0.mk (bB3 BK168.out hb); have n4_ := Aside0.mk (bB3 BK179.out hb); have n5_ := Aside0.mk (bB3 BK184.out hb); have n6_ := Aside0.mk (bB3 BK189.out hb); have n7_ := Aside0.mk (bS3 HB.out hb); have n8_ := Aside0.mk (hbox); have n9_ := Aside0.mk ((bZ3 hg HB.out)); have n10_ := Aside0.mk ((bZ3 hg HB.out)); have n11_ := Aside0.mk ((bL3 hg BK165.out)); have n12_ := Aside0.mk ((bG3 hg BK165.out)); have n13_ := Aside0.mk ((bL3 hg BK166.out)); have n14_ := Aside0.mk ((bG3 hg BK166.out)); have n15_ := Aside0.mk ((bL3 hg BK167.out)); have n16_ := Aside0.mk ((bG3 hg BK167.out)); have n17_ := Aside0.mk ((bL3 hg BK168.out)); have n18_ := Aside0.mk ((bG3 hg BK168.out)); have n19_ := Aside0.mk ((bL3 hg BK179.out)); have n20_ := Aside0.mk ((bG3 hg BK179.out)); have n21_ := Aside0.mk ((bL3 hg BK184.out)); have n22_ := Aside0.mk ((bG3 hg BK184.out)); have n23_ := Aside0.mk ((bL3 hg BK189.out)); have n24_ := Aside0.mk ((bG3 hg BK189.out)); clear BK165; clear BK166; clear BK167; clear BK168; clear BK179; clear BK184; clear BK189; clear HB; have BK165 := n0_; have BK166 := n1_; have BK167 := n2_; have BK168 := n3_; have BK179 := n4_; have BK184 := n5_; have BK189 := n6_; have HB := n7_; have BK193 := n8_; have GW193 := n9_; have GE193 := n10_; have NB165_193 := n11_; have NB193_165 := n12_; have NB166_193 := n13_; have NB193_166 := n14_; have NB167_193 := n15_; have NB193_167 := n16_; have NB168_193 := n17_; have NB193_168 := n18_; have NB179_193 := n19_; have NB193_179 := n20_; have NB184_193 := n21_; have NB193_184 := n22_; have NB189_193 := n23_; have NB193_189 := n24_; clear n0_ n1_ n2_ n3_ n4_ n5_ n6_ n7_ n8_ n9_ n10_ n11_ n12_ n13_ n14_ n15_ n16_ n17_ n18_ n19_ n20_ n21_ n22_ n23_ n24_; clear hb hbox hg; have hnb89 := NB193_165.out; have hnc89 := NB165_193.out; have hnb90 := NB193_166.out; have hnc90 := NB166_193.out; have hnb91 := NB193_167.out; have hnc91 := NB167_193.out; have hnb92 := NB193_168.out; have hnc92 := NB168_193.out; have hnb93 := NB193_179.out; have hnc93 := NB179_193.out; have hnb94 := NB193_184.out; have hnc94 := NB184_193.out; have hnb95 := NB193_189.out; have hnc95 := NB189_193.out; have hcz96_0 : w88.cell? ⟨gb193, 0, none⟩ = some (.int .u64 0) := (blk_cell BK193.out 0).trans rfl; have hcz96_1 : w88.cell? ⟨gb193, 1, none⟩ = some (.int .u64 0) := (blk_cell BK193.out 1).trans rfl; have hfz96_0 := blk_frozen BK193.out 0; have hfz96_1 := blk_frozen BK193.out 1; have hcz97_0 : w88.cell? ⟨gb166, 0, none⟩ = some (.int .u64 a1_0) := (blk_cell BK166.out 0).trans rfl; have hcz97_1 : w88.cell? ⟨gb166, 1, none⟩ = some (.int .u64 a1_1) := (blk_cell BK166.out 1).trans rfl; have hfz97_0 := blk_frozen BK166.out 0; have hfz97_1 := blk_frozen BK166.out 1) | ((with_reducible refine gC (f := 20) rfl ?_); (with_reducible refine gD (N := 82) rfl ?_); refine goesY_ (some 82) Try.func20 #[.agg #[.int .u64 t190, .int .u64 t191], .agg #[.int .u64 a1_0, .int .u64 a1_1]] ?_; (with_reducible refine (twin_Cmp.calls t190 t191 a1_0 a1_1 t194 _ A64.out).mono ?_); rintro e w98 ⟨rfl, hb⟩; refine ⟨_, rfl, ?_⟩; have n0_ := Aside0.mk (bB (g := gb165) (o := .cells #[.int .u64 a0_0, .int .u64 a0_1] 24 (0, 0)) (by (with_reducible repeat (first | refine bN ?_ _ | refine bD ?_ | refine bA ?_ _)); refine blk_far ?_ NB165_193.out _; (with_reducible repeat (first | refine bN ?_ _ | refine bD ?_ | refine bA ?_ _)); refine blk_far ?_ NB165_193.out _; (with_reducible repeat (first | refine bN ?_ _ | refine bD ?_ | refine bA ?_ _)); exact BK165.out) hb); have n1_ := Aside0.mk (bB (g := gb166) (o := .cells #[.int .u64 a1_0, .int .u64 a1_1] 24 (0, 0)) (by (with_reducible repeat (first | refine bN ?_ _ | refine bD ?_ | refine bA ?_ _)); refine blk_far ?_ NB166_193.out _; (with_reducible repeat (first | refine bN ?_ _ | refine bD ?_ | refine bA ?_ _)); refine blk_far ?_ NB166_193.out _; (with_reducible repeat (first | refine bN ?_ _ | refine bD ?_ | refine bA ?_ _)); exact BK166.out) hb); have n2_ := Aside0.mk (bB (g := gb167) (o := .cells #[.int .u64 0, .int .u64 0] 24 (0, 0)) (by (with_reducible repeat (first | refine bN ?_ _ | refine bD ?_ | refine bA ?_ _)); refine blk_far ?_ NB167_193.out _; (with_reducible repeat (first | refine bN ?_ _ | refine bD ?_ | refine bA ?_ _)); refine blk_far ?_ NB167_193.out _; (with_reducible repeat (first | refine bN ?_ _ | refine bD ?_ | refine bA ?_ _)); exact BK167.out) hb); have n3_ := Aside0.mk (bB (g := gb168) (o := .cells #[.int .u64 0, .int .u64 0] 24 (0, 0)) (by (with_reducible repeat (first | refine bN ?_ _ | refine bD ?_ | refine bA ?_ _)); refine blk_far ?_ NB168_193.out _; (with_reducible repeat (first | refine bN ?_ _ | refine bD ?_ | refine bA ?_ _)); refine blk_far ?_ NB168_193.out _; (with_reducible repeat (first | refine bN ?_ _ | refine bD ?_ | refine bA ?_ _)); exact BK168.out) hb); have n4_ := Aside0.mk (bB (g := gb179) (o := .cells #[.int .u64 t175, .int .u64 t176] 24 (0, 0)) (by (with_reducible repeat (first | refine bN ?_ _ | refine bD ?_ | refine bA ?_ _)); refine blk_far ?_ NB179_193.out _; (with_reducible repeat (first | refine bN ?_ _ | refine bD ?_ | refine bA ?_ _)); refine blk_far ?_ NB179_193.out _; (with_reducible repeat (first | refine bN ?_ _ | refine bD ?_ | refine bA ?_ _)); exact BK179.out) hb); have n5_ := Aside0.mk (bB (g := gb184) (o := .cells #[.int .u64 t180, .int .u64 t181] 24 (0, 0)) (by (with_reducible repeat (first | refine bN ?_ _ | refine bD ?_ | refine bA ?_ _)); refine blk_far ?_ NB184_193.out _; (with_reducible repeat (first | refine bN ?_ _ | refine bD ?_ | refine bA ?_ _)); refine blk_far ?_ NB184_193.out _; (with_reducible repeat (first | refine bN ?_ _ | refine bD ?_ | refine bA ?_ _)); exact BK184.out) hb); have n6_ := Aside0.mk (bB (g := gb189) (o := .cells #[.int .u64 t187, .int .u64 t188] 24 (0, 0)) (by (with_reducible repeat (first | refine bN ?_ _ | refine bD ?_ | refine bA ?_ _)); refine blk_far ?_ NB189_193.out _; (with_reducible repeat (first | refine bN ?_ _ | refine bD ?_ | refine bA ?_ _)); refine blk_far ?_ NB189_193.out _; (with_reducible repeat (first | refine bN ?_ _ | refine bD ?_ | refine bA ?_ _)); exact BK189.out) hb); have n7_ := Aside0.mk (bB (g := gb193) (o := .cells #[.int .u64 t190, .int .u64 t191] 24 (0, 0)) (by (with_reducible repeat (first | refine bN ?_ _ | refine bD ?_ | refine bA ?_ _)); refine blk_put (cs := #[.int .u64 t190, .int .u64 0]) ?_ 1 _ rfl; (with_reducible repeat (first | refine bN ?_ _ | refine bD ?_ | refine bA ?_ _)); refine blk_put (cs := #[.int .u64 0, .int .u64 0]) ?_ 0 _ rfl; (with_reducible repeat (first | refine bN ?_ _ | refine bD ?_ | refine bA ?_ _)); exact BK193.out) hb); have n8_ := Aside0.mk (bS3 HB.out hb); clear BK165; clear BK166; clear BK167; clear BK168; clear BK179; clear BK184; clear BK189; clear BK193; clear HB; have BK165 := n0_; have BK166 := n1_; have BK167 := n2_; have BK168 := n3_; have BK179 := n4_; have BK184 := n5_; have BK189 := n6_; have BK193 := n7_; have HB := n8_; clear n0_ n1_ n2_ n3_ n4_ n5_ n6_ n7_ n8_; (try clear hb); (try clear hb2); (try clear hk); (try clear hi); have hcz99_0 : w98.cell? ⟨gb193, 0, none⟩ = some (.int .u64 t190) := (blk_cell BK193.out 0).trans rfl; have hcz99_1 : w98.cell? ⟨gb193, 1, none⟩ = some (.int .u64 t191) := (blk_cell BK193.out 1).trans rfl; have hfz99_0 := blk_frozen BK193.out 0; have hfz99_1 := blk_frozen BK193.out 1; have hcz100_0 : w98.cell? ⟨gb166, 0, none⟩ = some (.int .u64 a1_0) := (blk_cell BK166.out 0).trans rfl; have hcz100_1 : w98.cell? ⟨gb166, 1, none⟩ = some (.int .u64 a1_1) := (blk_cell BK166.out 1).trans rfl; have hfz100_0 := blk_frozen BK166.out 0; have hfz100_1 := blk_frozen BK166.out 1) | ((with_reducible refine gC (f := 19) rfl ?_); (with_reducible refine gD (N := 89) rfl ?_); refine goesY_ (some 89) Try.func19 #[.agg #[.int .u64 t190, .int .u64 t191], .agg #[.int .u64 a1_0, .int .u64 a1_1]] ?_; (with_reducible refine (twin_Sub.calls t190 t191 a1_0 a1_1 t195 t196 t197 _ A66.out).mono ?_); rintro e w101 ⟨rfl, hb⟩; refine ⟨_, rfl, ?_⟩; have n0_ := Aside0.mk (bB3 BK165.out hb); have n1_ := Aside0.mk (bB3 BK166.out hb); have n2_ := Aside0.mk (bB3 BK167.out hb); have n3_ := Aside0.mk (bB3 BK168.out hb); have n4_ := Aside0.mk (bB3 BK179.out hb); have n5_ := Aside0.mk (bB3 BK184.out hb); have n6_ := Aside0.mk (bB3 BK189.out hb); have n7_ := Aside0.mk (bB3 BK193.out hb); have n8_ := Aside0.mk (bS3 HB.out hb); clear BK165; clear BK166; clear BK167; clear BK168; clear BK179; clear BK184; clear BK189; clear BK193; clear HB; have BK165 := n0_; have BK166 := n1_; have BK167 := n2_; have BK168 := n3_; have BK179 := n4_; have BK184 := n5_; have BK189 := n6_; have BK193 := n7_; have HB := n8_; clear n0_ n1_ n2_ n3_ n4_ n5_ n6_ n7_ n8_; (try clear hb); (try clear hb2); (try clear hk); (try clear hi); have hcz102_0 : w101.cell? ⟨gb193, 0, none⟩ = some (.int .u64 t190) := (blk_cell BK193.out 0).trans rfl; have hcz102_1 : w101.cell? ⟨gb193, 1, none⟩ = some (.int .u64 t191) := (blk_cell BK193.out 1).trans rfl; have hfz102_0 := blk_frozen BK193.out 0; have hfz102_1 := blk_frozen BK193.out 1))
            have n0_ : Aside0 (((w101.setCell ⟨gb193, 0, none⟩ (.int .u64 t195)).setCell ⟨gb193, 1, none⟩ (.int .u64 t196)).heap[gb165]? = some (.cells #[.int .u64 a0_0, .int .u64 a0_1] 24 (0, 0))) := ⟨by (with_reducible repeat (first | refine bN ?_ _ | refine bD ?_ | refine bA ?_ _)); refine blk_far ?_ NB165_193.out _; (with_reducible repeat (first | refine bN ?_ _ | refine bD ?_ | refine bA ?_ _)); refine blk_far ?_ NB165_193.out _; (with_reducible repeat (first | refine bN ?_ _ | refine bD ?_ | refine bA ?_ _)); exact BK165.out⟩
            have n1_ : Aside0 (((w101.setCell ⟨gb193, 0, none⟩ (.int .u64 t195)).setCell ⟨gb193, 1, none⟩ (.int .u64 t196)).heap[gb166]? = some (.cells #[.int .u64 a1_0, .int .u64 a1_1] 24 (0, 0))) := ⟨by (with_reducible repeat (first | refine bN ?_ _ | refine bD ?_ | refine bA ?_ _)); refine blk_far ?_ NB166_193.out _; (with_reducible repeat (first | refine bN ?_ _ | refine bD ?_ | refine bA ?_ _)); refine blk_far ?_ NB166_193.out _; (with_reducible repeat (first | refine bN ?_ _ | refine bD ?_ | refine bA ?_ _)); exact BK166.out⟩
            have n2_ : Aside0 (((w101.setCell ⟨gb193, 0, none⟩ (.int .u64 t195)).setCell ⟨gb193, 1, none⟩ (.int .u64 t196)).heap[gb167]? = some (.cells #[.int .u64 0, .int .u64 0] 24 (0, 0))) := ⟨by (with_reducible repeat (first | refine bN ?_ _ | refine bD ?_ | refine bA ?_ _)); refine blk_far ?_ NB167_193.out _; (with_reducible repeat (first | refine bN ?_ _ | refine bD ?_ | refine bA ?_ _)); refine blk_far ?_ NB167_193.out _; (with_reducible repeat (first | refine bN ?_ _ | refine bD ?_ | refine bA ?_ _)); exact BK167.out⟩
            have n3_ : Aside0 (((w101.setCell ⟨gb193, 0, none⟩ (.int .u64 t195)).setCell ⟨gb193, 1, none⟩ (.int .u64 t196)).heap[gb168]? = some (.cells #[.int .u64 0, .int .u64 0] 24 (0, 0))) := ⟨by (with_reducible repeat (first | refine bN ?_ _ | refine bD ?_ | refine bA ?_ _)); refine blk_far ?_ NB168_193.out _; (with_reducible repeat (first | refine bN ?_ _ | refine bD ?_ | refine bA ?_ _)); refine blk_far ?_ NB168_193.out _; (with_reducible repeat (first | refine bN ?_ _ | refine bD ?_ | refine bA ?_ _)); exact BK168.out⟩
            have n4_ : Aside0 (((w101.setCell ⟨gb193, 0, none⟩ (.int .u64 t195)).setCell ⟨gb193, 1, none⟩ (.int .u64 t196)).heap[gb179]? = some (.cells #[.int .u64 t175, .int .u64 t176] 24 (0, 0))) := ⟨by (with_reducible repeat (first | refine bN ?_ _ | refine bD ?_ | refine bA ?_ _)); refine blk_far ?_ NB179_193.out _; (with_reducible repeat (first | refine bN ?_ _ | refine bD ?_ | refine bA ?_ _)); refine blk_far ?_ NB179_193.out _; (with_reducible repeat (first | refine bN ?_ _ | refine bD ?_ | refine bA ?_ _)); exact BK179.out⟩
            have n5_ : Aside0 (((w101.setCell ⟨gb193, 0, none⟩ (.int .u64 t195)).setCell ⟨gb193, 1, none⟩ (.int .u64 t196)).heap[gb184]? = some (.cells #[.int .u64 t180, .int .u64 t181] 24 (0, 0))) := ⟨by (with_reducible repeat (first | refine bN ?_ _ | refine bD ?_ | refine bA ?_ _)); refine blk_far ?_ NB184_193.out _; (with_reducible repeat (first | refine bN ?_ _ | refine bD ?_ | refine bA ?_ _)); refine blk_far ?_ NB184_193.out _; (with_reducible repeat (first | refine bN ?_ _ | refine bD ?_ | refine bA ?_ _)); exact BK184.out⟩
            have n6_ : Aside0 (((w101.setCell ⟨gb193, 0, none⟩ (.int .u64 t195)).setCell ⟨gb193, 1, none⟩ (.int .u64 t196)).heap[gb189]? = some (.cells #[.int .u64 t187, .int .u64 t188] 24 (0, 0))) := ⟨by (with_reducible repeat (first | refine bN ?_ _ | refine bD ?_ | refine bA ?_ _)); refine blk_far ?_ NB189_193.out _; (with_reducible repeat (first | refine bN ?_ _ | refine bD ?_ | refine bA ?_ _)); refine blk_far ?_ NB189_193.out _; (with_reducible repeat (first | refine bN ?_ _ | refine bD ?_ | refine bA ?_ _)); exact BK189.out⟩
            have n7_ : Aside0 (((w101.setCell ⟨gb193, 0, none⟩ (.int .u64 t195)).setCell ⟨gb193, 1, none⟩ (.int .u64 t196)).heap[gb193]? = some (.cells #[.int .u64 t195, .int .u64 t196] 24 (0, 0))) := ⟨by (with_reducible repeat (first | refine bN ?_ _ | refine bD ?_ | refine bA ?_ _)); refine blk_put (cs := #[.int .u64 t195, .int .u64 t191]) ?_ 1 _ rfl; (with_reducible repeat (first | refine bN ?_ _ | refine bD ?_ | refine bA ?_ _)); refine blk_put (cs := #[.int .u64 t190, .int .u64 t191]) ?_ 0 _ rfl; (with_reducible repeat (first | refine bN ?_ _ | refine bD ?_ | refine bA ?_ _)); exact BK193.out⟩
            have n8_ : Aside0 (Below w.heap.size w ((w101.setCell ⟨gb193, 0, none⟩ (.int .u64 t195)).setCell ⟨gb193, 1, none⟩ (.int .u64 t196))) := ⟨by repeat (first | (with_reducible first | exact HB.out | apply pA | apply pN | apply p1 | refine pS ?_ GE165.out | refine pS ?_ GE166.out | refine pS ?_ GE167.out | refine pS ?_ GE168.out | refine pS ?_ GE179.out | refine pS ?_ GE184.out | refine pS ?_ GE189.out | refine pS ?_ GE193.out) | exact HB.out)⟩
            (try clear BK165)
            (try clear BK166)
            (try clear BK167)
            (try clear BK168)
            (try clear BK179)
            (try clear BK184)
            (try clear BK189)
            (try clear BK193)
            (try clear HB)
            generalize ((w101.setCell ⟨gb193, 0, none⟩ (.int .u64 t195)).setCell ⟨gb193, 1, none⟩ (.int .u64 t196)) = w103 at n0_ n1_ n2_ n3_ n4_ n5_ n6_ n7_ n8_ ⊢
            have BK165 := n0_
            have BK166 := n1_
            have BK167 := n2_
            have BK168 := n3_
            have BK179 := n4_
            have BK184 := n5_
            have BK189 := n6_
            have BK193 := n7_
            have HB := n8_
            clear n0_ n1_ n2_ n3_ n4_ n5_ n6_ n7_ n8_
            have n0_ := Aside0.mk (bD BK165.out)
            have n1_ := Aside0.mk (bD BK166.out)
            have n2_ := Aside0.mk (bD BK167.out)
            have n3_ := Aside0.mk (bD BK168.out)
            have n4_ := Aside0.mk (bD BK179.out)
            have n5_ := Aside0.mk (bD BK184.out)
            have n6_ := Aside0.mk (bD BK189.out)
            have n7_ := Aside0.mk (bD BK193.out)
            have n8_ := Aside0.mk (p1 HB.out)
            clear BK165
            clear BK166
            clear BK167
            clear BK168
            clear BK179
            clear BK184
            clear BK189
            clear BK193
            clear HB
            have BK165 := n0_
            have BK166 := n1_
            have BK167 := n2_
            have BK168 := n3_
            have BK179 := n4_
            have BK184 := n5_
            have BK189 := n6_
            have BK193 := n7_
            have HB := n8_
            clear n0_ n1_ n2_ n3_ n4_ n5_ n6_ n7_ n8_
            refine start_ (n := 6) (S := fun w' => w'.cell? ⟨gb193, 0, none⟩ = some (.int .u64 t195) ∧ w'.cell? ⟨gb193, 1, none⟩ = some (.int .u64 t196)) (ds := []) #[false, false, false, false, false, false] (by kernel_rfl) rfl rfl ⟨(blk_cell BK193.out 0).trans rfl, (blk_cell BK193.out 1).trans rfl⟩ (fun hHeld => ?_)
            generalize w103.drew = w104 at BK165 BK166 BK167 BK168 BK179 BK184 BK189 BK193 HB hHeld ⊢
            refine pure_ (i := 0) (N := some 92) (v := ?_) (a' := ?_) #[true, false, false, false, false, false] rfl rfl (by kernel_rfl) (fun _ _ _ h => h) (Or.inl ⟨by rfl, ?_⟩) ?_ ?_
            rotate_left
            · intro w'
              go_simp
              with_reducible rfl
            rotate_left
            · simp only [Act.put, List.setIfInBounds_toArray, List.set_cons_zero, List.set_cons_succ, i64_w, i32_w]
              rfl
            refine pure_ (i := 1) (N := some 93) (v := ?_) (a' := ?_) #[true, true, false, false, false, false] rfl rfl (by kernel_rfl) (fun _ _ _ h => h) (Or.inl ⟨by rfl, ?_⟩) ?_ ?_
            rotate_left
            · intro w'
              go_simp
              with_reducible rfl
            rotate_left
            · simp only [Act.put, List.setIfInBounds_toArray, List.set_cons_zero, List.set_cons_succ, i64_w, i32_w]
              rfl
            refine take_ (i := 2) (N := some 94) (v := ?_) (a' := ?_) #[true, true, true, false, false, false] rfl rfl (by kernel_rfl) (fun _ _ _ h => h) (Or.inl ⟨by rfl, ?_⟩) hHeld ?_ ?_
            rotate_left
            · rintro w' ⟨s0, s1⟩
              go_simp
              with_reducible rfl
            rotate_left
            · simp only [Act.put, List.setIfInBounds_toArray, List.set_cons_zero, List.set_cons_succ, i64_w, i32_w]
              rfl
            refine one_ (i := 3) (N := none) #[true, true, true, true, false, false] rfl rfl (by kernel_rfl) (by decide) (fun K hK => ?_)
            have hs105 : w104.cell? ⟨gb167, 0, none⟩ = some (.int .u64 0) := (blk_cell BK167.out 0).trans rfl
            have hfs105 := blk_frozen BK167.out 0
            have hns105_0 := NB165_167.out
            have hns105_1 := NB166_167.out
            have hns105_3 := NB168_167.out
            have hns105_4 := NB179_167.out
            have hns105_5 := NB184_167.out
            have hns105_6 := NB189_167.out
            have hns105_7 := NB193_167.out
            have hms105_0 := NB167_165.out
            have hms105_1 := NB167_166.out
            have hms105_3 := NB167_168.out
            have hms105_4 := NB167_179.out
            have hms105_5 := NB167_184.out
            have hms105_6 := NB167_189.out
            have hms105_7 := NB167_193.out
            have hs106 : w104.cell? ⟨gb167, 1, none⟩ = some (.int .u64 0) := (blk_cell BK167.out 1).trans rfl
            have hfs106 := blk_frozen BK167.out 1
            have hns106_0 := NB165_167.out
            have hns106_1 := NB166_167.out
            have hns106_3 := NB168_167.out
            have hns106_4 := NB179_167.out
            have hns106_5 := NB184_167.out
            have hns106_6 := NB189_167.out
            have hns106_7 := NB193_167.out
            have hms106_0 := NB167_165.out
            have hms106_1 := NB167_166.out
            have hms106_3 := NB167_168.out
            have hms106_4 := NB167_179.out
            have hms106_5 := NB167_184.out
            have hms106_6 := NB167_189.out
            have hms106_7 := NB167_193.out
            refine skip_ (w1 := ?_) (by rfl) rfl ?_ ?_
            rotate_left
            · go_simp
              rfl
            refine hK.out _ _ ⟨((cell_far (p := ⟨gb167, _, none⟩) NB193_167.out _).trans (((cell_far (p := ⟨gb167, _, none⟩) NB193_167.out _).trans (hHeld.1)))), ((cell_far (p := ⟨gb167, _, none⟩) NB193_167.out _).trans (((cell_far (p := ⟨gb167, _, none⟩) NB193_167.out _).trans (hHeld.2))))⟩ (fun hHeld => ?_)
            clear hK K
            refine one_ (i := 4) (N := none) #[true, true, true, true, true, false] rfl rfl (by kernel_rfl) (by decide) (fun K hK => ?_)
            have hs107 : w104.cell? ⟨gb168, 0, none⟩ = some (.int .u64 0) := (blk_cell BK168.out 0).trans rfl
            have hfs107 := blk_frozen BK168.out 0
            have hns107_0 := NB165_168.out
            have hns107_1 := NB166_168.out
            have hns107_2 := NB167_168.out
            have hns107_4 := NB179_168.out
            have hns107_5 := NB184_168.out
            have hns107_6 := NB189_168.out
            have hns107_7 := NB193_168.out
            have hms107_0 := NB168_165.out
            have hms107_1 := NB168_166.out
            have hms107_2 := NB168_167.out
            have hms107_4 := NB168_179.out
            have hms107_5 := NB168_184.out
            have hms107_6 := NB168_189.out
            have hms107_7 := NB168_193.out
            have hs108 : w104.cell? ⟨gb168, 1, none⟩ = some (.int .u64 0) := (blk_cell BK168.out 1).trans rfl
            have hfs108 := blk_frozen BK168.out 1
            have hns108_0 := NB165_168.out
            have hns108_1 := NB166_168.out
            have hns108_2 := NB167_168.out
            have hns108_4 := NB179_168.out
            have hns108_5 := NB184_168.out
            have hns108_6 := NB189_168.out
            have hns108_7 := NB193_168.out
            have hms108_0 := NB168_165.out
            have hms108_1 := NB168_166.out
            have hms108_2 := NB168_167.out
            have hms108_4 := NB168_179.out
            have hms108_5 := NB168_184.out
            have hms108_6 := NB168_189.out
            have hms108_7 := NB168_193.out
            refine skip_ (w1 := ?_) (by rfl) rfl ?_ ?_
            rotate_left
            · go_simp
              rfl
            refine hK.out _ _ ⟨((cell_far (p := ⟨gb168, _, none⟩) NB193_168.out _).trans (((cell_far (p := ⟨gb168, _, none⟩) NB193_168.out _).trans (hHeld.1)))), ((cell_far (p := ⟨gb168, _, none⟩) NB193_168.out _).trans (((cell_far (p := ⟨gb168, _, none⟩) NB193_168.out _).trans (hHeld.2))))⟩ (fun hHeld => ?_)
            clear hK K
            refine pure_ (i := 5) (N := some 6) (v := ?_) (a' := ?_) #[true, true, true, true, true, true] rfl rfl (by kernel_rfl) (fun _ _ _ h => h) (Or.inl ⟨by rfl, ?_⟩) ?_ ?_
            rotate_left
            · intro w'
              go_simp
              with_reducible rfl
            rotate_left
            · simp only [Act.put, List.setIfInBounds_toArray, List.set_cons_zero, List.set_cons_succ, i64_w, i32_w]
              rfl
            refine done_ (by kernel_rfl) ?_
            try go_wp2
            refine bodyPost_ret (results_list (rs := [.cell 4 24, .cell 5 24, .tmp 6]) rfl (by simp) (.cell gb167 24 #[.int .u64 0, .int .u64 (IntKind.u64.wrap (x17_32 + 1))] (0, 0) _ rfl (by (with_reducible repeat (first | refine bN ?_ _ | refine bD ?_ | refine bA ?_ _)); refine blk_far ?_ NB167_168.out _; (with_reducible repeat (first | refine bN ?_ _ | refine bD ?_ | refine bA ?_ _)); refine blk_far ?_ NB167_168.out _; (with_reducible repeat (first | refine bN ?_ _ | refine bD ?_ | refine bA ?_ _)); refine blk_put (cs := #[.int .u64 0, .int .u64 0]) ?_ 1 _ rfl; (with_reducible repeat (first | refine bN ?_ _ | refine bD ?_ | refine bA ?_ _)); refine blk_put (cs := #[.int .u64 0, .int .u64 0]) ?_ 0 _ rfl; (with_reducible repeat (first | refine bN ?_ _ | refine bD ?_ | refine bA ?_ _)); exact BK167.out) Try.underlying24 rfl (by kernel_rfl) (.cell gb168 24 #[.int .u64 t195, .int .u64 t196] (0, 0) _ rfl (by (with_reducible repeat (first | refine bN ?_ _ | refine bD ?_ | refine bA ?_ _)); refine blk_put (cs := #[.int .u64 t195, .int .u64 0]) ?_ 1 _ rfl; (with_reducible repeat (first | refine bN ?_ _ | refine bD ?_ | refine bA ?_ _)); refine blk_put (cs := #[.int .u64 0, .int .u64 0]) ?_ 0 _ rfl; (with_reducible repeat (first | refine bN ?_ _ | refine bD ?_ | refine bA ?_ _)); refine blk_far ?_ NB168_167.out _; (with_reducible repeat (first | refine bN ?_ _ | refine bD ?_ | refine bA ?_ _)); refine blk_far ?_ NB168_167.out _; (with_reducible repeat (first | refine bN ?_ _ | refine bD ?_ | refine bA ?_ _)); exact BK168.out) Try.underlying24 rfl (by kernel_rfl) (.tmp .nil)))) rfl ?_
            exact ⟨by first | rfl | (simp [errW_none, errW_some] <;> rfl) | (simp only [← hji30, ← hji32]; first | rfl | (simp [errW_none, errW_some] <;> rfl)) | (simp [*, errW_none, errW_some] <;> rfl), by repeat (first | (with_reducible first | exact HB.out | apply pA | apply pN | apply p1 | refine pS ?_ GE165.out | refine pS ?_ GE166.out | refine pS ?_ GE167.out | refine pS ?_ GE168.out | refine pS ?_ GE179.out | refine pS ?_ GE184.out | refine pS ?_ GE189.out | refine pS ?_ GE193.out) | exact HB.out)⟩
          · rw [if_neg c65] at H
            have c65b0 : decide (0 ≤ t194) = false := decide_eq_false c65
            clear c65
            simp only [Option.some.injEq, Prod.mk.injEq] at H
            obtain ⟨rfl, rfl, rfl, rfl, rfl⟩ := H
            have hnb109 := NB166_165.out
            have hnc109 := NB165_166.out
            have hnb110 := NB166_167.out
            have hnc110 := NB167_166.out
            have hnb111 := NB166_168.out
            have hnc111 := NB168_166.out
            have hnb112 := NB166_179.out
            have hnc112 := NB179_166.out
            have hnb113 := NB166_184.out
            have hnc113 := NB184_166.out
            have hcz114_0 : wc.cell? ⟨gb166, 0, none⟩ = some (.int .u64 a1_0) := (blk_cell BK166.out 0).trans rfl
            have hcz114_1 : wc.cell? ⟨gb166, 1, none⟩ = some (.int .u64 a1_1) := (blk_cell BK166.out 1).trans rfl
            have hfz114_0 := blk_frozen BK166.out 0
            have hfz114_1 := blk_frozen BK166.out 1
            try go_wp2_with (first | ((with_reducible refine gC (f := 18) rfl ?_); (with_reducible refine gD (N := 73) rfl ?_); refine goesY_ (some 73) Try.func18 #[.agg #[.int .u64 a1_0, .int .u64 a1_1], .int .u64 x17_32] ?_; (with_reducible refine (part_times.calls a1_0 a1_1 x17_32 t187 t188 _ A62.out).mono ?_); rintro e w115 ⟨rfl, hb⟩; refine ⟨_, rfl, ?_⟩; have n0_ := Aside0.mk (bB3 BK165.out hb); have n1_ := Aside0.mk (bB3 BK166.out hb); have n2_ := Aside0.mk (bB3 BK167.out hb); have n3_ := Aside0.mk (bB3 BK168.out hb); have n4_ := Aside0.mk (bB3 BK179.out hb); have n5_ := Aside0.mk (bB3 BK184.out hb); have n6_ := Aside0.mk (bS3 HB.out hb); clear BK165; clear BK166; clear BK167; clear BK168; clear BK179; clear BK184; clear HB; have BK165 := n0_; have BK166 := n1_; have BK167 := n2_; have BK168 := n3_; have BK179 := n4_; have BK184 := n5_; have HB := n6_; clear n0_ n1_ n2_ n3_ n4_ n5_ n6_; (try clear hb); (try clear hb2); (try clear hk); (try clear hi)) | ((with_reducible refine gD (N := 19) rfl ?_); refine bE3 19 #[.int .u64 0, .int .u64 0] 24 ?hr ?_; (case hr => first | (go_simp; done) | (go_simp; rfl)); intro gb189 hg w116 hbox hb; have n0_ := Aside0.mk (bB3 BK165.out hb); have n1_ := Aside0.mk (bB3 BK166.out hb); have n2_ := Aside0.mk (bB3 BK167.out hb); have n3_ := Aside0.mk (bB3 BK168.out hb); have n4_ := Aside0.mk (bB3 BK179.out hb); have n5_ := Aside0.mk (bB3 BK184.out hb); have n6_ := Aside0.mk (bS3 HB.out hb); have n7_ := Aside0.mk (hbox); have n8_ := Aside0.mk ((bZ3 hg HB.out)); have n9_ := Aside0.mk ((bZ3 hg HB.out)); have n10_ := Aside0.mk ((bL3 hg BK165.out)); have n11_ := Aside0.mk ((bG3 hg BK165.out)); have n12_ := Aside0.mk ((bL3 hg BK166.out)); have n13_ := Aside0.mk ((bG3 hg BK166.out)); have n14_ := Aside0.mk ((bL3 hg BK167.out)); have n15_ := Aside0.mk ((bG3 hg BK167.out)); have n16_ := Aside0.mk ((bL3 hg BK168.out)); have n17_ := Aside0.mk ((bG3 hg BK168.out)); have n18_ := Aside0.mk ((bL3 hg BK179.out)); have n19_ := Aside0.mk ((bG3 hg BK179.out)); have n20_ := Aside0.mk ((bL3 hg BK184.out)); have n21_ := Aside0.mk ((bG3 hg BK184.out)); clear BK165; clear BK166; clear BK167; clear BK168; clear BK179; clear BK184; clear HB; have BK165 := n0_; have BK166 := n1_; have BK167 := n2_; have BK168 := n3_; have BK179 := n4_; have BK184 := n5_; have HB := n6_; have BK189 := n7_; have GW189 := n8_; have GE189 := n9_; have NB165_189 := n10_; have NB189_165 := n11_; have NB166_189 := n12_; have NB189_166 := n13_; have NB167_189 := n14_; have NB189_167 := n15_; have NB168_189 := n16_; have NB189_168 := n17_; have NB179_189 := n18_; have NB189_179 := n19_; have NB184_189 := n20_; have NB189_184 := n21_; clear n0_ n1_ n2_ n3_ n4_ n5_ n6_ n7_ n8_ n9_ n10_ n11_ n12_ n13_ n14_ n15_ n16_ n17_ n18_ n19_ n20_ n21_; clear hb hbox hg; have hnb117 := NB189_165.out; have hnc117 := NB165_189.out; have hnb118 := NB189_166.out; have hnc118 := NB166_189.out; have hnb119 := NB189_167.out; have hnc119 := NB167_189.out; have hnb120 := NB189_168.out; have hnc120 := NB168_189.out; have hnb121 := NB189_179.out; have hnc121 := NB179_189.out; have hnb122 := NB189_184.out; have hnc122 := NB184_189.out; have hcz123_0 : w116.cell? ⟨gb189, 0, none⟩ = some (.int .u64 0) := (blk_cell BK189.out 0).trans rfl; have hcz123_1 : w116.cell? ⟨gb189, 1, none⟩ = some (.int .u64 0) := (blk_cell BK189.out 1).trans rfl; have hfz123_0 := blk_frozen BK189.out 0; have hfz123_1 := blk_frozen BK189.out 1; have hnb124 := NB165_167.out; have hnc124 := NB167_165.out; have hnb125 := NB165_168.out; have hnc125 := NB168_165.out; have hnb126 := NB165_179.out; have hnc126 := NB179_165.out; have hnb127 := NB165_184.out; have hnc127 := NB184_165.out; have hcz128_0 : w116.cell? ⟨gb165, 0, none⟩ = some (.int .u64 a0_0) := (blk_cell BK165.out 0).trans rfl; have hcz128_1 : w116.cell? ⟨gb165, 1, none⟩ = some (.int .u64 a0_1) := (blk_cell BK165.out 1).trans rfl; have hfz128_0 := blk_frozen BK165.out 0; have hfz128_1 := blk_frozen BK165.out 1) | ((with_reducible refine gC (f := 19) rfl ?_); (with_reducible refine gD (N := 77) rfl ?_); refine goesY_ (some 77) Try.func19 #[.agg #[.int .u64 a0_0, .int .u64 a0_1], .agg #[.int .u64 t187, .int .u64 t188]] ?_; (with_reducible refine (twin_Sub.calls a0_0 a0_1 t187 t188 t190 t191 t192 _ A63.out).mono ?_); rintro e w129 ⟨rfl, hb⟩; refine ⟨_, rfl, ?_⟩; have n0_ := Aside0.mk (bB (g := gb165) (o := .cells #[.int .u64 a0_0, .int .u64 a0_1] 24 (0, 0)) (by (with_reducible repeat (first | refine bN ?_ _ | refine bD ?_ | refine bA ?_ _)); refine blk_far ?_ NB165_189.out _; (with_reducible repeat (first | refine bN ?_ _ | refine bD ?_ | refine bA ?_ _)); refine blk_far ?_ NB165_189.out _; (with_reducible repeat (first | refine bN ?_ _ | refine bD ?_ | refine bA ?_ _)); exact BK165.out) hb); have n1_ := Aside0.mk (bB (g := gb166) (o := .cells #[.int .u64 a1_0, .int .u64 a1_1] 24 (0, 0)) (by (with_reducible repeat (first | refine bN ?_ _ | refine bD ?_ | refine bA ?_ _)); refine blk_far ?_ NB166_189.out _; (with_reducible repeat (first | refine bN ?_ _ | refine bD ?_ | refine bA ?_ _)); refine blk_far ?_ NB166_189.out _; (with_reducible repeat (first | refine bN ?_ _ | refine bD ?_ | refine bA ?_ _)); exact BK166.out) hb); have n2_ := Aside0.mk (bB (g := gb167) (o := .cells #[.int .u64 0, .int .u64 0] 24 (0, 0)) (by (with_reducible repeat (first | refine bN ?_ _ | refine bD ?_ | refine bA ?_ _)); refine blk_far ?_ NB167_189.out _; (with_reducible repeat (first | refine bN ?_ _ | refine bD ?_ | refine bA ?_ _)); refine blk_far ?_ NB167_189.out _; (with_reducible repeat (first | refine bN ?_ _ | refine bD ?_ | refine bA ?_ _)); exact BK167.out) hb); have n3_ := Aside0.mk (bB (g := gb168) (o := .cells #[.int .u64 0, .int .u64 0] 24 (0, 0)) (by (with_reducible repeat (first | refine bN ?_ _ | refine bD ?_ | refine bA ?_ _)); refine blk_far ?_ NB168_189.out _; (with_reducible repeat (first | refine bN ?_ _ | refine bD ?_ | refine bA ?_ _)); refine blk_far ?_ NB168_189.out _; (with_reducible repeat (first | refine bN ?_ _ | refine bD ?_ | refine bA ?_ _)); exact BK168.out) hb); have n4_ := Aside0.mk (bB (g := gb179) (o := .cells #[.int .u64 t175, .int .u64 t176] 24 (0, 0)) (by (with_reducible repeat (first | refine bN ?_ _ | refine bD ?_ | refine bA ?_ _)); refine blk_far ?_ NB179_189.out _; (with_reducible repeat (first | refine bN ?_ _ | refine bD ?_ | refine bA ?_ _)); refine blk_far ?_ NB179_189.out _; (with_reducible repeat (first | refine bN ?_ _ | refine bD ?_ | refine bA ?_ _)); exact BK179.out) hb); have n5_ := Aside0.mk (bB (g := gb184) (o := .cells #[.int .u64 t180, .int .u64 t181] 24 (0, 0)) (by (with_reducible repeat (first | refine bN ?_ _ | refine bD ?_ | refine bA ?_ _)); refine blk_far ?_ NB184_189.out _; (with_reducible repeat (first | refine bN ?_ _ | refine bD ?_ | refine bA ?_ _)); refine blk_far ?_ NB184_189.out _; (with_reducible repeat (first | refine bN ?_ _ | refine bD ?_ | refine bA ?_ _)); exact BK184.out) hb); have n6_ := Aside0.mk (bB (g := gb189) (o := .cells #[.int .u64 t187, .int .u64 t188] 24 (0, 0)) (by (with_reducible repeat (first | refine bN ?_ _ | refine bD ?_ | refine bA ?_ _)); refine blk_put (cs := #[.int .u64 t187, .int .u64 0]) ?_ 1 _ rfl; (with_reducible repeat (first | refine bN ?_ _ | refine bD ?_ | refine bA ?_ _)); refine blk_put (cs := #[.int .u64 0, .int .u64 0]) ?_ 0 _ rfl; (with_reducible repeat (first | refine bN ?_ _ | refine bD ?_ | refine bA ?_ _)); exact BK189.out) hb); have n7_ := Aside0.mk (bS3 HB.out hb); clear BK165; clear BK166; clear BK167; clear BK168; clear BK179; clear BK184; clear BK189; clear HB; have BK165 := n0_; have BK166 := n1_; have BK167 := n2_; have BK168 := n3_; have BK179 := n4_; have BK184 := n5_; have BK189 := n6_; have HB := n7_; clear n0_ n1_ n2_ n3_ n4_ n5_ n6_ n7_; (try clear hb); (try clear hb2); (try clear hk); (try clear hi)) | ((with_reducible refine gD (N := 20) rfl ?_); refine bE3 20 #[.int .u64 0, .int .u64 0] 24 ?hr ?_; (case hr => first | (go_simp; done) | (go_simp; rfl)); intro gb193 hg w130 hbox hb; have n0_ := Aside0.mk (bB3 BK165.out hb); have n1_ := Aside0.mk (bB3 BK166.out hb); have n2_ := Aside0.mk (bB3 BK167.out hb); have n3_ := Aside0.mk (bB3 BK168.out hb); have n4_ := Aside0.mk (bB3 BK179.out hb); have n5_ := Aside0.mk (bB3 BK184.out hb); have n6_ := Aside0.mk (bB3 BK189.out hb); have n7_ := Aside0.mk (bS3 HB.out hb); have n8_ := Aside0.mk (hbox); have n9_ := Aside0.mk ((bZ3 hg HB.out)); have n10_ := Aside0.mk ((bZ3 hg HB.out)); have n11_ := Aside0.mk ((bL3 hg BK165.out)); have n12_ := Aside0.mk ((bG3 hg BK165.out)); have n13_ := Aside0.mk ((bL3 hg BK166.out)); have n14_ := Aside0.mk ((bG3 hg BK166.out)); have n15_ := Aside0.mk ((bL3 hg BK167.out)); have n16_ := Aside0.mk ((bG3 hg BK167.out)); have n17_ := Aside0.mk ((bL3 hg BK168.out)); have n18_ := Aside0.mk ((bG3 hg BK168.out)); have n19_ := Aside0.mk ((bL3 hg BK179.out)); have n20_ := Aside0.mk ((bG3 hg BK179.out)); have n21_ := Aside0.mk ((bL3 hg BK184.out)); have n22_ := Aside0.mk ((bG3 hg BK184.out)); have n23_ := Aside0.mk ((bL3 hg BK189.out)); have n24_ := Aside0.mk ((bG3 hg BK189.out)); clear BK165; clear BK166; clear BK167; clear BK168; clear BK179; clear BK184; clear BK189; clear HB; have BK165 := n0_; have BK166 := n1_; have BK167 := n2_; have BK168 := n3_; have BK179 := n4_; have BK184 := n5_; have BK189 := n6_; have HB := n7_; have BK193 := n8_; have GW193 := n9_; have GE193 := n10_; have NB165_193 := n11_; have NB193_165 := n12_; have NB166_193 := n13_; have NB193_166 := n14_; have NB167_193 := n15_; have NB193_167 := n16_; have NB168_193 := n17_; have NB193_168 := n18_; have NB179_193 := n19_; have NB193_179 := n20_; have NB184_193 := n21_; have NB193_184 := n22_; have NB189_193 := n23_; have NB193_189 := n24_; clear n0_ n1_ n2_ n3_ n4_ n5_ n6_ n7_ n8_ n9_ n10_ n11_ n12_ n13_ n14_ n15_ n16_ n17_ n18_ n19_ n20_ n21_ n22_ n23_ n24_; clear hb hbox hg; have hnb131 := NB193_165.out; have hnc131 := NB165_193.out; have hnb132 := NB193_166.out; have hnc132 := NB166_193.out; have hnb133 := NB193_167.out; have hnc133 := NB167_193.out; have hnb134 := NB193_168.out; have hnc134 := NB168_193.out; have hnb135 := NB193_179.out; have hnc135 := NB179_193.out; have hnb136 := NB193_184.out; have hnc136 := NB184_193.out; have hnb137 := NB193_189.out; have hnc137 := NB189_193.out; have hcz138_0 : w130.cell? ⟨gb193, 0, none⟩ = some (.int .u64 0) := (blk_cell BK193.out 0).trans rfl; have hcz138_1 : w130.cell? ⟨gb193, 1, none⟩ = some (.int .u64 0) := (blk_cell BK193.out 1).trans rfl; have hfz138_0 := blk_frozen BK193.out 0; have hfz138_1 := blk_frozen BK193.out 1; have hcz139_0 : w130.cell? ⟨gb166, 0, none⟩ = some (.int .u64 a1_0) := (blk_cell BK166.out 0).trans rfl; have hcz139_1 : w130.cell? ⟨gb166, 1, none⟩ = some (.int .u64 a1_1) := (blk_cell BK166.out 1).trans rfl; have hfz139_0 := blk_frozen BK166.out 0; have hfz139_1 := blk_frozen BK166.out 1) | ((with_reducible refine gC (f := 20) rfl ?_); (with_reducible refine gD (N := 82) rfl ?_); refine goesY_ (some 82) Try.func20 #[.agg #[.int .u64 t190, .int .u64 t191], .agg #[.int .u64 a1_0, .int .u64 a1_1]] ?_; (with_reducible refine (twin_Cmp.calls t190 t191 a1_0 a1_1 t194 _ A64.out).mono ?_); rintro e w140 ⟨rfl, hb⟩; refine ⟨_, rfl, ?_⟩; have n0_ := Aside0.mk (bB (g := gb165) (o := .cells #[.int .u64 a0_0, .int .u64 a0_1] 24 (0, 0)) (by (with_reducible repeat (first | refine bN ?_ _ | refine bD ?_ | refine bA ?_ _)); refine blk_far ?_ NB165_193.out _; (with_reducible repeat (first | refine bN ?_ _ | refine bD ?_ | refine bA ?_ _)); refine blk_far ?_ NB165_193.out _; (with_reducible repeat (first | refine bN ?_ _ | refine bD ?_ | refine bA ?_ _)); exact BK165.out) hb); have n1_ := Aside0.mk (bB (g := gb166) (o := .cells #[.int .u64 a1_0, .int .u64 a1_1] 24 (0, 0)) (by (with_reducible repeat (first | refine bN ?_ _ | refine bD ?_ | refine bA ?_ _)); refine blk_far ?_ NB166_193.out _; (with_reducible repeat (first | refine bN ?_ _ | refine bD ?_ | refine bA ?_ _)); refine blk_far ?_ NB166_193.out _; (with_reducible repeat (first | refine bN ?_ _ | refine bD ?_ | refine bA ?_ _)); exact BK166.out) hb); have n2_ := Aside0.mk (bB (g := gb167) (o := .cells #[.int .u64 0, .int .u64 0] 24 (0, 0)) (by (with_reducible repeat (first | refine bN ?_ _ | refine bD ?_ | refine bA ?_ _)); refine blk_far ?_ NB167_193.out _; (with_reducible repeat (first | refine bN ?_ _ | refine bD ?_ | refine bA ?_ _)); refine blk_far ?_ NB167_193.out _; (with_reducible repeat (first | refine bN ?_ _ | refine bD ?_ | refine bA ?_ _)); exact BK167.out) hb); have n3_ := Aside0.mk (bB (g := gb168) (o := .cells #[.int .u64 0, .int .u64 0] 24 (0, 0)) (by (with_reducible repeat (first | refine bN ?_ _ | refine bD ?_ | refine bA ?_ _)); refine blk_far ?_ NB168_193.out _; (with_reducible repeat (first | refine bN ?_ _ | refine bD ?_ | refine bA ?_ _)); refine blk_far ?_ NB168_193.out _; (with_reducible repeat (first | refine bN ?_ _ | refine bD ?_ | refine bA ?_ _)); exact BK168.out) hb); have n4_ := Aside0.mk (bB (g := gb179) (o := .cells #[.int .u64 t175, .int .u64 t176] 24 (0, 0)) (by (with_reducible repeat (first | refine bN ?_ _ | refine bD ?_ | refine bA ?_ _)); refine blk_far ?_ NB179_193.out _; (with_reducible repeat (first | refine bN ?_ _ | refine bD ?_ | refine bA ?_ _)); refine blk_far ?_ NB179_193.out _; (with_reducible repeat (first | refine bN ?_ _ | refine bD ?_ | refine bA ?_ _)); exact BK179.out) hb); have n5_ := Aside0.mk (bB (g := gb184) (o := .cells #[.int .u64 t180, .int .u64 t181] 24 (0, 0)) (by (with_reducible repeat (first | refine bN ?_ _ | refine bD ?_ | refine bA ?_ _)); refine blk_far ?_ NB184_193.out _; (with_reducible repeat (first | refine bN ?_ _ | refine bD ?_ | refine bA ?_ _)); refine blk_far ?_ NB184_193.out _; (with_reducible repeat (first | refine bN ?_ _ | refine bD ?_ | refine bA ?_ _)); exact BK184.out) hb); have n6_ := Aside0.mk (bB (g := gb189) (o := .cells #[.int .u64 t187, .int .u64 t188] 24 (0, 0)) (by (with_reducible repeat (first | refine bN ?_ _ | refine bD ?_ | refine bA ?_ _)); refine blk_far ?_ NB189_193.out _; (with_reducible repeat (first | refine bN ?_ _ | refine bD ?_ | refine bA ?_ _)); refine blk_far ?_ NB189_193.out _; (with_reducible repeat (first | refine bN ?_ _ | refine bD ?_ | refine bA ?_ _)); exact BK189.out) hb); have n7_ := Aside0.mk (bB (g := gb193) (o := .cells #[.int .u64 t190, .int .u64 t191] 24 (0, 0)) (by (with_reducible repeat (first | refine bN ?_ _ | refine bD ?_ | refine bA ?_ _)); refine blk_put (cs := #[.int .u64 t190, .int .u64 0]) ?_ 1 _ rfl; (with_reducible repeat (first | refine bN ?_ _ | refine bD ?_ | refine bA ?_ _)); refine blk_put (cs := #[.int .u64 0, .int .u64 0]) ?_ 0 _ rfl; (with_reducible repeat (first | refine bN ?_ _ | refine bD ?_ | refine bA ?_ _)); exact BK193.out) hb); have n8_ := Aside0.mk (bS3 HB.out hb); clear BK165; clear BK166; clear BK167; clear BK168; clear BK179; clear BK184; clear BK189; clear BK193; clear HB; have BK165 := n0_; have BK166 := n1_; have BK167 := n2_; have BK168 := n3_; have BK179 := n4_; have BK184 := n5_; have BK189 := n6_; have BK193 := n7_; have HB := n8_; clear n0_ n1_ n2_ n3_ n4_ n5_ n6_ n7_ n8_; (try clear hb); (try clear hb2); (try clear hk); (try clear hi)))
            have n0_ := Aside0.mk (bD BK165.out)
            have n1_ := Aside0.mk (bD BK166.out)
            have n2_ := Aside0.mk (bD BK167.out)
            have n3_ := Aside0.mk (bD BK168.out)
            have n4_ := Aside0.mk (bD BK179.out)
            have n5_ := Aside0.mk (bD BK184.out)
            have n6_ := Aside0.mk (bD BK189.out)
            have n7_ := Aside0.mk (bD BK193.out)
            have n8_ := Aside0.mk (p1 HB.out)
            clear BK165
            clear BK166
            clear BK167
            clear BK168
            clear BK179
            clear BK184
            clear BK189
            clear BK193
            clear HB
            have BK165 := n0_
            have BK166 := n1_
            have BK167 := n2_
            have BK168 := n3_
            have BK179 := n4_
            have BK184 := n5_
            have BK189 := n6_
            have BK193 := n7_
            have HB := n8_
            clear n0_ n1_ n2_ n3_ n4_ n5_ n6_ n7_ n8_
            refine start_ (n := 6) (S := fun w' => w'.cell? ⟨gb193, 0, none⟩ = some (.int .u64 t190) ∧ w'.cell? ⟨gb193, 1, none⟩ = some (.int .u64 t191)) (ds := []) #[false, false, false, false, false, false] (by kernel_rfl) rfl rfl ⟨(blk_cell BK193.out 0).trans rfl, (blk_cell BK193.out 1).trans rfl⟩ (fun hHeld => ?_)
            generalize w140.drew = w141 at BK165 BK166 BK167 BK168 BK179 BK184 BK189 BK193 HB hHeld ⊢
            refine pure_ (i := 0) (N := some 92) (v := ?_) (a' := ?_) #[true, false, false, false, false, false] rfl rfl (by kernel_rfl) (fun _ _ _ h => h) (Or.inl ⟨by rfl, ?_⟩) ?_ ?_
            rotate_left
            · intro w'
              go_simp
              with_reducible rfl
            rotate_left
            · simp only [Act.put, List.setIfInBounds_toArray, List.set_cons_zero, List.set_cons_succ, i64_w, i32_w]
              rfl
            refine pure_ (i := 1) (N := some 93) (v := ?_) (a' := ?_) #[true, true, false, false, false, false] rfl rfl (by kernel_rfl) (fun _ _ _ h => h) (Or.inl ⟨by rfl, ?_⟩) ?_ ?_
            rotate_left
            · intro w'
              go_simp
              with_reducible rfl
            rotate_left
            · simp only [Act.put, List.setIfInBounds_toArray, List.set_cons_zero, List.set_cons_succ, i64_w, i32_w]
              rfl
            refine take_ (i := 2) (N := some 94) (v := ?_) (a' := ?_) #[true, true, true, false, false, false] rfl rfl (by kernel_rfl) (fun _ _ _ h => h) (Or.inl ⟨by rfl, ?_⟩) hHeld ?_ ?_
            rotate_left
            · rintro w' ⟨s0, s1⟩
              go_simp
              with_reducible rfl
            rotate_left
            · simp only [Act.put, List.setIfInBounds_toArray, List.set_cons_zero, List.set_cons_succ, i64_w, i32_w]
              rfl
            refine one_ (i := 3) (N := none) #[true, true, true, true, false, false] rfl rfl (by kernel_rfl) (by decide) (fun K hK => ?_)
            have hs142 : w141.cell? ⟨gb167, 0, none⟩ = some (.int .u64 0) := (blk_cell BK167.out 0).trans rfl
            have hfs142 := blk_frozen BK167.out 0
            have hns142_0 := NB165_167.out
            have hns142_1 := NB166_167.out
            have hns142_3 := NB168_167.out
            have hns142_4 := NB179_167.out
            have hns142_5 := NB184_167.out
            have hns142_6 := NB189_167.out
            have hns142_7 := NB193_167.out
            have hms142_0 := NB167_165.out
            have hms142_1 := NB167_166.out
            have hms142_3 := NB167_168.out
            have hms142_4 := NB167_179.out
            have hms142_5 := NB167_184.out
            have hms142_6 := NB167_189.out
            have hms142_7 := NB167_193.out
            have hs143 : w141.cell? ⟨gb167, 1, none⟩ = some (.int .u64 0) := (blk_cell BK167.out 1).trans rfl
            have hfs143 := blk_frozen BK167.out 1
            have hns143_0 := NB165_167.out
            have hns143_1 := NB166_167.out
            have hns143_3 := NB168_167.out
            have hns143_4 := NB179_167.out
            have hns143_5 := NB184_167.out
            have hns143_6 := NB189_167.out
            have hns143_7 := NB193_167.out
            have hms143_0 := NB167_165.out
            have hms143_1 := NB167_166.out
            have hms143_3 := NB167_168.out
            have hms143_4 := NB167_179.out
            have hms143_5 := NB167_184.out
            have hms143_6 := NB167_189.out
            have hms143_7 := NB167_193.out
            refine skip_ (w1 := ?_) (by rfl) rfl ?_ ?_
            rotate_left
            · go_simp
              rfl
            refine hK.out _ _ ⟨((cell_far (p := ⟨gb167, _, none⟩) NB193_167.out _).trans (((cell_far (p := ⟨gb167, _, none⟩) NB193_167.out _).trans (hHeld.1)))), ((cell_far (p := ⟨gb167, _, none⟩) NB193_167.out _).trans (((cell_far (p := ⟨gb167, _, none⟩) NB193_167.out _).trans (hHeld.2))))⟩ (fun hHeld => ?_)
            clear hK K
            refine one_ (i := 4) (N := none) #[true, true, true, true, true, false] rfl rfl (by kernel_rfl) (by decide) (fun K hK => ?_)
            have hs144 : w141.cell? ⟨gb168, 0, none⟩ = some (.int .u64 0) := (blk_cell BK168.out 0).trans rfl
            have hfs144 := blk_frozen BK168.out 0
            have hns144_0 := NB165_168.out
            have hns144_1 := NB166_168.out
            have hns144_2 := NB167_168.out
            have hns144_4 := NB179_168.out
            have hns144_5 := NB184_168.out
            have hns144_6 := NB189_168.out
            have hns144_7 := NB193_168.out
            have hms144_0 := NB168_165.out
            have hms144_1 := NB168_166.out
            have hms144_2 := NB168_167.out
            have hms144_4 := NB168_179.out
            have hms144_5 := NB168_184.out
            have hms144_6 := NB168_189.out
            have hms144_7 := NB168_193.out
            have hs145 : w141.cell? ⟨gb168, 1, none⟩ = some (.int .u64 0) := (blk_cell BK168.out 1).trans rfl
            have hfs145 := blk_frozen BK168.out 1
            have hns145_0 := NB165_168.out
            have hns145_1 := NB166_168.out
            have hns145_2 := NB167_168.out
            have hns145_4 := NB179_168.out
            have hns145_5 := NB184_168.out
            have hns145_6 := NB189_168.out
            have hns145_7 := NB193_168.out
            have hms145_0 := NB168_165.out
            have hms145_1 := NB168_166.out
            have hms145_2 := NB168_167.out
            have hms145_4 := NB168_179.out
            have hms145_5 := NB168_184.out
            have hms145_6 := NB168_189.out
            have hms145_7 := NB168_193.out
            refine skip_ (w1 := ?_) (by rfl) rfl ?_ ?_
            rotate_left
            · go_simp
              rfl
            refine hK.out _ _ ⟨((cell_far (p := ⟨gb168, _, none⟩) NB193_168.out _).trans (((cell_far (p := ⟨gb168, _, none⟩) NB193_168.out _).trans (hHeld.1)))), ((cell_far (p := ⟨gb168, _, none⟩) NB193_168.out _).trans (((cell_far (p := ⟨gb168, _, none⟩) NB193_168.out _).trans (hHeld.2))))⟩ (fun hHeld => ?_)
            clear hK K
            refine pure_ (i := 5) (N := some 6) (v := ?_) (a' := ?_) #[true, true, true, true, true, true] rfl rfl (by kernel_rfl) (fun _ _ _ h => h) (Or.inl ⟨by rfl, ?_⟩) ?_ ?_
            rotate_left
            · intro w'
              go_simp
              with_reducible rfl
            rotate_left
            · simp only [Act.put, List.setIfInBounds_toArray, List.set_cons_zero, List.set_cons_succ, i64_w, i32_w]
              rfl
            refine done_ (by kernel_rfl) ?_
            try go_wp2
            refine bodyPost_ret (results_list (rs := [.cell 4 24, .cell 5 24, .tmp 6]) rfl (by simp) (.cell gb167 24 #[.int .u64 0, .int .u64 x17_32] (0, 0) _ rfl (by (with_reducible repeat (first | refine bN ?_ _ | refine bD ?_ | refine bA ?_ _)); refine blk_far ?_ NB167_168.out _; (with_reducible repeat (first | refine bN ?_ _ | refine bD ?_ | refine bA ?_ _)); refine blk_far ?_ NB167_168.out _; (with_reducible repeat (first | refine bN ?_ _ | refine bD ?_ | refine bA ?_ _)); refine blk_put (cs := #[.int .u64 0, .int .u64 0]) ?_ 1 _ rfl; (with_reducible repeat (first | refine bN ?_ _ | refine bD ?_ | refine bA ?_ _)); refine blk_put (cs := #[.int .u64 0, .int .u64 0]) ?_ 0 _ rfl; (with_reducible repeat (first | refine bN ?_ _ | refine bD ?_ | refine bA ?_ _)); exact BK167.out) Try.underlying24 rfl (by kernel_rfl) (.cell gb168 24 #[.int .u64 t190, .int .u64 t191] (0, 0) _ rfl (by (with_reducible repeat (first | refine bN ?_ _ | refine bD ?_ | refine bA ?_ _)); refine blk_put (cs := #[.int .u64 t190, .int .u64 0]) ?_ 1 _ rfl; (with_reducible repeat (first | refine bN ?_ _ | refine bD ?_ | refine bA ?_ _)); refine blk_put (cs := #[.int .u64 0, .int .u64 0]) ?_ 0 _ rfl; (with_reducible repeat (first | refine bN ?_ _ | refine bD ?_ | refine bA ?_ _)); refine blk_far ?_ NB168_167.out _; (with_reducible repeat (first | refine bN ?_ _ | refine bD ?_ | refine bA ?_ _)); refine blk_far ?_ NB168_167.out _; (with_reducible repeat (first | refine bN ?_ _ | refine bD ?_ | refine bA ?_ _)); exact BK168.out) Try.underlying24 rfl (by kernel_rfl) (.tmp .nil)))) rfl ?_
            exact ⟨by first | rfl | (simp [errW_none, errW_some] <;> rfl) | (simp only [← hji30, ← hji32]; first | rfl | (simp [errW_none, errW_some] <;> rfl)) | (simp [*, errW_none, errW_some] <;> rfl), by repeat (first | (with_reducible first | exact HB.out | apply pA | apply pN | apply p1 | refine pS ?_ GE165.out | refine pS ?_ GE166.out | refine pS ?_ GE167.out | refine pS ?_ GE168.out | refine pS ?_ GE179.out | refine pS ?_ GE184.out | refine pS ?_ GE189.out | refine pS ?_ GE193.out) | exact HB.out)⟩
    · rw [if_neg c31] at H
      exact absurd H (by simp)

end Go.Proofs.Ytcnpnnodgfpheaa.F
