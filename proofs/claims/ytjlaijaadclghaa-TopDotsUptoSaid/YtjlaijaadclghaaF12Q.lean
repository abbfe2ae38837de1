/- Printed functions and their walks; no further conditions. -/
import Derived.Test.YtjlaijaadclghaaF0Q
import Derived.Test.YtjlaijaadclghaaF16Q
namespace Go.Proofs.Ytjlaijaadclghaa.F
open RowKit YtjlaijaadclghaaW PrintWords PrintLast PrintMore
attribute [local go_sem high] xor_u64 xor_u32
attribute [local go_sem] max2_int min2_int max_two min_two max_three min_three max_four min_four
set_option linter.all false
def verniertop_pick.f (a0 : Int) (a1 : Int) : Option (Int) := if a0 < 0 then (if a1 = 0 then (none) else (some (Int.tmod (wrap64 (-(wrap64 (a0 + 1)))) a1))) else (if a1 = 0 then (none) else (some (Int.tmod a0 a1)))
set_option maxHeartbeats 8000000 in
set_option maxRecDepth 100000 in
theorem verniertop_pick.calls (a0 : Int) (a1 : Int) (r : Int) (w : World) (h : verniertop_pick.f a0 a1 = some r) :
  Calls Try.prog 6 #[.int .i64 a0, .int .i64 a1] w fun e w' => e = .returned (.int .i64 r) ∧ Drawn0 w w' := by
 have H : (if a0 < 0 then (if a1 = 0 then (none) else (some (Int.tmod (wrap64 (-(wrap64 (a0 + 1)))) a1))) else (if a1 = 0 then (none) else (some (Int.tmod a0 a1)))) = some r := h
 clear h
 by_cases c3 : a0 < 0
 ·
  rw [if_pos c3] at H
  have c3b0 : decide (a0 < 0) = true := decide_eq_true c3
  clear c3
  by_cases c4 : a1 = 0
  ·
   rw [if_pos c4] at H
   exact absurd H (by simp)
  ·
   rw [if_neg c4] at H
   have c4b0 : (a1 == 0) = false := beq_eq_false_iff_ne.mpr c4
   have c4b1 : (a1 != 0) = true := bne_iff_ne.mpr c4
   obtain rfl := Option.some.inj H
   go_enter Try.func6, Try.ntmps6
   go_wp2
   go_ret
   exact ⟨by first | rfl | (simp; done) | (simp [*]; done), by repeat (first | exact Drawn0.refl _ | apply Drawn0.step)⟩
 ·
  rw [if_neg c3] at H
  have c3b0 : decide (a0 < 0) = false := decide_eq_false c3
  clear c3
  by_cases c5 : a1 = 0
  ·
   rw [if_pos c5] at H
   exact absurd H (by simp)
  ·
   rw [if_neg c5] at H
   have c5b0 : (a1 == 0) = false := beq_eq_false_iff_ne.mpr c5
   have c5b1 : (a1 != 0) = true := bne_iff_ne.mpr c5
   obtain rfl := Option.some.inj H
   go_enter Try.func6, Try.ntmps6
   go_wp2
   go_ret
   exact ⟨by first | rfl | (simp; done) | (simp [*]; done), by repeat (first | exact Drawn0.refl _ | apply Drawn0.step)⟩
def verniertop_down.f (k : Nat) (a0_0 : Bool) (l0_1 : List Int) (a0_2 : Int) (a1_0 : Bool) (l1_1 : List Int) (a1_2 : Int) : Option (List Int × List Int × Int) := if a0_2 ≥ a1_2 then ((vernierref04_Shl.f k l0_1 (wrap64 (a0_2 - a1_2))).bind fun t321 => (some (t321, l1_1, a1_2))) else ((vernierref04_Shl.f k l1_1 (wrap64 (a1_2 - a0_2))).bind fun t324 => (some (l0_1, t324, a0_2)))
def verniertop_down.T2 : Bool × List (List Nat × List Nat) := (true, [([], []), ([0], [0]), ([], []), ([2], [2]), ([], []), ([4], [4]), ([3, 5], [3, 5]), ([1, 6], [1, 6]), ([], []), ([8], [8]), ([], []), ([10], [10]), ([7, 7, 0, 1, 2, 3, 4, 5, 6, 7], [7]), ([9, 12, 0, 1, 2, 3, 4, 5, 6, 7, 8, 9, 12], [9]), ([11, 13, 0, 1, 2, 3, 4, 5, 6, 7, 8, 9, 10, 11, 12, 13], [11])])
def verniertop_down.B2 : List Nat := [0, 1, 0, 4, 0, 16, 60, 127, 0, 256, 0, 1024, 255, 5119, 16383]
theorem verniertop_down.tab2 : rtab .any (opsOf Try.f17 2) = verniertop_down.T2 := by kernel_rfl
theorem verniertop_down.bits2 : waitsOk verniertop_down.T2.2 verniertop_down.B2 = true := by kernel_rfl
def verniertop_down.T3 : Bool × List (List Nat × List Nat) := (true, [([], []), ([0], [0]), ([], []), ([2], [2]), ([], []), ([4], [4]), ([], []), ([6], [6]), ([5, 7], [5, 7]), ([3, 8], [3, 8]), ([], []), ([10], [10]), ([1, 9, 0, 1], [1]), ([9, 12, 0, 1, 2, 3, 4, 5, 6, 7, 8, 9, 12], [9]), ([11, 13, 0, 1, 2, 3, 4, 5, 6, 7, 8, 9, 10, 11, 12, 13], [11])])
def verniertop_down.B3 : List Nat := [0, 1, 0, 4, 0, 16, 0, 64, 240, 508, 0, 1024, 1023, 5119, 16383]
theorem verniertop_down.tab3 : rtab .any (opsOf Try.f17 3) = verniertop_down.T3 := by kernel_rfl
theorem verniertop_down.bits3 : waitsOk verniertop_down.T3.2 verniertop_down.B3 = true := by kernel_rfl
set_option maxHeartbeats 8000000 in
set_option maxRecDepth 100000 in
theorem verniertop_down.calls (k : Nat) (a0_0 : Bool) (P0_1_ : Nat → Prop) (u9000_ : Value) (l0_1 : List Int) (a0_2 : Int) (a1_0 : Bool) (P1_1_ : Nat → Prop) (u9001_ : Value) (l1_1 : List Int) (a1_2 : Int) (r1 : List Int) (r2 : List Int) (r3 : Int) (w0 w : World) (hB : Below w0.heap.size w0 w) (ho0_1 : Kd.R (Kd.int .i64) 3 w w0.heap.size P0_1_ u9000_ l0_1) (hp0_1_1_1 : ∀ k_, P0_1_ k_ → ¬ P1_1_ k_) (ho1_1 : Kd.R (Kd.int .i64) 3 w w0.heap.size P1_1_ u9001_ l1_1) (hp1_1_0_1 : ∀ k_, P1_1_ k_ → ¬ P0_1_ k_) (h : verniertop_down.f k a0_0 l0_1 a0_2 a1_0 l1_1 a1_2 = some (r1, r2, r3)) :
  Calls Try.prog 17 #[.agg #[.bool a0_0, u9000_, .int .i64 a0_2], .agg #[.bool a1_0, u9001_, .int .i64 a1_2]] w fun e w' => ∃ v0_ v1_ : Value, e = .returned (.tuple #[v0_, v1_, .int .i64 r3]) ∧ Kd.R (Kd.int .i64) 3 w' w0.heap.size (fun k_ => ((P0_1_ k_ ∨ P1_1_ k_) ∨ w.heap.size ≤ k_) ∧ some k_ ≠ (v1_ : Value).ownBlock) v0_ r1 ∧ Kd.R (Kd.int .i64) 3 w' w0.heap.size (fun k_ => ((P0_1_ k_ ∨ P1_1_ k_) ∨ w.heap.size ≤ k_) ∧ some k_ ≠ (v0_ : Value).ownBlock) v1_ r2 ∧ Below w0.heap.size w0 w' ∧ Kept w w' (fun k_ => P0_1_ k_ ∨ P1_1_ k_) := by
 have hu32 := Try.underlying32
 have HO0_1 := Aside0.mk (show Kd.R (Kd.int .i64) 3 w w0.heap.size (fun k_ => ((P0_1_ k_ ∨ P1_1_ k_) ∨ w.heap.size ≤ k_) ∧ some k_ ≠ (u9001_ : Value).ownBlock) u9000_ l0_1 from Kd.R_mono ho0_1 (fun k_ hk => ⟨(.inl (.inl hk)), fun e_ => hp0_1_1_1 k_ hk (ho1_1.1 k_ e_.symm)⟩))
 have HO1_1 := Aside0.mk (show Kd.R (Kd.int .i64) 3 w w0.heap.size (fun k_ => ((P0_1_ k_ ∨ P1_1_ k_) ∨ w.heap.size ≤ k_) ∧ some k_ ≠ (u9000_ : Value).ownBlock) u9001_ l1_1 from Kd.R_mono ho1_1 (fun k_ hk => ⟨(.inl (.inr hk)), fun e_ => hp1_1_0_1 k_ hk (ho0_1.1 k_ e_.symm)⟩))
 have HK := Aside0.mk (Kept.refl w (fun k_ => P0_1_ k_ ∨ P1_1_ k_))
 have HW0 := Aside0.mk hB.size
 have HB := Aside0.mk hB
 clear hB
 have H : (if a0_2 ≥ a1_2 then ((vernierref04_Shl.f k l0_1 (wrap64 (a0_2 - a1_2))).bind fun t321 => (some (t321, l1_1, a1_2))) else ((vernierref04_Shl.f k l1_1 (wrap64 (a1_2 - a0_2))).bind fun t324 => (some (l0_1, t324, a0_2)))) = some (r1, r2, r3) := h
 clear h
 by_cases c3 : a0_2 ≥ a1_2
 ·
  rw [if_pos c3] at H
  have c3b0 : decide (a1_2 ≤ a0_2) = true := decide_eq_true c3
  clear c3
  replace H := Option.bind_eq_some_iff.mp H
  obtain ⟨t321, A40, H⟩ := H
  try dsimp -simprocs only at H
  have A4 := Aside0.mk A40
  clear A40
  simp only [Option.some.injEq, Prod.mk.injEq] at H
  obtain ⟨rfl, rfl, rfl⟩ := H
  obtain ⟨Ao5, co5, eo5⟩ := Kd.R_slice HO0_1.out
  subst eo5
  go_enter Try.func17, Try.ntmps17
  try go_wp2_with (first | ((with_reducible refine gD (N := 2) rfl ?_); refine bE3 2 #[.bool a0_0, .slice Ao5 l0_1.length co5, .int .i64 a0_2] 32 ?hr ?_; (case hr => first | (go_simp; done) | (go_simp; rfl)); intro gb319 hg w6 hbox hb; replace HO0_1 := Aside0.mk (Kd.R_below (by (with_reducible repeat (first | apply Kd.R_alloc | apply Kd.R_drewN | apply Kd.R_drew)); exact HO0_1.out) hb); replace HO1_1 := Aside0.mk (Kd.R_below (by (with_reducible repeat (first | apply Kd.R_alloc | apply Kd.R_drewN | apply Kd.R_drew)); exact HO1_1.out) hb); have BK319 := Aside0.mk (hbox); have GW319 := Aside0.mk ((by rw [hg]; exact (by first | exact HK.out.1 | exact (show Kept w _ (fun k_ => P0_1_ k_ ∨ P1_1_ k_) from by repeat (first | (with_reducible first | exact HK.out | apply Kept.alloc | apply Kept.drewN | apply Kept.drew) | exact HK.out)).1) : w.heap.size ≤ gb319)); replace HK := Aside0.mk (Kept.below (S := (fun k_ => P0_1_ k_ ∨ P1_1_ k_)) (by repeat (first | (with_reducible first | exact HK.out | apply Kept.alloc | apply Kept.drewN | apply Kept.drew) | exact HK.out)) hb); have GE319 := Aside0.mk ((by rw [hg]; exact (bZ (bR3 HB.out)) : w0.heap.size ≤ gb319)); replace HB := Aside0.mk (bS3 HB.out hb); clear hb hbox hg; obtain ⟨Ao7, co7, eo7⟩ := Kd.R_slice HO1_1.out; subst eo7) | ((with_reducible refine gD (N := 3) rfl ?_); refine bE3 3 #[.bool a1_0, .slice Ao7 l1_1.length co7, .int .i64 a1_2] 32 ?hr ?_; (case hr => first | (go_simp; done) | (go_simp; rfl)); intro gb320 hg w8 hbox hb; replace HO0_1 := Aside0.mk (Kd.R_below (by (with_reducible repeat (first | apply Kd.R_alloc | apply Kd.R_drewN | apply Kd.R_drew)); exact HO0_1.out) hb); replace HO1_1 := Aside0.mk (Kd.R_below (by (with_reducible repeat (first | apply Kd.R_alloc | apply Kd.R_drewN | apply Kd.R_drew)); exact HO1_1.out) hb); have BK320 := Aside0.mk (hbox); have GW320 := Aside0.mk ((by rw [hg]; exact (by first | exact HK.out.1 | exact (show Kept w _ (fun k_ => P0_1_ k_ ∨ P1_1_ k_) from by repeat (first | (with_reducible first | exact HK.out | apply Kept.alloc | apply Kept.drewN | apply Kept.drew | refine Kept.setCell ?_ (.inr GW319.out) _) | exact HK.out)).1) : w.heap.size ≤ gb320)); replace HK := Aside0.mk (Kept.below (S := (fun k_ => P0_1_ k_ ∨ P1_1_ k_)) (by repeat (first | (with_reducible first | exact HK.out | apply Kept.alloc | apply Kept.drewN | apply Kept.drew | refine Kept.setCell ?_ (.inr GW319.out) _) | exact HK.out)) hb); have GE320 := Aside0.mk ((by rw [hg]; exact (bZ (bR3 HB.out)) : w0.heap.size ≤ gb320)); replace HB := Aside0.mk (bS3 HB.out hb); have NB319_320 := Aside0.mk ((bL3 hg BK319.out)); have NB320_319 := Aside0.mk ((bG3 hg BK319.out)); replace BK319 := Aside0.mk (bB3 BK319.out hb); clear hb hbox hg; have hnb9 := NB319_320.out; have hnc9 := NB320_319.out; obtain ⟨hcz10_0, hcz10_1, hcz10_2, hfz10_0, hfz10_1, hfz10_2⟩ := cl3 BK319.out; obtain ⟨hcz11_0, hcz11_1, hcz11_2, hfz11_0, hfz11_1, hfz11_2⟩ := cl3 BK320.out))
  have n0_ := Aside0.mk (Kd.R_drew HO0_1.out)
  have n1_ := Aside0.mk (Kd.R_drew HO1_1.out)
  have n2_ := Aside0.mk (bD BK319.out)
  have n3_ := Aside0.mk (bD BK320.out)
  have n4_ := Aside0.mk (Kept.drew HK.out)
  have n5_ := Aside0.mk (p1 HB.out)
  clear HO0_1
  clear HO1_1
  clear BK319
  clear BK320
  clear HK
  clear HB
  have HO0_1 := n0_
  have HO1_1 := n1_
  have BK319 := n2_
  have BK320 := n3_
  have HK := n4_
  have HB := n5_
  clear n0_ n1_ n2_ n3_ n4_ n5_
  refine start_ (n := 15) (S := fun w' => w'.cell? ⟨gb319, 0, none⟩ = some (.bool a0_0) ∧ w'.cell? ⟨gb319, 1, none⟩ = some (.slice Ao5 l0_1.length co5) ∧ w'.cell? ⟨gb319, 2, none⟩ = some (.int .i64 a0_2) ∧ w'.cell? ⟨gb320, 0, none⟩ = some (.bool a1_0) ∧ w'.cell? ⟨gb320, 1, none⟩ = some (.slice Ao7 l1_1.length co7) ∧ w'.cell? ⟨gb320, 2, none⟩ = some (.int .i64 a1_2)) (ds := []) #[false, false, false, false, false, false, false, false, false, false, false, false, false, false, false] (by kernel_rfl) rfl rfl ⟨(blk_cell BK319.out 0).trans rfl, (blk_cell BK319.out 1).trans rfl, (blk_cell BK319.out 2).trans rfl, (blk_cell BK320.out 0).trans rfl, (blk_cell BK320.out 1).trans rfl, (blk_cell BK320.out 2).trans rfl⟩ (fun hHeld => ?_); refine with_tabW verniertop_down.tab2 verniertop_down.bits2 (fun HT_ HW_ => ?_)
  generalize w8.drew = w12 at HO0_1 HO1_1 BK319 BK320 HK HB hHeld ⊢
  refine pure_ (i := 0) (N := some 12) (v := ?_) (a' := ?_) #[true, false, false, false, false, false, false, false, false, false, false, false, false, false, false] rfl rfl (any_of HT_.out (by kernel_rfl)) (fun _ _ _ h => h) (Or.inl ⟨by rfl, ?_⟩) ?_ ?_
  rotate_left
  ·
   intro w'
   go_simp
   with_reducible rfl
  rotate_left
  ·
   simp only [Act.put, lS_, lZ_, lC_, i64_w, i32_w]
   rfl
  refine pure_ (i := 2) (N := some 14) (v := ?_) (a' := ?_) #[true, false, true, false, false, false, false, false, false, false, false, false, false, false, false] rfl rfl (any_of HT_.out (by kernel_rfl)) (fun _ _ _ h => h) (Or.inl ⟨by rfl, ?_⟩) ?_ ?_
  rotate_left
  ·
   intro w'
   go_simp
   with_reducible rfl
  rotate_left
  ·
   simp only [Act.put, lS_, lZ_, lC_, i64_w, i32_w]
   rfl
  refine pure_ (i := 4) (N := some 16) (v := ?_) (a' := ?_) #[true, false, true, false, true, false, false, false, false, false, false, false, false, false, false] rfl rfl (any_of HT_.out (by kernel_rfl)) (fun _ _ _ h => h) (Or.inl ⟨by rfl, ?_⟩) ?_ ?_
  rotate_left
  ·
   intro w'
   go_simp
   with_reducible rfl
  rotate_left
  ·
   simp only [Act.put, lS_, lZ_, lC_, i64_w, i32_w]
   rfl
  refine pure_ (i := 8) (N := some 20) (v := ?_) (a' := ?_) #[true, false, true, false, true, false, false, false, true, false, false, false, false, false, false] rfl rfl (any_of HT_.out (by kernel_rfl)) (fun _ _ _ h => h) (Or.inl ⟨by rfl, ?_⟩) ?_ ?_
  rotate_left
  ·
   intro w'
   go_simp
   with_reducible rfl
  rotate_left
  ·
   simp only [Act.put, lS_, lZ_, lC_, i64_w, i32_w]
   rfl
  refine pure_ (i := 10) (N := some 22) (v := ?_) (a' := ?_) #[true, false, true, false, true, false, false, false, true, false, true, false, false, false, false] rfl rfl (any_of HT_.out (by kernel_rfl)) (fun _ _ _ h => h) (Or.inl ⟨by rfl, ?_⟩) ?_ ?_
  rotate_left
  ·
   intro w'
   go_simp
   with_reducible rfl
  rotate_left
  ·
   simp only [Act.put, lS_, lZ_, lC_, i64_w, i32_w]
   rfl
  refine take_ (i := 1) (N := some 13) (v := ?_) (a' := ?_) #[true, true, true, false, true, false, false, false, true, false, true, false, false, false, false] rfl rfl (take_ofW HT_.out HW_.out (by kernel_rfl)) (fun _ _ _ h => h) (Or.inl ⟨by rfl, ?_⟩) hHeld ?_ ?_
  rotate_left
  ·
   rintro w' ⟨s0, s1, s2, s3, s4, s5⟩
   go_simp
   with_reducible rfl
  rotate_left
  ·
   simp only [Act.put, lS_, lZ_, lC_, i64_w, i32_w]
   rfl
  refine take_ (i := 3) (N := some 15) (v := ?_) (a' := ?_) #[true, true, true, true, true, false, false, false, true, false, true, false, false, false, false] rfl rfl (take_ofW HT_.out HW_.out (by kernel_rfl)) (fun _ _ _ h => h) (Or.inl ⟨by rfl, ?_⟩) hHeld ?_ ?_
  rotate_left
  ·
   rintro w' ⟨s0, s1, s2, s3, s4, s5⟩
   go_simp
   with_reducible rfl
  rotate_left
  ·
   simp only [Act.put, lS_, lZ_, lC_, i64_w, i32_w]
   rfl
  refine take_ (i := 5) (N := some 17) (v := ?_) (a' := ?_) #[true, true, true, true, true, true, false, false, true, false, true, false, false, false, false] rfl rfl (take_ofW HT_.out HW_.out (by kernel_rfl)) (fun _ _ _ h => h) (Or.inl ⟨by rfl, ?_⟩) hHeld ?_ ?_
  rotate_left
  ·
   rintro w' ⟨s0, s1, s2, s3, s4, s5⟩
   go_simp
   with_reducible rfl
  rotate_left
  ·
   simp only [Act.put, lS_, lZ_, lC_, i64_w, i32_w]
   rfl
  refine pure_ (i := 6) (N := some 18) (v := ?_) (a' := ?_) #[true, true, true, true, true, true, true, false, true, false, true, false, false, false, false] rfl rfl (any_of HT_.out (by kernel_rfl)) (fun _ _ _ h => h) (Or.inl ⟨by rfl, ?_⟩) ?_ ?_
  rotate_left
  ·
   intro w'
   go_simp
   with_reducible rfl
  rotate_left
  ·
   simp only [Act.put, lS_, lZ_, lC_, i64_w, i32_w]
   rfl
  refine take_ (i := 9) (N := some 21) (v := ?_) (a' := ?_) #[true, true, true, true, true, true, true, false, true, true, true, false, false, false, false] rfl rfl (take_ofW HT_.out HW_.out (by kernel_rfl)) (fun _ _ _ h => h) (Or.inl ⟨by rfl, ?_⟩) hHeld ?_ ?_
  rotate_left
  ·
   rintro w' ⟨s0, s1, s2, s3, s4, s5⟩
   go_simp
   with_reducible rfl
  rotate_left
  ·
   simp only [Act.put, lS_, lZ_, lC_, i64_w, i32_w]
   rfl
  refine take_ (i := 11) (N := some 23) (v := ?_) (a' := ?_) #[true, true, true, true, true, true, true, false, true, true, true, true, false, false, false] rfl rfl (take_ofW HT_.out HW_.out (by kernel_rfl)) (fun _ _ _ h => h) (Or.inl ⟨by rfl, ?_⟩) hHeld ?_ ?_
  rotate_left
  ·
   rintro w' ⟨s0, s1, s2, s3, s4, s5⟩
   go_simp
   with_reducible rfl
  rotate_left
  ·
   simp only [Act.put, lS_, lZ_, lC_, i64_w, i32_w]
   rfl
  refine one_ (i := 7) (N := some 19) #[true, true, true, true, true, true, true, true, true, true, true, true, false, false, false] rfl rfl (one_of HT_.out (by kernel_rfl)) (by decide) (fun K hK => ?_)
  refine goes_ Try.func41 (by kernel_rfl) rfl #[.slice Ao5 l0_1.length co5, .int .i64 (wrap64 (a0_2 - a1_2))] (by rfl) rfl rfl (by (try simp only [List.map_toArray, List.map_cons, List.map_nil]); first | done | rfl | (simp only [List.length_drop, List.length_take]; rfl)) ?_
  with_reducible refine (vernierref04_Shl.calls k _ _ l0_1 (wrap64 (a0_2 - a1_2)) t321 _ ?side1 ?side2 A4.out).mono ?_
  (case side1 => repeat (first | exact (Kd.R_reads' HO0_1.out).2.2 | (with_reducible refine Kd.C_alloc ?_ _) | (with_reducible refine Kd.C_drewN ?_ _) | (with_reducible refine Kd.C_drew ?_)))
  (case side2 => exact (Kd.R_reads' HO0_1.out).2.1)
  rintro e w13 ⟨v322, rfl, ho0, hb⟩
  refine ⟨_, rfl, ?_⟩
  have n0_ := Aside0.mk (Kd.R_elder' (by (with_reducible repeat (first | apply Kd.R_alloc | apply Kd.R_drewN | apply Kd.R_drew)); exact HO0_1.out) (Kd.R_base ho0) hb)
  have n1_ := Aside0.mk (Kd.R_elder' (by (with_reducible repeat (first | apply Kd.R_alloc | apply Kd.R_drewN | apply Kd.R_drew)); exact HO1_1.out) (Kd.R_base ho0) hb)
  have n2_ := Aside0.mk (Kd.R_lower (Kd.R_new' (Kd.R_new' (Kd.R_newM (M := fun k_ => ((P0_1_ k_ ∨ P1_1_ k_) ∨ w.heap.size ≤ k_)) ho0 (by first | exact HK.out.1 | exact (show Kept w _ (fun k_ => P0_1_ k_ ∨ P1_1_ k_) from by repeat (first | (with_reducible first | exact HK.out | apply Kept.alloc | apply Kept.drewN | apply Kept.drew | refine Kept.setCell ?_ (.inr GW319.out) _ | refine Kept.setCell ?_ (.inr GW320.out) _) | exact HK.out)).1) (fun k_ h_ => .inr h_)) (Kd.R_lt (by (with_reducible repeat (first | apply Kd.R_alloc | apply Kd.R_drewN | apply Kd.R_drew)); exact HO0_1.out))) (Kd.R_lt (by (with_reducible repeat (first | apply Kd.R_alloc | apply Kd.R_drewN | apply Kd.R_drew)); exact HO1_1.out))) (bZ (bR3 HB.out)))
  have n3_ := Aside0.mk (bB3 BK319.out hb)
  have n4_ := Aside0.mk (bB3 BK320.out hb)
  have n5_ := Aside0.mk (Kept.below (S := (fun k_ => P0_1_ k_ ∨ P1_1_ k_)) (by repeat (first | (with_reducible first | exact HK.out | apply Kept.alloc | apply Kept.drewN | apply Kept.drew | refine Kept.setCell ?_ (.inr GW319.out) _ | refine Kept.setCell ?_ (.inr GW320.out) _) | exact HK.out)) hb)
  have n6_ := Aside0.mk (bS3 HB.out hb)
  clear HO0_1
  clear HO1_1
  clear BK319
  clear BK320
  clear HK
  clear HB
  have HO0_1 := n0_
  have HO1_1 := n1_
  have HO323 := n2_
  have BK319 := n3_
  have BK320 := n4_
  have HK := n5_
  have HB := n6_
  clear n0_ n1_ n2_ n3_ n4_ n5_ n6_
  (try clear hb)
  (try clear hb2)
  (try clear hk)
  (try clear hi)
  (try clear ho0)
  refine hK.out _ _ ⟨(blk_cell BK319.out 0).trans rfl, (blk_cell BK319.out 1).trans rfl, (blk_cell BK319.out 2).trans rfl, (blk_cell BK320.out 0).trans rfl, (blk_cell BK320.out 1).trans rfl, (blk_cell BK320.out 2).trans rfl⟩ (fun hHeld => ?_)
  clear hK K
  refine norm_ (a' := ?_) ?_ ?_
  rotate_left
  ·
   show Act.put _ (some 19) _ = _
   simp only [Act.put, lS_, lZ_, lC_, i64_w, i32_w]
   rfl
  refine pure_ (i := 12) (N := some 4) (v := ?_) (a' := ?_) #[true, true, true, true, true, true, true, true, true, true, true, true, true, false, false] rfl rfl (any_of HT_.out (by kernel_rfl)) (fun _ _ _ h => h) (Or.inl ⟨by rfl, ?_⟩) ?_ ?_
  rotate_left
  ·
   intro w'
   go_simp
   with_reducible rfl
  rotate_left
  ·
   simp only [Act.put, lS_, lZ_, lC_, i64_w, i32_w]
   rfl
  refine pure_ (i := 13) (N := some 5) (v := ?_) (a' := ?_) #[true, true, true, true, true, true, true, true, true, true, true, true, true, true, false] rfl rfl (any_of HT_.out (by kernel_rfl)) (fun _ _ _ h => h) (Or.inl ⟨by rfl, ?_⟩) ?_ ?_
  rotate_left
  ·
   intro w'
   go_simp
   with_reducible rfl
  rotate_left
  ·
   simp only [Act.put, lS_, lZ_, lC_, i64_w, i32_w]
   rfl
  refine pure_ (i := 14) (N := some 6) (v := ?_) (a' := ?_) #[true, true, true, true, true, true, true, true, true, true, true, true, true, true, true] rfl rfl (any_of HT_.out (by kernel_rfl)) (fun _ _ _ h => h) (Or.inl ⟨by rfl, ?_⟩) ?_ ?_
  rotate_left
  ·
   intro w'
   go_simp
   with_reducible rfl
  rotate_left
  ·
   simp only [Act.put, lS_, lZ_, lC_, i64_w, i32_w]
   rfl
  refine done_ (done_of HT_.out (by kernel_rfl)) ?_
  try go_wp2
  go_ret3
  exact ⟨_, _, eR3, by (with_reducible repeat (first | apply Kd.R_alloc | apply Kd.R_drewN | apply Kd.R_drew)); exact Kd.R_mono HO323.out (fun _ hk => ⟨hk.1.1.1, hk.2⟩), by (with_reducible repeat (first | apply Kd.R_alloc | apply Kd.R_drewN | apply Kd.R_drew)); exact Kd.R_mono HO1_1.out (fun _ hk => ⟨hk.1.1, hk.2⟩), bR3 HB.out, by repeat (first | (with_reducible first | exact HK.out | apply Kept.alloc | apply Kept.drewN | apply Kept.drew | refine Kept.setCell ?_ (.inr GW319.out) _ | refine Kept.setCell ?_ (.inr GW320.out) _) | exact HK.out)⟩
 ·
  rw [if_neg c3] at H
  have c3b0 : decide (a1_2 ≤ a0_2) = false := decide_eq_false c3
  clear c3
  replace H := Option.bind_eq_some_iff.mp H
  obtain ⟨t324, A140, H⟩ := H
  try dsimp -simprocs only at H
  have A14 := Aside0.mk A140
  clear A140
  simp only [Option.some.injEq, Prod.mk.injEq] at H
  obtain ⟨rfl, rfl, rfl⟩ := H
  obtain ⟨Ao15, co15, eo15⟩ := Kd.R_slice HO0_1.out
  subst eo15
  go_enter Try.func17, Try.ntmps17
  try go_wp2_with (first | ((with_reducible refine gD (N := 2) rfl ?_); refine bE3 2 #[.bool a0_0, .slice Ao15 l0_1.length co15, .int .i64 a0_2] 32 ?hr ?_; (case hr => first | (go_simp; done) | (go_simp; rfl)); intro gb319 hg w16 hbox hb; replace HO0_1 := Aside0.mk (Kd.R_below (by (with_reducible repeat (first | apply Kd.R_alloc | apply Kd.R_drewN | apply Kd.R_drew)); exact HO0_1.out) hb); replace HO1_1 := Aside0.mk (Kd.R_below (by (with_reducible repeat (first | apply Kd.R_alloc | apply Kd.R_drewN | apply Kd.R_drew)); exact HO1_1.out) hb); have BK319 := Aside0.mk (hbox); have GW319 := Aside0.mk ((by rw [hg]; exact (by first | exact HK.out.1 | exact (show Kept w _ (fun k_ => P0_1_ k_ ∨ P1_1_ k_) from by repeat (first | (with_reducible first | exact HK.out | apply Kept.alloc | apply Kept.drewN | apply Kept.drew) | exact HK.out)).1) : w.heap.size ≤ gb319)); replace HK := Aside0.mk (Kept.below (S := (fun k_ => P0_1_ k_ ∨ P1_1_ k_)) (by repeat (first | (with_reducible first | exact HK.out | apply Kept.alloc | apply Kept.drewN | apply Kept.drew) | exact HK.out)) hb); have GE319 := Aside0.mk ((by rw [hg]; exact (bZ (bR3 HB.out)) : w0.heap.size ≤ gb319)); replace HB := Aside0.mk (bS3 HB.out hb); clear hb hbox hg; obtain ⟨Ao17, co17, eo17⟩ := Kd.R_slice HO1_1.out; subst eo17) | ((with_reducible refine gD (N := 3) rfl ?_); refine bE3 3 #[.bool a1_0, .slice Ao17 l1_1.length co17, .int .i64 a1_2] 32 ?hr ?_; (case hr => first | (go_simp; done) | (go_simp; rfl)); intro gb320 hg w18 hbox hb; replace HO0_1 := Aside0.mk (Kd.R_below (by (with_reducible repeat (first | apply Kd.R_alloc | apply Kd.R_drewN | apply Kd.R_drew)); exact HO0_1.out) hb); replace HO1_1 := Aside0.mk (Kd.R_below (by (with_reducible repeat (first | apply Kd.R_alloc | apply Kd.R_drewN | apply Kd.R_drew)); exact HO1_1.out) hb); have BK320 := Aside0.mk (hbox); have GW320 := Aside0.mk ((by rw [hg]; exact (by first | exact HK.out.1 | exact (show Kept w _ (fun k_ => P0_1_ k_ ∨ P1_1_ k_) from by repeat (first | (with_reducible first | exact HK.out | apply Kept.alloc | apply Kept.drewN | apply Kept.drew | refine Kept.setCell ?_ (.inr GW319.out) _) | exact HK.out)).1) : w.heap.size ≤ gb320)); replace HK := Aside0.mk (Kept.below (S := (fun k_ => P0_1_ k_ ∨ P1_1_ k_)) (by repeat (first | (with_reducible first | exact HK.out | apply Kept.alloc | apply Kept.drewN | apply Kept.drew | refine Kept.setCell ?_ (.inr GW319.out) _) | exact HK.out)) hb); have GE320 := Aside0.mk ((by rw [hg]; exact (bZ (bR3 HB.out)) : w0.heap.size ≤ gb320)); replace HB := Aside0.mk (bS3 HB.out hb); have NB319_320 := Aside0.mk ((bL3 hg BK319.out)); have NB320_319 := Aside0.mk ((bG3 hg BK319.out)); replace BK319 := Aside0.mk (bB3 BK319.out hb); clear hb hbox hg; have hnb19 := NB319_320.out; have hnc19 := NB320_319.out; obtain ⟨hcz20_0, hcz20_1, hcz20_2, hfz20_0, hfz20_1, hfz20_2⟩ := cl3 BK319.out; obtain ⟨hcz21_0, hcz21_1, hcz21_2, hfz21_0, hfz21_1, hfz21_2⟩ := cl3 BK320.out))
  have n0_ := Aside0.mk (Kd.R_drew HO0_1.out)
  have n1_ := Aside0.mk (Kd.R_drew HO1_1.out)
  have n2_ := Aside0.mk (bD BK319.out)
  have n3_ := Aside0.mk (bD BK320.out)
  have n4_ := Aside0.mk (Kept.drew HK.out)
  have n5_ := Aside0.mk (p1 HB.out)
  clear HO0_1
  clear HO1_1
  clear BK319
  clear BK320
  clear HK
  clear HB
  have HO0_1 := n0_
  have HO1_1 := n1_
  have BK319 := n2_
  have BK320 := n3_
  have HK := n4_
  have HB := n5_
  clear n0_ n1_ n2_ n3_ n4_ n5_
  refine start_ (n := 15) (S := fun w' => w'.cell? ⟨gb319, 0, none⟩ = some (.bool a0_0) ∧ w'.cell? ⟨gb319, 1, none⟩ = some (.slice Ao15 l0_1.length co15) ∧ w'.cell? ⟨gb319, 2, none⟩ = some (.int .i64 a0_2) ∧ w'.cell? ⟨gb320, 0, none⟩ = some (.bool a1_0) ∧ w'.cell? ⟨gb320, 1, none⟩ = some (.slice Ao17 l1_1.length co17) ∧ w'.cell? ⟨gb320, 2, none⟩ = some (.int .i64 a1_2)) (ds := []) #[false, false, false, false, false, false, false, false, false, false, false, false, false, false, false] (by kernel_rfl) rfl rfl ⟨(blk_cell BK319.out 0).trans rfl, (blk_cell BK319.out 1).trans rfl, (blk_cell BK319.out 2).trans rfl, (blk_cell BK320.out 0).trans rfl, (blk_cell BK320.out 1).trans rfl, (blk_cell BK320.out 2).trans rfl⟩ (fun hHeld => ?_); refine with_tabW verniertop_down.tab3 verniertop_down.bits3 (fun HT_ HW_ => ?_)
  generalize w18.drew = w22 at HO0_1 HO1_1 BK319 BK320 HK HB hHeld ⊢
  refine pure_ (i := 0) (N := some 24) (v := ?_) (a' := ?_) #[true, false, false, false, false, false, false, false, false, false, false, false, false, false, false] rfl rfl (any_of HT_.out (by kernel_rfl)) (fun _ _ _ h => h) (Or.inl ⟨by rfl, ?_⟩) ?_ ?_
  rotate_left
  ·
   intro w'
   go_simp
   with_reducible rfl
  rotate_left
  ·
   simp only [Act.put, lS_, lZ_, lC_, i64_w, i32_w]
   rfl
  refine pure_ (i := 2) (N := some 26) (v := ?_) (a' := ?_) #[true, false, true, false, false, false, false, false, false, false, false, false, false, false, false] rfl rfl (any_of HT_.out (by kernel_rfl)) (fun _ _ _ h => h) (Or.inl ⟨by rfl, ?_⟩) ?_ ?_
  rotate_left
  ·
   intro w'
   go_simp
   with_reducible rfl
  rotate_left
  ·
   simp only [Act.put, lS_, lZ_, lC_, i64_w, i32_w]
   rfl
  refine pure_ (i := 4) (N := some 28) (v := ?_) (a' := ?_) #[true, false, true, false, true, false, false, false, false, false, false, false, false, false, false] rfl rfl (any_of HT_.out (by kernel_rfl)) (fun _ _ _ h => h) (Or.inl ⟨by rfl, ?_⟩) ?_ ?_
  rotate_left
  ·
   intro w'
   go_simp
   with_reducible rfl
  rotate_left
  ·
   simp only [Act.put, lS_, lZ_, lC_, i64_w, i32_w]
   rfl
  refine pure_ (i := 6) (N := some 30) (v := ?_) (a' := ?_) #[true, false, true, false, true, false, true, false, false, false, false, false, false, false, false] rfl rfl (any_of HT_.out (by kernel_rfl)) (fun _ _ _ h => h) (Or.inl ⟨by rfl, ?_⟩) ?_ ?_
  rotate_left
  ·
   intro w'
   go_simp
   with_reducible rfl
  rotate_left
  ·
   simp only [Act.put, lS_, lZ_, lC_, i64_w, i32_w]
   rfl
  refine pure_ (i := 10) (N := some 34) (v := ?_) (a' := ?_) #[true, false, true, false, true, false, true, false, false, false, true, false, false, false, false] rfl rfl (any_of HT_.out (by kernel_rfl)) (fun _ _ _ h => h) (Or.inl ⟨by rfl, ?_⟩) ?_ ?_
  rotate_left
  ·
   intro w'
   go_simp
   with_reducible rfl
  rotate_left
  ·
   simp only [Act.put, lS_, lZ_, lC_, i64_w, i32_w]
   rfl
  refine take_ (i := 1) (N := some 25) (v := ?_) (a' := ?_) #[true, true, true, false, true, false, true, false, false, false, true, false, false, false, false] rfl rfl (take_ofW HT_.out HW_.out (by kernel_rfl)) (fun _ _ _ h => h) (Or.inl ⟨by rfl, ?_⟩) hHeld ?_ ?_
  rotate_left
  ·
   rintro w' ⟨s0, s1, s2, s3, s4, s5⟩
   go_simp
   with_reducible rfl
  rotate_left
  ·
   simp only [Act.put, lS_, lZ_, lC_, i64_w, i32_w]
   rfl
  refine take_ (i := 3) (N := some 27) (v := ?_) (a' := ?_) #[true, true, true, true, true, false, true, false, false, false, true, false, false, false, false] rfl rfl (take_ofW HT_.out HW_.out (by kernel_rfl)) (fun _ _ _ h => h) (Or.inl ⟨by rfl, ?_⟩) hHeld ?_ ?_
  rotate_left
  ·
   rintro w' ⟨s0, s1, s2, s3, s4, s5⟩
   go_simp
   with_reducible rfl
  rotate_left
  ·
   simp only [Act.put, lS_, lZ_, lC_, i64_w, i32_w]
   rfl
  refine take_ (i := 5) (N := some 29) (v := ?_) (a' := ?_) #[true, true, true, true, true, true, true, false, false, false, true, false, false, false, false] rfl rfl (take_ofW HT_.out HW_.out (by kernel_rfl)) (fun _ _ _ h => h) (Or.inl ⟨by rfl, ?_⟩) hHeld ?_ ?_
  rotate_left
  ·
   rintro w' ⟨s0, s1, s2, s3, s4, s5⟩
   go_simp
   with_reducible rfl
  rotate_left
  ·
   simp only [Act.put, lS_, lZ_, lC_, i64_w, i32_w]
   rfl
  refine take_ (i := 7) (N := some 31) (v := ?_) (a' := ?_) #[true, true, true, true, true, true, true, true, false, false, true, false, false, false, false] rfl rfl (take_ofW HT_.out HW_.out (by kernel_rfl)) (fun _ _ _ h => h) (Or.inl ⟨by rfl, ?_⟩) hHeld ?_ ?_
  rotate_left
  ·
   rintro w' ⟨s0, s1, s2, s3, s4, s5⟩
   go_simp
   with_reducible rfl
  rotate_left
  ·
   simp only [Act.put, lS_, lZ_, lC_, i64_w, i32_w]
   rfl
  refine pure_ (i := 8) (N := some 32) (v := ?_) (a' := ?_) #[true, true, true, true, true, true, true, true, true, false, true, false, false, false, false] rfl rfl (any_of HT_.out (by kernel_rfl)) (fun _ _ _ h => h) (Or.inl ⟨by rfl, ?_⟩) ?_ ?_
  rotate_left
  ·
   intro w'
   go_simp
   with_reducible rfl
  rotate_left
  ·
   simp only [Act.put, lS_, lZ_, lC_, i64_w, i32_w]
   rfl
  refine take_ (i := 11) (N := some 35) (v := ?_) (a' := ?_) #[true, true, true, true, true, true, true, true, true, false, true, true, false, false, false] rfl rfl (take_ofW HT_.out HW_.out (by kernel_rfl)) (fun _ _ _ h => h) (Or.inl ⟨by rfl, ?_⟩) hHeld ?_ ?_
  rotate_left
  ·
   rintro w' ⟨s0, s1, s2, s3, s4, s5⟩
   go_simp
   with_reducible rfl
  rotate_left
  ·
   simp only [Act.put, lS_, lZ_, lC_, i64_w, i32_w]
   rfl
  refine one_ (i := 9) (N := some 33) #[true, true, true, true, true, true, true, true, true, true, true, true, false, false, false] rfl rfl (one_of HT_.out (by kernel_rfl)) (by decide) (fun K hK => ?_)
  refine goes_ Try.func41 (by kernel_rfl) rfl #[.slice Ao17 l1_1.length co17, .int .i64 (wrap64 (a1_2 - a0_2))] (by rfl) rfl rfl (by (try simp only [List.map_toArray, List.map_cons, List.map_nil]); first | done | rfl | (simp only [List.length_drop, List.length_take]; rfl)) ?_
  with_reducible refine (vernierref04_Shl.calls k _ _ l1_1 (wrap64 (a1_2 - a0_2)) t324 _ ?side1 ?side2 A14.out).mono ?_
  (case side1 => repeat (first | exact (Kd.R_reads' HO1_1.out).2.2 | (with_reducible refine Kd.C_alloc ?_ _) | (with_reducible refine Kd.C_drewN ?_ _) | (with_reducible refine Kd.C_drew ?_)))
  (case side2 => exact (Kd.R_reads' HO1_1.out).2.1)
  rintro e w23 ⟨v325, rfl, ho0, hb⟩
  refine ⟨_, rfl, ?_⟩
  have n0_ := Aside0.mk (Kd.R_elder' (by (with_reducible repeat (first | apply Kd.R_alloc | apply Kd.R_drewN | apply Kd.R_drew)); exact HO0_1.out) (Kd.R_base ho0) hb)
  have n1_ := Aside0.mk (Kd.R_elder' (by (with_reducible repeat (first | apply Kd.R_alloc | apply Kd.R_drewN | apply Kd.R_drew)); exact HO1_1.out) (Kd.R_base ho0) hb)
  have n2_ := Aside0.mk (Kd.R_lower (Kd.R_new' (Kd.R_new' (Kd.R_newM (M := fun k_ => ((P0_1_ k_ ∨ P1_1_ k_) ∨ w.heap.size ≤ k_)) ho0 (by first | exact HK.out.1 | exact (show Kept w _ (fun k_ => P0_1_ k_ ∨ P1_1_ k_) from by repeat (first | (with_reducible first | exact HK.out | apply Kept.alloc | apply Kept.drewN | apply Kept.drew | refine Kept.setCell ?_ (.inr GW319.out) _ | refine Kept.setCell ?_ (.inr GW320.out) _) | exact HK.out)).1) (fun k_ h_ => .inr h_)) (Kd.R_lt (by (with_reducible repeat (first | apply Kd.R_alloc | apply Kd.R_drewN | apply Kd.R_drew)); exact HO0_1.out))) (Kd.R_lt (by (with_reducible repeat (first | apply Kd.R_alloc | apply Kd.R_drewN | apply Kd.R_drew)); exact HO1_1.out))) (bZ (bR3 HB.out)))
  have n3_ := Aside0.mk (bB3 BK319.out hb)
  have n4_ := Aside0.mk (bB3 BK320.out hb)
  have n5_ := Aside0.mk (Kept.below (S := (fun k_ => P0_1_ k_ ∨ P1_1_ k_)) (by repeat (first | (with_reducible first | exact HK.out | apply Kept.alloc | apply Kept.drewN | apply Kept.drew | refine Kept.setCell ?_ (.inr GW319.out) _ | refine Kept.setCell ?_ (.inr GW320.out) _) | exact HK.out)) hb)
  have n6_ := Aside0.mk (bS3 HB.out hb)
  clear HO0_1
  clear HO1_1
  clear BK319
  clear BK320
  clear HK
  clear HB
  have HO0_1 := n0_
  have HO1_1 := n1_
  have HO326 := n2_
  have BK319 := n3_
  have BK320 := n4_
  have HK := n5_
  have HB := n6_
  clear n0_ n1_ n2_ n3_ n4_ n5_ n6_
  (try clear hb)
  (try clear hb2)
  (try clear hk)
  (try clear hi)
  (try clear ho0)
  refine hK.out _ _ ⟨(blk_cell BK319.out 0).trans rfl, (blk_cell BK319.out 1).trans rfl, (blk_cell BK319.out 2).trans rfl, (blk_cell BK320.out 0).trans rfl, (blk_cell BK320.out 1).trans rfl, (blk_cell BK320.out 2).trans rfl⟩ (fun hHeld => ?_)
  clear hK K
  refine norm_ (a' := ?_) ?_ ?_
  rotate_left
  ·
   show Act.put _ (some 33) _ = _
   simp only [Act.put, lS_, lZ_, lC_, i64_w, i32_w]
   rfl
  refine pure_ (i := 12) (N := some 4) (v := ?_) (a' := ?_) #[true, true, true, true, true, true, true, true, true, true, true, true, true, false, false] rfl rfl (any_of HT_.out (by kernel_rfl)) (fun _ _ _ h => h) (Or.inl ⟨by rfl, ?_⟩) ?_ ?_
  rotate_left
  ·
   intro w'
   go_simp
   with_reducible rfl
  rotate_left
  ·
   simp only [Act.put, lS_, lZ_, lC_, i64_w, i32_w]
   rfl
  refine pure_ (i := 13) (N := some 5) (v := ?_) (a' := ?_) #[true, true, true, true, true, true, true, true, true, true, true, true, true, true, false] rfl rfl (any_of HT_.out (by kernel_rfl)) (fun _ _ _ h => h) (Or.inl ⟨by rfl, ?_⟩) ?_ ?_
  rotate_left
  ·
   intro w'
   go_simp
   with_reducible rfl
  rotate_left
  ·
   simp only [Act.put, lS_, lZ_, lC_, i64_w, i32_w]
   rfl
  refine pure_ (i := 14) (N := some 6) (v := ?_) (a' := ?_) #[true, true, true, true, true, true, true, true, true, true, true, true, true, true, true] rfl rfl (any_of HT_.out (by kernel_rfl)) (fun _ _ _ h => h) (Or.inl ⟨by rfl, ?_⟩) ?_ ?_
  rotate_left
  ·
   intro w'
   go_simp
   with_reducible rfl
  rotate_left
  ·
   simp only [Act.put, lS_, lZ_, lC_, i64_w, i32_w]
   rfl
  refine done_ (done_of HT_.out (by kernel_rfl)) ?_
  try go_wp2
  go_ret3
  exact ⟨_, _, eR3, by (with_reducible repeat (first | apply Kd.R_alloc | apply Kd.R_drewN | apply Kd.R_drew)); exact Kd.R_mono HO0_1.out (fun _ hk => ⟨hk.1.1, hk.2⟩), by (with_reducible repeat (first | apply Kd.R_alloc | apply Kd.R_drewN | apply Kd.R_drew)); exact Kd.R_mono HO326.out (fun _ hk => ⟨hk.1.1.1, hk.1.2⟩), bR3 HB.out, by repeat (first | (with_reducible first | exact HK.out | apply Kept.alloc | apply Kept.drewN | apply Kept.drew | refine Kept.setCell ?_ (.inr GW319.out) _ | refine Kept.setCell ?_ (.inr GW320.out) _) | exact HK.out)⟩
def verniertop_plus.f (k : Nat) (a0_0 : Bool) (l0_1 : List Int) (a0_2 : Int) (a1_0 : Bool) (l1_1 : List Int) (a1_2 : Int) : Option (Bool × List Int × Int) := (verniertop_down.f k a0_0 l0_1 a0_2 a1_0 l1_1 a1_2).bind fun bt357 => (if (a0_0 == a1_0) = true then ((vernierref04_Add.f k bt357.1 bt357.2.1).bind fun t364 => (some (a0_0, t364, bt357.2.2))) else ((vernierref04_Cmp.f k bt357.1 bt357.2.1).bind fun t367 => (if t367 ≥ 0 then ((vernierref04_Sub.f k bt357.1 bt357.2.1).bind fun t368 => (some (a0_0, t368, bt357.2.2))) else ((vernierref04_Sub.f k bt357.2.1 bt357.1).bind fun t371 => (some (a1_0, t371, bt357.2.2))))))
def verniertop_plus.T3 : Bool × List (List Nat × List Nat) := (true, [([], []), ([0], [0]), ([], []), ([], []), ([2, 3], [2, 3]), ([], []), ([1, 4, 5], [1, 4, 5]), ([6, 4, 0, 1, 2, 3, 4, 5, 6], [6])])
def verniertop_plus.B3 : List Nat := [0, 1, 0, 0, 12, 0, 63, 127]
theorem verniertop_plus.tab3 : rtab .any (opsOf Try.f8 3) = verniertop_plus.T3 := by kernel_rfl
theorem verniertop_plus.bits3 : waitsOk verniertop_plus.T3.2 verniertop_plus.B3 = true := by kernel_rfl
def verniertop_plus.T5 : Bool × List (List Nat × List Nat) := (true, [([], []), ([0], [0]), ([], []), ([], []), ([2, 3], [2, 3]), ([], []), ([1, 4, 5], [1, 4, 5]), ([6, 4, 0, 1, 2, 3, 4, 5, 6], [6])])
def verniertop_plus.B5 : List Nat := [0, 1, 0, 0, 12, 0, 63, 127]
theorem verniertop_plus.tab5 : rtab .any (opsOf Try.f8 5) = verniertop_plus.T5 := by kernel_rfl
theorem verniertop_plus.bits5 : waitsOk verniertop_plus.T5.2 verniertop_plus.B5 = true := by kernel_rfl
def verniertop_plus.T6 : Bool × List (List Nat × List Nat) := (true, [([], []), ([0], [0]), ([], []), ([], []), ([2, 3], [2, 3]), ([], []), ([1, 4, 5], [1, 4, 5]), ([6, 4, 0, 1, 2, 3, 4, 5, 6], [6])])
def verniertop_plus.B6 : List Nat := [0, 1, 0, 0, 12, 0, 63, 127]
theorem verniertop_plus.tab6 : rtab .any (opsOf Try.f8 6) = verniertop_plus.T6 := by kernel_rfl
theorem verniertop_plus.bits6 : waitsOk verniertop_plus.T6.2 verniertop_plus.B6 = true := by kernel_rfl
set_option maxHeartbeats 8000000 in
set_option maxRecDepth 100000 in
theorem verniertop_plus.calls (k : Nat) (a0_0 : Bool) (P0_1_ : Nat → Prop) (u9000_ : Value) (l0_1 : List Int) (a0_2 : Int) (a1_0 : Bool) (P1_1_ : Nat → Prop) (u9001_ : Value) (l1_1 : List Int) (a1_2 : Int) (r1 : Bool) (r2 : List Int) (r3 : Int) (w0 w : World) (hB : Below w0.heap.size w0 w) (ho0_1 : Kd.R (Kd.int .i64) 3 w w0.heap.size P0_1_ u9000_ l0_1) (hp0_1_1_1 : ∀ k_, P0_1_ k_ → ¬ P1_1_ k_) (ho1_1 : Kd.R (Kd.int .i64) 3 w w0.heap.size P1_1_ u9001_ l1_1) (hp1_1_0_1 : ∀ k_, P1_1_ k_ → ¬ P0_1_ k_) (h : verniertop_plus.f k a0_0 l0_1 a0_2 a1_0 l1_1 a1_2 = some (r1, r2, r3)) :
  Calls Try.prog 8 #[.agg #[.bool a0_0, u9000_, .int .i64 a0_2], .agg #[.bool a1_0, u9001_, .int .i64 a1_2]] w fun e w' => ∃ v1_ : Value, e = .returned (.agg #[.bool r1, v1_, .int .i64 r3]) ∧ Kd.R (Kd.int .i64) 3 w' w0.heap.size (fun k_ => ((P0_1_ k_ ∨ P1_1_ k_) ∨ w.heap.size ≤ k_)) v1_ r2 ∧ Below w0.heap.size w0 w' ∧ Kept w w' (fun k_ => P0_1_ k_ ∨ P1_1_ k_) := by
 have hu32 := Try.underlying32
 have HO0_1 := Aside0.mk (show Kd.R (Kd.int .i64) 3 w w0.heap.size (fun k_ => ((P0_1_ k_ ∨ P1_1_ k_) ∨ w.heap.size ≤ k_) ∧ some k_ ≠ (u9001_ : Value).ownBlock) u9000_ l0_1 from Kd.R_mono ho0_1 (fun k_ hk => ⟨(.inl (.inl hk)), fun e_ => hp0_1_1_1 k_ hk (ho1_1.1 k_ e_.symm)⟩))
 have HO1_1 := Aside0.mk (show Kd.R (Kd.int .i64) 3 w w0.heap.size (fun k_ => ((P0_1_ k_ ∨ P1_1_ k_) ∨ w.heap.size ≤ k_) ∧ some k_ ≠ (u9000_ : Value).ownBlock) u9001_ l1_1 from Kd.R_mono ho1_1 (fun k_ hk => ⟨(.inl (.inr hk)), fun e_ => hp1_1_0_1 k_ hk (ho0_1.1 k_ e_.symm)⟩))
 have HK := Aside0.mk (Kept.refl w (fun k_ => P0_1_ k_ ∨ P1_1_ k_))
 have HW0 := Aside0.mk hB.size
 have HB := Aside0.mk hB
 clear hB
 have H : ((verniertop_down.f k a0_0 l0_1 a0_2 a1_0 l1_1 a1_2).bind fun bt357 => (if (a0_0 == a1_0) = true then ((vernierref04_Add.f k bt357.1 bt357.2.1).bind fun t364 => (some (a0_0, t364, bt357.2.2))) else ((vernierref04_Cmp.f k bt357.1 bt357.2.1).bind fun t367 => (if t367 ≥ 0 then ((vernierref04_Sub.f k bt357.1 bt357.2.1).bind fun t368 => (some (a0_0, t368, bt357.2.2))) else ((vernierref04_Sub.f k bt357.2.1 bt357.1).bind fun t371 => (some (a1_0, t371, bt357.2.2))))))) = some (r1, r2, r3) := h
 clear h
 replace H := Option.bind_eq_some_iff.mp H
 obtain ⟨⟨t357, t360, t363⟩, A30, H⟩ := H
 try dsimp -simprocs only at H
 have A3 := Aside0.mk A30
 clear A30
 by_cases c4 : (a0_0 == a1_0) = true
 ·
  rw [if_pos c4] at H
  have c4b0 : (a0_0 == a1_0) = true := c4
  (try (have c4b1 : decide (a0_0 = a1_0) = true := by simpa using c4))
  (try (have c4b2 : (a0_0 == a1_0) = true := by simpa using c4))
  clear c4
  replace H := Option.bind_eq_some_iff.mp H
  obtain ⟨t364, A50, H⟩ := H
  try dsimp -simprocs only at H
  have A5 := Aside0.mk A50
  clear A50
  simp only [Option.some.injEq, Prod.mk.injEq] at H
  obtain ⟨rfl, rfl, rfl⟩ := H
  obtain ⟨Ao6, co6, eo6⟩ := Kd.R_slice HO0_1.out
  subst eo6
  go_enter Try.func8, Try.ntmps8
  try go_wp2_with (first | ((with_reducible refine gD (N := 2) rfl ?_); refine bE3 2 #[.bool a0_0, .slice Ao6 l0_1.length co6, .int .i64 a0_2] 32 ?hr ?_; (case hr => first | (go_simp; done) | (go_simp; rfl)); intro gb354 hg w7 hbox hb; replace HO0_1 := Aside0.mk (Kd.R_below (by (with_reducible repeat (first | apply Kd.R_alloc | apply Kd.R_drewN | apply Kd.R_drew)); exact HO0_1.out) hb); replace HO1_1 := Aside0.mk (Kd.R_below (by (with_reducible repeat (first | apply Kd.R_alloc | apply Kd.R_drewN | apply Kd.R_drew)); exact HO1_1.out) hb); have BK354 := Aside0.mk (hbox); have GW354 := Aside0.mk ((by rw [hg]; exact (by first | exact HK.out.1 | exact (show Kept w _ (fun k_ => P0_1_ k_ ∨ P1_1_ k_) from by repeat (first | (with_reducible first | exact HK.out | apply Kept.alloc | apply Kept.drewN | apply Kept.drew) | exact HK.out)).1) : w.heap.size ≤ gb354)); replace HK := Aside0.mk (Kept.below (S := (fun k_ => P0_1_ k_ ∨ P1_1_ k_)) (by repeat (first | (with_reducible first | exact HK.out | apply Kept.alloc | apply Kept.drewN | apply Kept.drew) | exact HK.out)) hb); have GE354 := Aside0.mk ((by rw [hg]; exact (bZ (bR3 HB.out)) : w0.heap.size ≤ gb354)); replace HB := Aside0.mk (bS3 HB.out hb); clear hb hbox hg; obtain ⟨Ao8, co8, eo8⟩ := Kd.R_slice HO1_1.out; subst eo8) | ((with_reducible refine gD (N := 3) rfl ?_); refine bE3 3 #[.bool a1_0, .slice Ao8 l1_1.length co8, .int .i64 a1_2] 32 ?hr ?_; (case hr => first | (go_simp; done) | (go_simp; rfl)); intro gb355 hg w9 hbox hb; replace HO0_1 := Aside0.mk (Kd.R_below (by (with_reducible repeat (first | apply Kd.R_alloc | apply Kd.R_drewN | apply Kd.R_drew)); exact HO0_1.out) hb); replace HO1_1 := Aside0.mk (Kd.R_below (by (with_reducible repeat (first | apply Kd.R_alloc | apply Kd.R_drewN | apply Kd.R_drew)); exact HO1_1.out) hb); have BK355 := Aside0.mk (hbox); have GW355 := Aside0.mk ((by rw [hg]; exact (by first | exact HK.out.1 | exact (show Kept w _ (fun k_ => P0_1_ k_ ∨ P1_1_ k_) from by repeat (first | (with_reducible first | exact HK.out | apply Kept.alloc | apply Kept.drewN | apply Kept.drew | refine Kept.setCell ?_ (.inr GW354.out) _) | exact HK.out)).1) : w.heap.size ≤ gb355)); replace HK := Aside0.mk (Kept.below (S := (fun k_ => P0_1_ k_ ∨ P1_1_ k_)) (by repeat (first | (with_reducible first | exact HK.out | apply Kept.alloc | apply Kept.drewN | apply Kept.drew | refine Kept.setCell ?_ (.inr GW354.out) _) | exact HK.out)) hb); have GE355 := Aside0.mk ((by rw [hg]; exact (bZ (bR3 HB.out)) : w0.heap.size ≤ gb355)); replace HB := Aside0.mk (bS3 HB.out hb); have NB354_355 := Aside0.mk ((bL3 hg BK354.out)); have NB355_354 := Aside0.mk ((bG3 hg BK354.out)); replace BK354 := Aside0.mk (bB3 BK354.out hb); clear hb hbox hg) | ((with_reducible refine gD (N := 4) rfl ?_); refine bE3 4 #[.bool false, .slice none 0 0, .int .i64 0] 32 ?hr ?_; (case hr => first | (go_simp; done) | (go_simp; rfl)); intro gb356 hg w10 hbox hb; replace HO0_1 := Aside0.mk (Kd.R_below (by (with_reducible repeat (first | apply Kd.R_alloc | apply Kd.R_drewN | apply Kd.R_drew)); exact HO0_1.out) hb); replace HO1_1 := Aside0.mk (Kd.R_below (by (with_reducible repeat (first | apply Kd.R_alloc | apply Kd.R_drewN | apply Kd.R_drew)); exact HO1_1.out) hb); have BK356 := Aside0.mk (hbox); have GW356 := Aside0.mk ((by rw [hg]; exact (by first | exact HK.out.1 | exact (show Kept w _ (fun k_ => P0_1_ k_ ∨ P1_1_ k_) from by repeat (first | (with_reducible first | exact HK.out | apply Kept.alloc | apply Kept.drewN | apply Kept.drew | refine Kept.setCell ?_ (.inr GW354.out) _ | refine Kept.setCell ?_ (.inr GW355.out) _) | exact HK.out)).1) : w.heap.size ≤ gb356)); replace HK := Aside0.mk (Kept.below (S := (fun k_ => P0_1_ k_ ∨ P1_1_ k_)) (by repeat (first | (with_reducible first | exact HK.out | apply Kept.alloc | apply Kept.drewN | apply Kept.drew | refine Kept.setCell ?_ (.inr GW354.out) _ | refine Kept.setCell ?_ (.inr GW355.out) _) | exact HK.out)) hb); have GE356 := Aside0.mk ((by rw [hg]; exact (bZ (bR3 HB.out)) : w0.heap.size ≤ gb356)); replace HB := Aside0.mk (bS3 HB.out hb); have NB354_356 := Aside0.mk ((bL3 hg BK354.out)); have NB356_354 := Aside0.mk ((bG3 hg BK354.out)); replace BK354 := Aside0.mk (bB3 BK354.out hb); have NB355_356 := Aside0.mk ((bL3 hg BK355.out)); have NB356_355 := Aside0.mk ((bG3 hg BK355.out)); replace BK355 := Aside0.mk (bB3 BK355.out hb); clear hb hbox hg; have hnb11 := NB354_355.out; have hnc11 := NB355_354.out; have hnb12 := NB354_356.out; have hnc12 := NB356_354.out; obtain ⟨hcz13_0, hcz13_1, hcz13_2, hfz13_0, hfz13_1, hfz13_2⟩ := cl3 BK354.out; have hnb14 := NB355_356.out; have hnc14 := NB356_355.out; obtain ⟨hcz15_0, hcz15_1, hcz15_2, hfz15_0, hfz15_1, hfz15_2⟩ := cl3 BK355.out) | ((with_reducible refine gX_ 17 11 rfl rfl ?_); refine goesY_ (some 11) Try.func17 #[.agg #[.bool a0_0, .slice Ao6 l0_1.length co6, .int .i64 a0_2], .agg #[.bool a1_0, .slice Ao8 l1_1.length co8, .int .i64 a1_2]] ?_; (with_reducible refine (verniertop_down.calls k a0_0 (fun k_ => some k_ = (.slice Ao6 l0_1.length co6 : Value).ownBlock) (.slice Ao6 l0_1.length co6) l0_1 a0_2 a1_0 (fun k_ => some k_ = (.slice Ao8 l1_1.length co8 : Value).ownBlock) (.slice Ao8 l1_1.length co8) l1_1 a1_2 t357 t360 t363 w0 _ ?side1 ?side2 ?side3 ?side4 ?side5 A3.out).mono ?_); (case side1 => repeat (first | (with_reducible first | exact HB.out | apply pA | apply pN | apply p1 | refine pS ?_ GE354.out | refine pS ?_ GE355.out | refine pS ?_ GE356.out) | exact HB.out)); (case side2 => exact Kd.R_tight rfl HO0_1.out); (case side3 => exact fun k_ e_ => (HO0_1.out.1 k_ e_.symm).2); (case side4 => exact Kd.R_tight rfl HO1_1.out); (case side5 => exact fun k_ e_ => (HO1_1.out.1 k_ e_.symm).2); rintro e w16 ⟨v358, v361, rfl, ho0, ho1, hb, hkp⟩; refine ⟨_, rfl, ?_⟩; replace BK354 := Aside0.mk (blk_kept (bK3 BK354.out) hkp (fun hs_ => Or.elim hs_ (fun e_ => (fun e_ => (Kd.R_ne HO0_1.out BK354.out (by decide)) e_) e_) (fun e_ => (fun e_ => (Kd.R_ne HO1_1.out BK354.out (by decide)) e_) e_))); replace BK355 := Aside0.mk (blk_kept (bK3 BK355.out) hkp (fun hs_ => Or.elim hs_ (fun e_ => (fun e_ => (Kd.R_ne HO0_1.out BK355.out (by decide)) e_) e_) (fun e_ => (fun e_ => (Kd.R_ne HO1_1.out BK355.out (by decide)) e_) e_))); replace BK356 := Aside0.mk (blk_kept (bK3 BK356.out) hkp (fun hs_ => Or.elim hs_ (fun e_ => (fun e_ => (Kd.R_ne HO0_1.out BK356.out (by decide)) e_) e_) (fun e_ => (fun e_ => (Kd.R_ne HO1_1.out BK356.out (by decide)) e_) e_))); have HO359 := Aside0.mk (Kd.R_mono (ok' := fun k_ => ((P0_1_ k_ ∨ P1_1_ k_) ∨ w.heap.size ≤ k_) ∧ some k_ ≠ (v361 : Value).ownBlock) ho0 (fun k_ hk_ => ⟨Or.elim hk_.1 (fun hs_ => Or.elim hs_ (fun hs_ => (HO0_1.out.1 k_ (hs_).symm).1) (fun hs_ => (HO1_1.out.1 k_ (hs_).symm).1)) (fun hn_ => (.inr (Nat.le_trans (by first | exact HK.out.1 | exact (show Kept w _ (fun k_ => P0_1_ k_ ∨ P1_1_ k_) from by repeat (first | (with_reducible first | exact HK.out | apply Kept.alloc | apply Kept.drewN | apply Kept.drew | refine Kept.setCell ?_ (.inr GW354.out) _ | refine Kept.setCell ?_ (.inr GW355.out) _ | refine Kept.setCell ?_ (.inr GW356.out) _) | exact HK.out)).1) hn_))), hk_.2⟩)); have HO362 := Aside0.mk (Kd.R_mono (ok' := fun k_ => ((P0_1_ k_ ∨ P1_1_ k_) ∨ w.heap.size ≤ k_) ∧ some k_ ≠ (v358 : Value).ownBlock) ho1 (fun k_ hk_ => ⟨Or.elim hk_.1 (fun hs_ => Or.elim hs_ (fun hs_ => (HO0_1.out.1 k_ (hs_).symm).1) (fun hs_ => (HO1_1.out.1 k_ (hs_).symm).1)) (fun hn_ => (.inr (Nat.le_trans (by first | exact HK.out.1 | exact (show Kept w _ (fun k_ => P0_1_ k_ ∨ P1_1_ k_) from by repeat (first | (with_reducible first | exact HK.out | apply Kept.alloc | apply Kept.drewN | apply Kept.drew | refine Kept.setCell ?_ (.inr GW354.out) _ | refine Kept.setCell ?_ (.inr GW355.out) _ | refine Kept.setCell ?_ (.inr GW356.out) _) | exact HK.out)).1) hn_))), hk_.2⟩)); replace HK := Aside0.mk (Kept.then_ (S := (fun k_ => P0_1_ k_ ∨ P1_1_ k_)) (by repeat (first | (with_reducible first | exact HK.out | apply Kept.alloc | apply Kept.drewN | apply Kept.drew | refine Kept.setCell ?_ (.inr GW354.out) _ | refine Kept.setCell ?_ (.inr GW355.out) _ | refine Kept.setCell ?_ (.inr GW356.out) _) | exact HK.out)) hkp (fun k_ hs_ => Or.elim hs_ (fun e_ => (fun e_ => (HO0_1.out.1 k_ e_.symm).1) e_) (fun e_ => (fun e_ => (HO1_1.out.1 k_ e_.symm).1) e_))); replace HB := Aside0.mk (hb); clear HO0_1; clear HO1_1; (try clear hb); (try clear hkp); (try clear ho0); (try clear ho1); obtain ⟨hcz17_0, hcz17_1, hcz17_2, hfz17_0, hfz17_1, hfz17_2⟩ := cl3 BK354.out; obtain ⟨hcz18_0, hcz18_1, hcz18_2, hfz18_0, hfz18_1, hfz18_2⟩ := cl3 BK355.out))
  have n0_ := Aside0.mk (Kd.R_drew HO359.out)
  have n1_ := Aside0.mk (Kd.R_drew HO362.out)
  have n2_ := Aside0.mk (bD BK354.out)
  have n3_ := Aside0.mk (bD BK355.out)
  have n4_ := Aside0.mk (bD BK356.out)
  have n5_ := Aside0.mk (Kept.drew HK.out)
  have n6_ := Aside0.mk (p1 HB.out)
  clear HO359
  clear HO362
  clear BK354
  clear BK355
  clear BK356
  clear HK
  clear HB
  have HO359 := n0_
  have HO362 := n1_
  have BK354 := n2_
  have BK355 := n3_
  have BK356 := n4_
  have HK := n5_
  have HB := n6_
  clear n0_ n1_ n2_ n3_ n4_ n5_ n6_
  obtain ⟨Ao20, co20, eo20⟩ := Kd.R_slice HO359.out
  (first | subst eo20 | (injection eo20 with f1_ f2_ f3_; have f4_ := f1_.symm; have f5_ := f3_.symm; clear f1_ f2_ f3_; subst f4_; subst f5_))
  obtain ⟨Ao21, co21, eo21⟩ := Kd.R_slice HO362.out
  (first | subst eo21 | (injection eo21 with f1_ f2_ f3_; have f4_ := f1_.symm; have f5_ := f3_.symm; clear f1_ f2_ f3_; subst f4_; subst f5_))
  refine start_ (n := 8) (S := fun w' => w'.cell? ⟨gb354, 0, none⟩ = some (.bool a0_0) ∧ w'.cell? ⟨gb354, 1, none⟩ = some (.slice Ao6 l0_1.length co6) ∧ w'.cell? ⟨gb354, 2, none⟩ = some (.int .i64 a0_2)) (ds := []) #[false, false, false, false, false, false, false, false] (by kernel_rfl) rfl rfl ⟨(blk_cell BK354.out 0).trans rfl, (blk_cell BK354.out 1).trans rfl, (blk_cell BK354.out 2).trans rfl⟩ (fun hHeld => ?_); refine with_tabW verniertop_plus.tab3 verniertop_plus.bits3 (fun HT_ HW_ => ?_)
  generalize w16.drew = w19 at HO359 HO362 BK354 BK355 BK356 HK HB hHeld ⊢
  refine pure_ (i := 0) (N := some 20) (v := ?_) (a' := ?_) #[true, false, false, false, false, false, false, false] rfl rfl (any_of HT_.out (by kernel_rfl)) (fun _ _ _ h => h) (Or.inl ⟨by rfl, ?_⟩) ?_ ?_
  rotate_left
  ·
   intro w'
   go_simp
   with_reducible rfl
  rotate_left
  ·
   simp only [Act.put, lS_, lZ_, lC_, i64_w, i32_w]
   rfl
  refine pure_ (i := 2) (N := some 22) (v := ?_) (a' := ?_) #[true, false, true, false, false, false, false, false] rfl rfl (any_of HT_.out (by kernel_rfl)) (fun _ _ _ h => h) (Or.inl ⟨by rfl, ?_⟩) ?_ ?_
  rotate_left
  ·
   intro w'
   go_simp
   with_reducible rfl
  rotate_left
  ·
   simp only [Act.put, lS_, lZ_, lC_, i64_w, i32_w]
   rfl
  refine pure_ (i := 3) (N := some 23) (v := ?_) (a' := ?_) #[true, false, true, true, false, false, false, false] rfl rfl (any_of HT_.out (by kernel_rfl)) (fun _ _ _ h => h) (Or.inl ⟨by rfl, ?_⟩) ?_ ?_
  rotate_left
  ·
   intro w'
   go_simp
   with_reducible rfl
  rotate_left
  ·
   simp only [Act.put, lS_, lZ_, lC_, i64_w, i32_w]
   rfl
  refine pure_ (i := 5) (N := some 25) (v := ?_) (a' := ?_) #[true, false, true, true, false, true, false, false] rfl rfl (any_of HT_.out (by kernel_rfl)) (fun _ _ _ h => h) (Or.inl ⟨by rfl, ?_⟩) ?_ ?_
  rotate_left
  ·
   intro w'
   go_simp
   with_reducible rfl
  rotate_left
  ·
   simp only [Act.put, lS_, lZ_, lC_, i64_w, i32_w]
   rfl
  refine take_ (i := 1) (N := some 21) (v := ?_) (a' := ?_) #[true, true, true, true, false, true, false, false] rfl rfl (take_ofW HT_.out HW_.out (by kernel_rfl)) (fun _ _ _ h => h) (Or.inl ⟨by rfl, ?_⟩) hHeld ?_ ?_
  rotate_left
  ·
   rintro w' ⟨s0, s1, s2⟩
   go_simp
   with_reducible rfl
  rotate_left
  ·
   simp only [Act.put, lS_, lZ_, lC_, i64_w, i32_w]
   rfl
  refine one_ (i := 4) (N := some 24) #[true, true, true, true, true, true, false, false] rfl rfl (one_of HT_.out (by kernel_rfl)) (by decide) (fun K hK => ?_)
  refine goes_ Try.func18 (by kernel_rfl) rfl #[.slice Ao20 t357.length co20, .slice Ao21 t360.length co21] (by rfl) rfl rfl (by (try simp only [List.map_toArray, List.map_cons, List.map_nil]); first | done | rfl | (simp only [List.length_drop, List.length_take]; rfl)) ?_
  with_reducible refine (vernierref04_Add.calls k _ _ t357 _ _ t360 t364 _ ?side1 ?side2 ?side3 ?side4 A5.out).mono ?_
  (case side1 => repeat (first | exact (Kd.R_reads' HO359.out).2.2 | (with_reducible refine Kd.C_alloc ?_ _) | (with_reducible refine Kd.C_drewN ?_ _) | (with_reducible refine Kd.C_drew ?_)))
  (case side2 => exact (Kd.R_reads' HO359.out).2.1)
  (case side3 => repeat (first | exact (Kd.R_reads' HO362.out).2.2 | (with_reducible refine Kd.C_alloc ?_ _) | (with_reducible refine Kd.C_drewN ?_ _) | (with_reducible refine Kd.C_drew ?_)))
  (case side4 => exact (Kd.R_reads' HO362.out).2.1)
  rintro e w22 ⟨v365, rfl, ho0, hb⟩
  refine ⟨_, rfl, ?_⟩
  have n0_ := Aside0.mk (Kd.R_elder' (by (with_reducible repeat (first | apply Kd.R_alloc | apply Kd.R_drewN | apply Kd.R_drew)); exact HO359.out) (Kd.R_base ho0) hb)
  have n1_ := Aside0.mk (Kd.R_elder' (by (with_reducible repeat (first | apply Kd.R_alloc | apply Kd.R_drewN | apply Kd.R_drew)); exact HO362.out) (Kd.R_base ho0) hb)
  have n2_ := Aside0.mk (Kd.R_lower (Kd.R_new' (Kd.R_new' (Kd.R_newM (M := fun k_ => ((P0_1_ k_ ∨ P1_1_ k_) ∨ w.heap.size ≤ k_)) ho0 (by first | exact HK.out.1 | exact (show Kept w _ (fun k_ => P0_1_ k_ ∨ P1_1_ k_) from by repeat (first | (with_reducible first | exact HK.out | apply Kept.alloc | apply Kept.drewN | apply Kept.drew | refine Kept.setCell ?_ (.inr GW354.out) _ | refine Kept.setCell ?_ (.inr GW355.out) _ | refine Kept.setCell ?_ (.inr GW356.out) _) | exact HK.out)).1) (fun k_ h_ => .inr h_)) (Kd.R_lt (by (with_reducible repeat (first | apply Kd.R_alloc | apply Kd.R_drewN | apply Kd.R_drew)); exact HO359.out))) (Kd.R_lt (by (with_reducible repeat (first | apply Kd.R_alloc | apply Kd.R_drewN | apply Kd.R_drew)); exact HO362.out))) (bZ (bR3 HB.out)))
  have n3_ := Aside0.mk (bB3 BK354.out hb)
  have n4_ := Aside0.mk (bB3 BK355.out hb)
  have n5_ := Aside0.mk (bB3 BK356.out hb)
  have n6_ := Aside0.mk (Kept.below (S := (fun k_ => P0_1_ k_ ∨ P1_1_ k_)) (by repeat (first | (with_reducible first | exact HK.out | apply Kept.alloc | apply Kept.drewN | apply Kept.drew | refine Kept.setCell ?_ (.inr GW354.out) _ | refine Kept.setCell ?_ (.inr GW355.out) _ | refine Kept.setCell ?_ (.inr GW356.out) _) | exact HK.out)) hb)
  have n7_ := Aside0.mk (bS3 HB.out hb)
  clear HO359
  clear HO362
  clear BK354
  clear BK355
  clear BK356
  clear HK
  clear HB
  have HO359 := n0_
  have HO362 := n1_
  have HO366 := n2_
  have BK354 := n3_
  have BK355 := n4_
  have BK356 := n5_
  have HK := n6_
  have HB := n7_
  clear n0_ n1_ n2_ n3_ n4_ n5_ n6_ n7_
  (try clear hb)
  (try clear hb2)
  (try clear hk)
  (try clear hi)
  (try clear ho0)
  obtain ⟨Ao23, co23, eo23⟩ := Kd.R_slice HO366.out
  (first | subst eo23 | (injection eo23 with f1_ f2_ f3_; have f4_ := f1_.symm; have f5_ := f3_.symm; clear f1_ f2_ f3_; subst f4_; subst f5_))
  refine hK.out _ _ ⟨(blk_cell BK354.out 0).trans rfl, (blk_cell BK354.out 1).trans rfl, (blk_cell BK354.out 2).trans rfl⟩ (fun hHeld => ?_)
  clear hK K
  refine norm_ (a' := ?_) ?_ ?_
  rotate_left
  ·
   show Act.put _ (some 24) _ = _
   simp only [Act.put, lS_, lZ_, lC_, i64_w, i32_w]
   rfl
  refine pure_ (i := 6) (N := some 26) (v := ?_) (a' := ?_) #[true, true, true, true, true, true, true, false] rfl rfl (any_of HT_.out (by kernel_rfl)) (fun _ _ _ h => h) (Or.inl ⟨by rfl, ?_⟩) ?_ ?_
  rotate_left
  ·
   intro w'
   go_simp
   with_reducible rfl
  rotate_left
  ·
   simp only [Act.put, lS_, lZ_, lC_, i64_w, i32_w]
   rfl
  refine one_ (i := 7) (N := none) #[true, true, true, true, true, true, true, true] rfl rfl (one_of HT_.out (by kernel_rfl)) (by decide) (fun K hK => ?_)
  have hs24 : w22.cell? ⟨gb356, 0, none⟩ = some (.bool false) := (blk_cell BK356.out 0).trans rfl
  have hfs24 := blk_frozen BK356.out 0
  have hns24_0 := NB354_356.out
  have hns24_1 := NB355_356.out
  have hms24_0 := NB356_354.out
  have hms24_1 := NB356_355.out
  have hs25 : w22.cell? ⟨gb356, 1, none⟩ = some (.slice none 0 0) := (blk_cell BK356.out 1).trans rfl
  have hfs25 := blk_frozen BK356.out 1
  have hns25_0 := NB354_356.out
  have hns25_1 := NB355_356.out
  have hms25_0 := NB356_354.out
  have hms25_1 := NB356_355.out
  have hs26 : w22.cell? ⟨gb356, 2, none⟩ = some (.int .i64 0) := (blk_cell BK356.out 2).trans rfl
  have hfs26 := blk_frozen BK356.out 2
  have hns26_0 := NB354_356.out
  have hns26_1 := NB355_356.out
  have hms26_0 := NB356_354.out
  have hms26_1 := NB356_355.out
  refine skip_ (w1 := ?_) (by rfl) rfl ?_ ?_
  rotate_left
  ·
   go_simp
   rfl
  refine hK.out _ _ ⟨((cell_far (p := ⟨gb356, _, none⟩) NB354_356.out _).trans (((cell_far (p := ⟨gb356, _, none⟩) NB354_356.out _).trans (((cell_far (p := ⟨gb356, _, none⟩) NB354_356.out _).trans (hHeld.1)))))), ((cell_far (p := ⟨gb356, _, none⟩) NB354_356.out _).trans (((cell_far (p := ⟨gb356, _, none⟩) NB354_356.out _).trans (((cell_far (p := ⟨gb356, _, none⟩) NB354_356.out _).trans (hHeld.2.1)))))), ((cell_far (p := ⟨gb356, _, none⟩) NB354_356.out _).trans (((cell_far (p := ⟨gb356, _, none⟩) NB354_356.out _).trans (((cell_far (p := ⟨gb356, _, none⟩) NB354_356.out _).trans (hHeld.2.2))))))⟩ (fun hHeld => ?_)
  clear hK K
  refine done_ (done_of HT_.out (by kernel_rfl)) ?_
  try go_wp2
  refine bodyPost_ret (results_cell_row rfl _ _ gb356 32 #[.bool a0_0, .slice Ao23 t364.length co23, .int .i64 t363] (0, 0) _ rfl (bQ3 BK356.out) Try.underlying32 rfl (by kernel_rfl)) rfl ?_
  exact ⟨_, eR3, by (with_reducible repeat (first | apply Kd.R_alloc | apply Kd.R_drewN | apply Kd.R_drew)); exact Kd.R_mono (Kd.R_far (p := ⟨gb356, 2, none⟩) (Kd.R_far (p := ⟨gb356, 1, none⟩) (Kd.R_far (p := ⟨gb356, 0, none⟩) (Kd.R_types HO366.out BK356.out (by decide)) (fun _ hk => hk.2) (.bool a0_0)) (fun _ hk => hk.2) (.slice Ao23 t364.length co23)) (fun _ hk => hk.2) (.int .i64 t363)) (fun _ hk => hk.1.1.1.1), bR3 HB.out, by repeat (first | (with_reducible first | exact HK.out | apply Kept.alloc | apply Kept.drewN | apply Kept.drew | refine Kept.setCell ?_ (.inr GW354.out) _ | refine Kept.setCell ?_ (.inr GW355.out) _ | refine Kept.setCell ?_ (.inr GW356.out) _) | exact HK.out)⟩
 ·
  rw [if_neg c4] at H
  have c4b0 : (a0_0 == a1_0) = false := by simpa using c4
  (try (have c4b1 : decide (a0_0 = a1_0) = false := by simpa using c4))
  (try (have c4b2 : (a0_0 == a1_0) = false := by simpa using c4))
  (try (have c4b3 : ¬ (a0_0 = a1_0) := by simpa using c4))
  clear c4
  replace H := Option.bind_eq_some_iff.mp H
  obtain ⟨t367, A270, H⟩ := H
  try dsimp -simprocs only at H
  have A27 := Aside0.mk A270
  clear A270
  by_cases c28 : t367 ≥ 0
  ·
   rw [if_pos c28] at H
   have c28b0 : decide (0 ≤ t367) = true := decide_eq_true c28
   clear c28
   replace H := Option.bind_eq_some_iff.mp H
   obtain ⟨t368, A290, H⟩ := H
   try dsimp -simprocs only at H
   have A29 := Aside0.mk A290
   clear A290
   simp only [Option.some.injEq, Prod.mk.injEq] at H
   obtain ⟨rfl, rfl, rfl⟩ := H
   obtain ⟨Ao30, co30, eo30⟩ := Kd.R_slice HO0_1.out
   subst eo30
   go_enter Try.func8, Try.ntmps8
   try go_wp2_with (first | ((with_reducible refine gD (N := 2) rfl ?_); refine bE3 2 #[.bool a0_0, .slice Ao30 l0_1.length co30, .int .i64 a0_2] 32 ?hr ?_; (case hr => first | (go_simp; done) | (go_simp; rfl)); intro gb354 hg w31 hbox hb; replace HO0_1 := Aside0.mk (Kd.R_below (by (with_reducible repeat (first | apply Kd.R_alloc | apply Kd.R_drewN | apply Kd.R_drew)); exact HO0_1.out) hb); replace HO1_1 := Aside0.mk (Kd.R_below (by (with_reducible repeat (first | apply Kd.R_alloc | apply Kd.R_drewN | apply Kd.R_drew)); exact HO1_1.out) hb); have BK354 := Aside0.mk (hbox); have GW354 := Aside0.mk ((by rw [hg]; exact (by first | exact HK.out.1 | exact (show Kept w _ (fun k_ => P0_1_ k_ ∨ P1_1_ k_) from by repeat (first | (with_reducible first | exact HK.out | apply Kept.alloc | apply Kept.drewN | apply Kept.drew) | exact HK.out)).1) : w.heap.size ≤ gb354)); replace HK := Aside0.mk (Kept.below (S := (fun k_ => P0_1_ k_ ∨ P1_1_ k_)) (by repeat (first | (with_reducible first | exact HK.out | apply Kept.alloc | apply Kept.drewN | apply Kept.drew) | exact HK.out)) hb); have GE354 := Aside0.mk ((by rw [hg]; exact (bZ (bR3 HB.out)) : w0.heap.size ≤ gb354)); replace HB := Aside0.mk (bS3 HB.out hb); clear hb hbox hg; obtain ⟨Ao32, co32, eo32⟩ := Kd.R_slice HO1_1.out; subst eo32) | ((with_reducible refine gD (N := 3) rfl ?_); refine bE3 3 #[.bool a1_0, .slice Ao32 l1_1.length co32, .int .i64 a1_2] 32 ?hr ?_; (case hr => first | (go_simp; done) | (go_simp; rfl)); intro gb355 hg w33 hbox hb; replace HO0_1 := Aside0.mk (Kd.R_below (by (with_reducible repeat (first | apply Kd.R_alloc | apply Kd.R_drewN | apply Kd.R_drew)); exact HO0_1.out) hb); replace HO1_1 := Aside0.mk (Kd.R_below (by (with_reducible repeat (first | apply Kd.R_alloc | apply Kd.R_drewN | apply Kd.R_drew)); exact HO1_1.out) hb); have BK355 := Aside0.mk (hbox); have GW355 := Aside0.mk ((by rw [hg]; exact (by first | exact HK.out.1 | exact (show Kept w _ (fun k_ => P0_1_ k_ ∨ P1_1_ k_) from by repeat (first | (with_reducible first | exact HK.out | apply Kept.alloc | apply Kept.drewN | apply Kept.drew | refine Kept.setCell ?_ (.inr GW354.out) _) | exact HK.out)).1) : w.heap.size ≤ gb355)); replace HK := Aside0.mk (Kept.below (S := (fun k_ => P0_1_ k_ ∨ P1_1_ k_)) (by repeat (first | (with_reducible first | exact HK.out | apply Kept.alloc | apply Kept.drewN | apply Kept.drew | refine Kept.setCell ?_ (.inr GW354.out) _) | exact HK.out)) hb); have GE355 := Aside0.mk ((by rw [hg]; exact (bZ (bR3 HB.out)) : w0.heap.size ≤ gb355)); replace HB := Aside0.mk (bS3 HB.out hb); have NB354_355 := Aside0.mk ((bL3 hg BK354.out)); have NB355_354 := Aside0.mk ((bG3 hg BK354.out)); replace BK354 := Aside0.mk (bB3 BK354.out hb); clear hb hbox hg) | ((with_reducible refine gD (N := 4) rfl ?_); refine bE3 4 #[.bool false, .slice none 0 0, .int .i64 0] 32 ?hr ?_; (case hr => first | (go_simp; done) | (go_simp; rfl)); intro gb356 hg w34 hbox hb; replace HO0_1 := Aside0.mk (Kd.R_below (by (with_reducible repeat (first | apply Kd.R_alloc | apply Kd.R_drewN | apply Kd.R_drew)); exact HO0_1.out) hb); replace HO1_1 := Aside0.mk (Kd.R_below (by (with_reducible repeat (first | apply Kd.R_alloc | apply Kd.R_drewN | apply Kd.R_drew)); exact HO1_1.out) hb); have BK356 := Aside0.mk (hbox); have GW356 := Aside0.mk ((by rw [hg]; exact (by first | exact HK.out.1 | exact (show Kept w _ (fun k_ => P0_1_ k_ ∨ P1_1_ k_) from by repeat (first | (with_reducible first | exact HK.out | apply Kept.alloc | apply Kept.drewN | apply Kept.drew | refine Kept.setCell ?_ (.inr GW354.out) _ | refine Kept.setCell ?_ (.inr GW355.out) _) | exact HK.out)).1) : w.heap.size ≤ gb356)); replace HK := Aside0.mk (Kept.below (S := (fun k_ => P0_1_ k_ ∨ P1_1_ k_)) (by repeat (first | (with_reducible first | exact HK.out | apply Kept.alloc | apply Kept.drewN | apply Kept.drew | refine Kept.setCell ?_ (.inr GW354.out) _ | refine Kept.setCell ?_ (.inr GW355.out) _) | exact HK.out)) hb); have GE356 := Aside0.mk ((by rw [hg]; exact (bZ (bR3 HB.out)) : w0.heap.size ≤ gb356)); replace HB := Aside0.mk (bS3 HB.out hb); have NB354_356 := Aside0.mk ((bL3 hg BK354.out)); have NB356_354 := Aside0.mk ((bG3 hg BK354.out)); replace BK354 := Aside0.mk (bB3 BK354.out hb); have NB355_356 := Aside0.mk ((bL3 hg BK355.out)); have NB356_355 := Aside0.mk ((bG3 hg BK355.out)); replace BK355 := Aside0.mk (bB3 BK355.out hb); clear hb hbox hg; have hnb35 := NB354_355.out; have hnc35 := NB355_354.out; have hnb36 := NB354_356.out; have hnc36 := NB356_354.out; obtain ⟨hcz37_0, hcz37_1, hcz37_2, hfz37_0, hfz37_1, hfz37_2⟩ := cl3 BK354.out; have hnb38 := NB355_356.out; have hnc38 := NB356_355.out; obtain ⟨hcz39_0, hcz39_1, hcz39_2, hfz39_0, hfz39_1, hfz39_2⟩ := cl3 BK355.out) | ((with_reducible refine gX_ 17 11 rfl rfl ?_); refine goesY_ (some 11) Try.func17 #[.agg #[.bool a0_0, .slice Ao30 l0_1.length co30, .int .i64 a0_2], .agg #[.bool a1_0, .slice Ao32 l1_1.length co32, .int .i64 a1_2]] ?_; (with_reducible refine (verniertop_down.calls k a0_0 (fun k_ => some k_ = (.slice Ao30 l0_1.length co30 : Value).ownBlock) (.slice Ao30 l0_1.length co30) l0_1 a0_2 a1_0 (fun k_ => some k_ = (.slice Ao32 l1_1.length co32 : Value).ownBlock) (.slice Ao32 l1_1.length co32) l1_1 a1_2 t357 t360 t363 w0 _ ?side1 ?side2 ?side3 ?side4 ?side5 A3.out).mono ?_); (case side1 => repeat (first | (with_reducible first | exact HB.out | apply pA | apply pN | apply p1 | refine pS ?_ GE354.out | refine pS ?_ GE355.out | refine pS ?_ GE356.out) | exact HB.out)); (case side2 => exact Kd.R_tight rfl HO0_1.out); (case side3 => exact fun k_ e_ => (HO0_1.out.1 k_ e_.symm).2); (case side4 => exact Kd.R_tight rfl HO1_1.out); (case side5 => exact fun k_ e_ => (HO1_1.out.1 k_ e_.symm).2); rintro e w40 ⟨v358, v361, rfl, ho0, ho1, hb, hkp⟩; refine ⟨_, rfl, ?_⟩; replace BK354 := Aside0.mk (blk_kept (bK3 BK354.out) hkp (fun hs_ => Or.elim hs_ (fun e_ => (fun e_ => (Kd.R_ne HO0_1.out BK354.out (by decide)) e_) e_) (fun e_ => (fun e_ => (Kd.R_ne HO1_1.out BK354.out (by decide)) e_) e_))); replace BK355 := Aside0.mk (blk_kept (bK3 BK355.out) hkp (fun hs_ => Or.elim hs_ (fun e_ => (fun e_ => (Kd.R_ne HO0_1.out BK355.out (by decide)) e_) e_) (fun e_ => (fun e_ => (Kd.R_ne HO1_1.out BK355.out (by decide)) e_) e_))); replace BK356 := Aside0.mk (blk_kept (bK3 BK356.out) hkp (fun hs_ => Or.elim hs_ (fun e_ => (fun e_ => (Kd.R_ne HO0_1.out BK356.out (by decide)) e_) e_) (fun e_ => (fun e_ => (Kd.R_ne HO1_1.out BK356.out (by decide)) e_) e_))); have HO359 := Aside0.mk (Kd.R_mono (ok' := fun k_ => ((P0_1_ k_ ∨ P1_1_ k_) ∨ w.heap.size ≤ k_) ∧ some k_ ≠ (v361 : Value).ownBlock) ho0 (fun k_ hk_ => ⟨Or.elim hk_.1 (fun hs_ => Or.elim hs_ (fun hs_ => (HO0_1.out.1 k_ (hs_).symm).1) (fun hs_ => (HO1_1.out.1 k_ (hs_).symm).1)) (fun hn_ => (.inr (Nat.le_trans (by first | exact HK.out.1 | exact (show Kept w _ (fun k_ => P0_1_ k_ ∨ P1_1_ k_) from by repeat (first | (with_reducible first | exact HK.out | apply Kept.alloc | apply Kept.drewN | apply Kept.drew | refine Kept.setCell ?_ (.inr GW354.out) _ | refine Kept.setCell ?_ (.inr GW355.out) _ | refine Kept.setCell ?_ (.inr GW356.out) _) | exact HK.out)).1) hn_))), hk_.2⟩)); have HO362 := Aside0.mk (Kd.R_mono (ok' := fun k_ => ((P0_1_ k_ ∨ P1_1_ k_) ∨ w.heap.size ≤ k_) ∧ some k_ ≠ (v358 : Value).ownBlock) ho1 (fun k_ hk_ => ⟨Or.elim hk_.1 (fun hs_ => Or.elim hs_ (fun hs_ => (HO0_1.out.1 k_ (hs_).symm).1) (fun hs_ => (HO1_1.out.1 k_ (hs_).symm).1)) (fun hn_ => (.inr (Nat.le_trans (by first | exact HK.out.1 | exact (show Kept w _ (fun k_ => P0_1_ k_ ∨ P1_1_ k_) from by repeat (first | (with_reducible first | exact HK.out | apply Kept.alloc | apply Kept.drewN | apply Kept.drew | refine Kept.setCell ?_ (.inr GW354.out) _ | refine Kept.setCell ?_ (.inr GW355.out) _ | refine Kept.setCell ?_ (.inr GW356.out) _) | exact HK.out)).1) hn_))), hk_.2⟩)); replace HK := Aside0.mk (Kept.then_ (S := (fun k_ => P0_1_ k_ ∨ P1_1_ k_)) (by repeat (first | (with_reducible first | exact HK.out | apply Kept.alloc | apply Kept.drewN | apply Kept.drew | refine Kept.setCell ?_ (.inr GW354.out) _ | refine Kept.setCell ?_ (.inr GW355.out) _ | refine Kept.setCell ?_ (.inr GW356.out) _) | exact HK.out)) hkp (fun k_ hs_ => Or.elim hs_ (fun e_ => (fun e_ => (HO0_1.out.1 k_ e_.symm).1) e_) (fun e_ => (fun e_ => (HO1_1.out.1 k_ e_.symm).1) e_))); replace HB := Aside0.mk (hb); clear HO0_1; clear HO1_1; (try clear hb); (try clear hkp); (try clear ho0); (try clear ho1); obtain ⟨hcz41_0, hcz41_1, hcz41_2, hfz41_0, hfz41_1, hfz41_2⟩ := cl3 BK354.out; obtain ⟨hcz42_0, hcz42_1, hcz42_2, hfz42_0, hfz42_1, hfz42_2⟩ := cl3 BK355.out; obtain ⟨Ao43, co43, eo43⟩ := Kd.R_slice HO359.out; subst eo43; obtain ⟨Ao44, co44, eo44⟩ := Kd.R_slice HO362.out; subst eo44) | ((with_reducible refine gX_ 19 29 rfl rfl ?_); refine goesY_ (some 29) Try.func19 #[.slice Ao43 t357.length co43, .slice Ao44 t360.length co44] ?_; (with_reducible refine (vernierref04_Cmp.calls k _ _ t357 _ _ t360 t367 _ ?side1 ?side2 ?side3 ?side4 A27.out).mono ?_); (case side1 => repeat (first | exact (Kd.R_reads' HO359.out).2.2 | (with_reducible refine Kd.C_alloc ?_ _) | (with_reducible refine Kd.C_drewN ?_ _) | (with_reducible refine Kd.C_drew ?_))); (case side2 => exact (Kd.R_reads' HO359.out).2.1); (case side3 => repeat (first | exact (Kd.R_reads' HO362.out).2.2 | (with_reducible refine Kd.C_alloc ?_ _) | (with_reducible refine Kd.C_drewN ?_ _) | (with_reducible refine Kd.C_drew ?_))); (case side4 => exact (Kd.R_reads' HO362.out).2.1); rintro e w' ⟨rfl, ⟨nd, rfl⟩⟩; refine ⟨_, rfl, ?_⟩; (try (rw [drewN_self w40]; generalize hq_ : World.drewN w40 _ = w40; have n0_ : Aside0 (Kd.R (Kd.int .i64) 3 w40 w0.heap.size (fun k_ => ((P0_1_ k_ ∨ P1_1_ k_) ∨ w.heap.size ≤ k_) ∧ some k_ ≠ (.slice Ao44 t360.length co44 : Value).ownBlock) (.slice Ao43 t357.length co43) t357) := ⟨by rw [← hq_]; exact (by (with_reducible repeat (first | apply Kd.R_alloc | apply Kd.R_drewN | apply Kd.R_drew)); exact HO359.out)⟩; have n1_ : Aside0 (Kd.R (Kd.int .i64) 3 w40 w0.heap.size (fun k_ => ((P0_1_ k_ ∨ P1_1_ k_) ∨ w.heap.size ≤ k_) ∧ some k_ ≠ (.slice Ao43 t357.length co43 : Value).ownBlock) (.slice Ao44 t360.length co44) t360) := ⟨by rw [← hq_]; exact (by (with_reducible repeat (first | apply Kd.R_alloc | apply Kd.R_drewN | apply Kd.R_drew)); exact HO362.out)⟩; have n2_ : Aside0 (w40.heap[gb354]? = some (.cells #[.bool a0_0, .slice Ao30 l0_1.length co30, .int .i64 a0_2] 32 (0, 0))) := ⟨by rw [← hq_]; exact (bK3 BK354.out)⟩; have n3_ : Aside0 (w40.heap[gb355]? = some (.cells #[.bool a1_0, .slice Ao32 l1_1.length co32, .int .i64 a1_2] 32 (0, 0))) := ⟨by rw [← hq_]; exact (bK3 BK355.out)⟩; have n4_ : Aside0 (w40.heap[gb356]? = some (.cells #[.bool false, .slice none 0 0, .int .i64 0] 32 (0, 0))) := ⟨by rw [← hq_]; exact (bK3 BK356.out)⟩; have n5_ : Aside0 (Kept w w40 (fun k_ => P0_1_ k_ ∨ P1_1_ k_)) := ⟨by rw [← hq_]; exact (by repeat (first | (with_reducible first | exact HK.out | apply Kept.alloc | apply Kept.drewN | apply Kept.drew | refine Kept.setCell ?_ (.inr GW354.out) _ | refine Kept.setCell ?_ (.inr GW355.out) _ | refine Kept.setCell ?_ (.inr GW356.out) _) | exact HK.out))⟩; have n6_ : Aside0 (Below w0.heap.size w0 w40) := ⟨by rw [← hq_]; exact (bR3 HB.out)⟩; clear HO359 HO362 BK354 BK355 BK356 HK HB hq_; have HO359 := n0_; have HO362 := n1_; have BK354 := n2_; have BK355 := n3_; have BK356 := n4_; have HK := n5_; have HB := n6_; clear n0_ n1_ n2_ n3_ n4_ n5_ n6_)); (try have hfz37_0 := blk_frozen BK354.out 0); (try have hfz37_1 := blk_frozen BK354.out 1); (try have hfz37_2 := blk_frozen BK354.out 2); (try have hfz39_0 := blk_frozen BK355.out 0); (try have hfz39_1 := blk_frozen BK355.out 1); (try have hfz39_2 := blk_frozen BK355.out 2); (try have hcz41_0 : w40.cell? ⟨gb354, 0, none⟩ = some (.bool a0_0) := (blk_cell BK354.out 0).trans rfl); (try have hcz41_1 : w40.cell? ⟨gb354, 1, none⟩ = some (.slice Ao30 l0_1.length co30) := (blk_cell BK354.out 1).trans rfl); (try have hcz41_2 : w40.cell? ⟨gb354, 2, none⟩ = some (.int .i64 a0_2) := (blk_cell BK354.out 2).trans rfl); (try have hfz41_0 := blk_frozen BK354.out 0); (try have hfz41_1 := blk_frozen BK354.out 1); (try have hfz41_2 := blk_frozen BK354.out 2); (try have hcz42_0 : w40.cell? ⟨gb355, 0, none⟩ = some (.bool a1_0) := (blk_cell BK355.out 0).trans rfl); (try have hcz42_1 : w40.cell? ⟨gb355, 1, none⟩ = some (.slice Ao32 l1_1.length co32) := (blk_cell BK355.out 1).trans rfl); (try have hcz42_2 : w40.cell? ⟨gb355, 2, none⟩ = some (.int .i64 a1_2) := (blk_cell BK355.out 2).trans rfl); (try have hfz42_0 := blk_frozen BK355.out 0); (try have hfz42_1 := blk_frozen BK355.out 1); (try have hfz42_2 := blk_frozen BK355.out 2)))
   have n0_ := Aside0.mk (Kd.R_drew HO359.out)
   have n1_ := Aside0.mk (Kd.R_drew HO362.out)
   have n2_ := Aside0.mk (bD BK354.out)
   have n3_ := Aside0.mk (bD BK355.out)
   have n4_ := Aside0.mk (bD BK356.out)
   have n5_ := Aside0.mk (Kept.drew HK.out)
   have n6_ := Aside0.mk (p1 HB.out)
   clear HO359
   clear HO362
   clear BK354
   clear BK355
   clear BK356
   clear HK
   clear HB
   have HO359 := n0_
   have HO362 := n1_
   have BK354 := n2_
   have BK355 := n3_
   have BK356 := n4_
   have HK := n5_
   have HB := n6_
   clear n0_ n1_ n2_ n3_ n4_ n5_ n6_
   refine start_ (n := 8) (S := fun w' => w'.cell? ⟨gb354, 0, none⟩ = some (.bool a0_0) ∧ w'.cell? ⟨gb354, 1, none⟩ = some (.slice Ao30 l0_1.length co30) ∧ w'.cell? ⟨gb354, 2, none⟩ = some (.int .i64 a0_2)) (ds := []) #[false, false, false, false, false, false, false, false] (by kernel_rfl) rfl rfl ⟨(blk_cell BK354.out 0).trans rfl, (blk_cell BK354.out 1).trans rfl, (blk_cell BK354.out 2).trans rfl⟩ (fun hHeld => ?_); refine with_tabW verniertop_plus.tab5 verniertop_plus.bits5 (fun HT_ HW_ => ?_)
   generalize w40.drew = w45 at HO359 HO362 BK354 BK355 BK356 HK HB hHeld ⊢
   refine pure_ (i := 0) (N := some 31) (v := ?_) (a' := ?_) #[true, false, false, false, false, false, false, false] rfl rfl (any_of HT_.out (by kernel_rfl)) (fun _ _ _ h => h) (Or.inl ⟨by rfl, ?_⟩) ?_ ?_
   rotate_left
   ·
    intro w'
    go_simp
    with_reducible rfl
   rotate_left
   ·
    simp only [Act.put, lS_, lZ_, lC_, i64_w, i32_w]
    rfl
   refine pure_ (i := 2) (N := some 33) (v := ?_) (a' := ?_) #[true, false, true, false, false, false, false, false] rfl rfl (any_of HT_.out (by kernel_rfl)) (fun _ _ _ h => h) (Or.inl ⟨by rfl, ?_⟩) ?_ ?_
   rotate_left
   ·
    intro w'
    go_simp
    with_reducible rfl
   rotate_left
   ·
    simp only [Act.put, lS_, lZ_, lC_, i64_w, i32_w]
    rfl
   refine pure_ (i := 3) (N := some 34) (v := ?_) (a' := ?_) #[true, false, true, true, false, false, false, false] rfl rfl (any_of HT_.out (by kernel_rfl)) (fun _ _ _ h => h) (Or.inl ⟨by rfl, ?_⟩) ?_ ?_
   rotate_left
   ·
    intro w'
    go_simp
    with_reducible rfl
   rotate_left
   ·
    simp only [Act.put, lS_, lZ_, lC_, i64_w, i32_w]
    rfl
   refine pure_ (i := 5) (N := some 36) (v := ?_) (a' := ?_) #[true, false, true, true, false, true, false, false] rfl rfl (any_of HT_.out (by kernel_rfl)) (fun _ _ _ h => h) (Or.inl ⟨by rfl, ?_⟩) ?_ ?_
   rotate_left
   ·
    intro w'
    go_simp
    with_reducible rfl
   rotate_left
   ·
    simp only [Act.put, lS_, lZ_, lC_, i64_w, i32_w]
    rfl
   refine take_ (i := 1) (N := some 32) (v := ?_) (a' := ?_) #[true, true, true, true, false, true, false, false] rfl rfl (take_ofW HT_.out HW_.out (by kernel_rfl)) (fun _ _ _ h => h) (Or.inl ⟨by rfl, ?_⟩) hHeld ?_ ?_
   rotate_left
   ·
    rintro w' ⟨s0, s1, s2⟩
    go_simp
    with_reducible rfl
   rotate_left
   ·
    simp only [Act.put, lS_, lZ_, lC_, i64_w, i32_w]
    rfl
   refine one_ (i := 4) (N := some 35) #[true, true, true, true, true, true, false, false] rfl rfl (one_of HT_.out (by kernel_rfl)) (by decide) (fun K hK => ?_)
   refine goes_ Try.func20 (by kernel_rfl) rfl #[.slice Ao43 t357.length co43, .slice Ao44 t360.length co44] (by rfl) rfl rfl (by (try simp only [List.map_toArray, List.map_cons, List.map_nil]); first | done | rfl | (simp only [List.length_drop, List.length_take]; rfl)) ?_
   with_reducible refine (vernierref04_Sub.calls k _ _ t357 _ _ t360 t368 _ ?side1 ?side2 ?side3 ?side4 A29.out).mono ?_
   (case side1 => repeat (first | exact (Kd.R_reads' HO359.out).2.2 | (with_reducible refine Kd.C_alloc ?_ _) | (with_reducible refine Kd.C_drewN ?_ _) | (with_reducible refine Kd.C_drew ?_)))
   (case side2 => exact (Kd.R_reads' HO359.out).2.1)
   (case side3 => repeat (first | exact (Kd.R_reads' HO362.out).2.2 | (with_reducible refine Kd.C_alloc ?_ _) | (with_reducible refine Kd.C_drewN ?_ _) | (with_reducible refine Kd.C_drew ?_)))
   (case side4 => exact (Kd.R_reads' HO362.out).2.1)
   rintro e w46 ⟨v369, rfl, ho0, hb⟩
   refine ⟨_, rfl, ?_⟩
   have n0_ := Aside0.mk (Kd.R_elder' (by (with_reducible repeat (first | apply Kd.R_alloc | apply Kd.R_drewN | apply Kd.R_drew)); exact HO359.out) (Kd.R_base ho0) hb)
   have n1_ := Aside0.mk (Kd.R_elder' (by (with_reducible repeat (first | apply Kd.R_alloc | apply Kd.R_drewN | apply Kd.R_drew)); exact HO362.out) (Kd.R_base ho0) hb)
   have n2_ := Aside0.mk (Kd.R_lower (Kd.R_new' (Kd.R_new' (Kd.R_newM (M := fun k_ => ((P0_1_ k_ ∨ P1_1_ k_) ∨ w.heap.size ≤ k_)) ho0 (by first | exact HK.out.1 | exact (show Kept w _ (fun k_ => P0_1_ k_ ∨ P1_1_ k_) from by repeat (first | (with_reducible first | exact HK.out | apply Kept.alloc | apply Kept.drewN | apply Kept.drew | refine Kept.setCell ?_ (.inr GW354.out) _ | refine Kept.setCell ?_ (.inr GW355.out) _ | refine Kept.setCell ?_ (.inr GW356.out) _) | exact HK.out)).1) (fun k_ h_ => .inr h_)) (Kd.R_lt (by (with_reducible repeat (first | apply Kd.R_alloc | apply Kd.R_drewN | apply Kd.R_drew)); exact HO359.out))) (Kd.R_lt (by (with_reducible repeat (first | apply Kd.R_alloc | apply Kd.R_drewN | apply Kd.R_drew)); exact HO362.out))) (bZ (bR3 HB.out)))
   have n3_ := Aside0.mk (bB3 BK354.out hb)
   have n4_ := Aside0.mk (bB3 BK355.out hb)
   have n5_ := Aside0.mk (bB3 BK356.out hb)
   have n6_ := Aside0.mk (Kept.below (S := (fun k_ => P0_1_ k_ ∨ P1_1_ k_)) (by repeat (first | (with_reducible first | exact HK.out | apply Kept.alloc | apply Kept.drewN | apply Kept.drew | refine Kept.setCell ?_ (.inr GW354.out) _ | refine Kept.setCell ?_ (.inr GW355.out) _ | refine Kept.setCell ?_ (.inr GW356.out) _) | exact HK.out)) hb)
   have n7_ := Aside0.mk (bS3 HB.out hb)
   clear HO359
   clear HO362
   clear BK354
   clear BK355
   clear BK356
   clear HK
   clear HB
   have HO359 := n0_
   have HO362 := n1_
   have HO370 := n2_
   have BK354 := n3_
   have BK355 := n4_
   have BK356 := n5_
   have HK := n6_
   have HB := n7_
   clear n0_ n1_ n2_ n3_ n4_ n5_ n6_ n7_
   (try clear hb)
   (try clear hb2)
   (try clear hk)
   (try clear hi)
   (try clear ho0)
   obtain ⟨Ao47, co47, eo47⟩ := Kd.R_slice HO370.out
   (first | subst eo47 | (injection eo47 with f1_ f2_ f3_; have f4_ := f1_.symm; have f5_ := f3_.symm; clear f1_ f2_ f3_; subst f4_; subst f5_))
   refine hK.out _ _ ⟨(blk_cell BK354.out 0).trans rfl, (blk_cell BK354.out 1).trans rfl, (blk_cell BK354.out 2).trans rfl⟩ (fun hHeld => ?_)
   clear hK K
   refine norm_ (a' := ?_) ?_ ?_
   rotate_left
   ·
    show Act.put _ (some 35) _ = _
    simp only [Act.put, lS_, lZ_, lC_, i64_w, i32_w]
    rfl
   refine pure_ (i := 6) (N := some 37) (v := ?_) (a' := ?_) #[true, true, true, true, true, true, true, false] rfl rfl (any_of HT_.out (by kernel_rfl)) (fun _ _ _ h => h) (Or.inl ⟨by rfl, ?_⟩) ?_ ?_
   rotate_left
   ·
    intro w'
    go_simp
    with_reducible rfl
   rotate_left
   ·
    simp only [Act.put, lS_, lZ_, lC_, i64_w, i32_w]
    rfl
   refine one_ (i := 7) (N := none) #[true, true, true, true, true, true, true, true] rfl rfl (one_of HT_.out (by kernel_rfl)) (by decide) (fun K hK => ?_)
   have hs48 : w46.cell? ⟨gb356, 0, none⟩ = some (.bool false) := (blk_cell BK356.out 0).trans rfl
   have hfs48 := blk_frozen BK356.out 0
   have hns48_0 := NB354_356.out
   have hns48_1 := NB355_356.out
   have hms48_0 := NB356_354.out
   have hms48_1 := NB356_355.out
   have hs49 : w46.cell? ⟨gb356, 1, none⟩ = some (.slice none 0 0) := (blk_cell BK356.out 1).trans rfl
   have hfs49 := blk_frozen BK356.out 1
   have hns49_0 := NB354_356.out
   have hns49_1 := NB355_356.out
   have hms49_0 := NB356_354.out
   have hms49_1 := NB356_355.out
   have hs50 : w46.cell? ⟨gb356, 2, none⟩ = some (.int .i64 0) := (blk_cell BK356.out 2).trans rfl
   have hfs50 := blk_frozen BK356.out 2
   have hns50_0 := NB354_356.out
   have hns50_1 := NB355_356.out
   have hms50_0 := NB356_354.out
   have hms50_1 := NB356_355.out
   refine skip_ (w1 := ?_) (by rfl) rfl ?_ ?_
   rotate_left
   ·
    go_simp
    rfl
   refine hK.out _ _ ⟨((cell_far (p := ⟨gb356, _, none⟩) NB354_356.out _).trans (((cell_far (p := ⟨gb356, _, none⟩) NB354_356.out _).trans (((cell_far (p := ⟨gb356, _, none⟩) NB354_356.out _).trans (hHeld.1)))))), ((cell_far (p := ⟨gb356, _, none⟩) NB354_356.out _).trans (((cell_far (p := ⟨gb356, _, none⟩) NB354_356.out _).trans (((cell_far (p := ⟨gb356, _, none⟩) NB354_356.out _).trans (hHeld.2.1)))))), ((cell_far (p := ⟨gb356, _, none⟩) NB354_356.out _).trans (((cell_far (p := ⟨gb356, _, none⟩) NB354_356.out _).trans (((cell_far (p := ⟨gb356, _, none⟩) NB354_356.out _).trans (hHeld.2.2))))))⟩ (fun hHeld => ?_)
   clear hK K
   refine done_ (done_of HT_.out (by kernel_rfl)) ?_
   try go_wp2
   refine bodyPost_ret (results_cell_row rfl _ _ gb356 32 #[.bool a0_0, .slice Ao47 t368.length co47, .int .i64 t363] (0, 0) _ rfl (bQ3 BK356.out) Try.underlying32 rfl (by kernel_rfl)) rfl ?_
   exact ⟨_, eR3, by (with_reducible repeat (first | apply Kd.R_alloc | apply Kd.R_drewN | apply Kd.R_drew)); exact Kd.R_mono (Kd.R_far (p := ⟨gb356, 2, none⟩) (Kd.R_far (p := ⟨gb356, 1, none⟩) (Kd.R_far (p := ⟨gb356, 0, none⟩) (Kd.R_types HO370.out BK356.out (by decide)) (fun _ hk => hk.2) (.bool a0_0)) (fun _ hk => hk.2) (.slice Ao47 t368.length co47)) (fun _ hk => hk.2) (.int .i64 t363)) (fun _ hk => hk.1.1.1.1), bR3 HB.out, by repeat (first | (with_reducible first | exact HK.out | apply Kept.alloc | apply Kept.drewN | apply Kept.drew | refine Kept.setCell ?_ (.inr GW354.out) _ | refine Kept.setCell ?_ (.inr GW355.out) _ | refine Kept.setCell ?_ (.inr GW356.out) _) | exact HK.out)⟩
  ·
   rw [if_neg c28] at H
   have c28b0 : decide (0 ≤ t367) = false := decide_eq_false c28
   clear c28
   replace H := Option.bind_eq_some_iff.mp H
   obtain ⟨t371, A510, H⟩ := H
   try dsimp -simprocs only at H
   have A51 := Aside0.mk A510
   clear A510
   simp only [Option.some.injEq, Prod.mk.injEq] at H
   obtain ⟨rfl, rfl, rfl⟩ := H
   obtain ⟨Ao52, co52, eo52⟩ := Kd.R_slice HO0_1.out
   subst eo52
   go_enter Try.func8, Try.ntmps8
   try go_wp2_with (first | ((with_reducible refine gD (N := 2) rfl ?_); refine bE3 2 #[.bool a0_0, .slice Ao52 l0_1.length co52, .int .i64 a0_2] 32 ?hr ?_; (case hr => first | (go_simp; done) | (go_simp; rfl)); intro gb354 hg w53 hbox hb; replace HO0_1 := Aside0.mk (Kd.R_below (by (with_reducible repeat (first | apply Kd.R_alloc | apply Kd.R_drewN | apply Kd.R_drew)); exact HO0_1.out) hb); replace HO1_1 := Aside0.mk (Kd.R_below (by (with_reducible repeat (first | apply Kd.R_alloc | apply Kd.R_drewN | apply Kd.R_drew)); exact HO1_1.out) hb); have BK354 := Aside0.mk (hbox); have GW354 := Aside0.mk ((by rw [hg]; exact (by first | exact HK.out.1 | exact (show Kept w _ (fun k_ => P0_1_ k_ ∨ P1_1_ k_) from by repeat (first | (with_reducible first | exact HK.out | apply Kept.alloc | apply Kept.drewN | apply Kept.drew) | exact HK.out)).1) : w.heap.size ≤ gb354)); replace HK := Aside0.mk (Kept.below (S := (fun k_ => P0_1_ k_ ∨ P1_1_ k_)) (by repeat (first | (with_reducible first | exact HK.out | apply Kept.alloc | apply Kept.drewN | apply Kept.drew) | exact HK.out)) hb); have GE354 := Aside0.mk ((by rw [hg]; exact (bZ (bR3 HB.out)) : w0.heap.size ≤ gb354)); replace HB := Aside0.mk (bS3 HB.out hb); clear hb hbox hg; obtain ⟨Ao54, co54, eo54⟩ := Kd.R_slice HO1_1.out; subst eo54) | ((with_reducible refine gD (N := 3) rfl ?_); refine bE3 3 #[.bool a1_0, .slice Ao54 l1_1.length co54, .int .i64 a1_2] 32 ?hr ?_; (case hr => first | (go_simp; done) | (go_simp; rfl)); intro gb355 hg w55 hbox hb; replace HO0_1 := Aside0.mk (Kd.R_below (by (with_reducible repeat (first | apply Kd.R_alloc | apply Kd.R_drewN | apply Kd.R_drew)); exact HO0_1.out) hb); replace HO1_1 := Aside0.mk (Kd.R_below (by (with_reducible repeat (first | apply Kd.R_alloc | apply Kd.R_drewN | apply Kd.R_drew)); exact HO1_1.out) hb); have BK355 := Aside0.mk (hbox); have GW355 := Aside0.mk ((by rw [hg]; exact (by first | exact HK.out.1 | exact (show Kept w _ (fun k_ => P0_1_ k_ ∨ P1_1_ k_) from by repeat (first | (with_reducible first | exact HK.out | apply Kept.alloc | apply Kept.drewN | apply Kept.drew | refine Kept.setCell ?_ (.inr GW354.out) _) | exact HK.out)).1) : w.heap.size ≤ gb355)); replace HK := Aside0.mk (Kept.below (S := (fun k_ => P0_1_ k_ ∨ P1_1_ k_)) (by repeat (first | (with_reducible first | exact HK.out | apply Kept.alloc | apply Kept.drewN | apply Kept.drew | refine Kept.setCell ?_ (.inr GW354.out) _) | exact HK.out)) hb); have GE355 := Aside0.mk ((by rw [hg]; exact (bZ (bR3 HB.out)) : w0.heap.size ≤ gb355)); replace HB := Aside0.mk (bS3 HB.out hb); have NB354_355 := Aside0.mk ((bL3 hg BK354.out)); have NB355_354 := Aside0.mk ((bG3 hg BK354.out)); replace BK354 := Aside0.mk (bB3 BK354.out hb); clear hb hbox hg) | ((with_reducible refine gD (N := 4) rfl ?_); refine bE3 4 #[.bool false, .slice none 0 0, .int .i64 0] 32 ?hr ?_; (case hr => first | (go_simp; done) | (go_simp; rfl)); intro gb356 hg w56 hbox hb; replace HO0_1 := Aside0.mk (Kd.R_below (by (with_reducible repeat (first | apply Kd.R_alloc | apply Kd.R_drewN | apply Kd.R_drew)); exact HO0_1.out) hb); replace HO1_1 := Aside0.mk (Kd.R_below (by (with_reducible repeat (first | apply Kd.R_alloc | apply Kd.R_drewN | apply Kd.R_drew)); exact HO1_1.out) hb); have BK356 := Aside0.mk (hbox); have GW356 := Aside0.mk ((by rw [hg]; exact (by first | exact HK.out.1 | exact (show Kept w _ (fun k_ => P0_1_ k_ ∨ P1_1_ k_) from by repeat (first | (with_reducible first | exact HK.out | apply Kept.alloc | apply Kept.drewN | apply Kept.drew | refine Kept.setCell ?_ (.inr GW354.out) _ | refine Kept.setCell ?_ (.inr GW355.out) _) | exact HK.out)).1) : w.heap.size ≤ gb356)); replace HK := Aside0.mk (Kept.below (S := (fun k_ => P0_1_ k_ ∨ P1_1_ k_)) (by repeat (first | (with_reducible first | exact HK.out | apply Kept.alloc | apply Kept.drewN | apply Kept.drew | refine Kept.setCell ?_ (.inr GW354.out) _ | refine Kept.setCell ?_ (.inr GW355.out) _) | exact HK.out)) hb); have GE356 := Aside0.mk ((by rw [hg]; exact (bZ (bR3 HB.out)) : w0.heap.size ≤ gb356)); replace HB := Aside0.mk (bS3 HB.out hb); have NB354_356 := Aside0.mk ((bL3 hg BK354.out)); have NB356_354 := Aside0.mk ((bG3 hg BK354.out)); replace BK354 := Aside0.mk (bB3 BK354.out hb); have NB355_356 := Aside0.mk ((bL3 hg BK355.out)); have NB356_355 := Aside0.mk ((bG3 hg BK355.out)); replace BK355 := Aside0.mk (bB3 BK355.out hb); clear hb hbox hg; have hnb57 := NB354_355.out; have hnc57 := NB355_354.out; have hnb58 := NB354_356.out; have hnc58 := NB356_354.out; obtain ⟨hcz59_0, hcz59_1, hcz59_2, hfz59_0, hfz59_1, hfz59_2⟩ := cl3 BK354.out; have hnb60 := NB355_356.out; have hnc60 := NB356_355.out; obtain ⟨hcz61_0, hcz61_1, hcz61_2, hfz61_0, hfz61_1, hfz61_2⟩ := cl3 BK355.out) | ((with_reducible refine gX_ 17 11 rfl rfl ?_); refine goesY_ (some 11) Try.func17 #[.agg #[.bool a0_0, .slice Ao52 l0_1.length co52, .int .i64 a0_2], .agg #[.bool a1_0, .slice Ao54 l1_1.length co54, .int .i64 a1_2]] ?_; (with_reducible refine (verniertop_down.calls k a0_0 (fun k_ => some k_ = (.slice Ao52 l0_1.length co52 : Value).ownBlock) (.slice Ao52 l0_1.length co52) l0_1 a0_2 a1_0 (fun k_ => some k_ = (.slice Ao54 l1_1.length co54 : Value).ownBlock) (.slice Ao54 l1_1.length co54) l1_1 a1_2 t357 t360 t363 w0 _ ?side1 ?side2 ?side3 ?side4 ?side5 A3.out).mono ?_); (case side1 => repeat (first | (with_reducible first | exact HB.out | apply pA | apply pN | apply p1 | refine pS ?_ GE354.out | refine pS ?_ GE355.out | refine pS ?_ GE356.out) | exact HB.out)); (case side2 => exact Kd.R_tight rfl HO0_1.out); (case side3 => exact fun k_ e_ => (HO0_1.out.1 k_ e_.symm).2); (case side4 => exact Kd.R_tight rfl HO1_1.out); (case side5 => exact fun k_ e_ => (HO1_1.out.1 k_ e_.symm).2); rintro e w62 ⟨v358, v361, rfl, ho0, ho1, hb, hkp⟩; refine ⟨_, rfl, ?_⟩; replace BK354 := Aside0.mk (blk_kept (bK3 BK354.out) hkp (fun hs_ => Or.elim hs_ (fun e_ => (fun e_ => (Kd.R_ne HO0_1.out BK354.out (by decide)) e_) e_) (fun e_ => (fun e_ => (Kd.R_ne HO1_1.out BK354.out (by decide)) e_) e_))); replace BK355 := Aside0.mk (blk_kept (bK3 BK355.out) hkp (fun hs_ => Or.elim hs_ (fun e_ => (fun e_ => (Kd.R_ne HO0_1.out BK355.out (by decide)) e_) e_) (fun e_ => (fun e_ => (Kd.R_ne HO1_1.out BK355.out (by decide)) e_) e_))); replace BK356 := Aside0.mk (blk_kept (bK3 BK356.out) hkp (fun hs_ => Or.elim hs_ (fun e_ => (fun e_ => (Kd.R_ne HO0_1.out BK356.out (by decide)) e_) e_) (fun e_ => (fun e_ => (Kd.R_ne HO1_1.out BK356.out (by decide)) e_) e_))); have HO359 := Aside0.mk (Kd.R_mono (ok' := fun k_ => ((P0_1_ k_ ∨ P1_1_ k_) ∨ w.heap.size ≤ k_) ∧ some k_ ≠ (v361 : Value).ownBlock) ho0 (fun k_ hk_ => ⟨Or.elim hk_.1 (fun hs_ => Or.elim hs_ (fun hs_ => (HO0_1.out.1 k_ (hs_).symm).1) (fun hs_ => (HO1_1.out.1 k_ (hs_).symm).1)) (fun hn_ => (.inr (Nat.le_trans (by first | exact HK.out.1 | exact (show Kept w _ (fun k_ => P0_1_ k_ ∨ P1_1_ k_) from by repeat (first | (with_reducible first | exact HK.out | apply Kept.alloc | apply Kept.drewN | apply Kept.drew | refine Kept.setCell ?_ (.inr GW354.out) _ | refine Kept.setCell ?_ (.inr GW355.out) _ | refine Kept.setCell ?_ (.inr GW356.out) _) | exact HK.out)).1) hn_))), hk_.2⟩)); have HO362 := Aside0.mk (Kd.R_mono (ok' := fun k_ => ((P0_1_ k_ ∨ P1_1_ k_) ∨ w.heap.size ≤ k_) ∧ some k_ ≠ (v358 : Value).ownBlock) ho1 (fun k_ hk_ => ⟨Or.elim hk_.1 (fun hs_ => Or.elim hs_ (fun hs_ => (HO0_1.out.1 k_ (hs_).symm).1) (fun hs_ => (HO1_1.out.1 k_ (hs_).symm).1)) (fun hn_ => (.inr (Nat.le_trans (by first | exact HK.out.1 | exact (show Kept w _ (fun k_ => P0_1_ k_ ∨ P1_1_ k_) from by repeat (first | (with_reducible first | exact HK.out | apply Kept.alloc | apply Kept.drewN | apply Kept.drew | refine Kept.setCell ?_ (.inr GW354.out) _ | refine Kept.setCell ?_ (.inr GW355.out) _ | refine Kept.setCell ?_ (.inr GW356.out) _) | exact HK.out)).1) hn_))), hk_.2⟩)); replace HK := Aside0.mk (Kept.then_ (S := (fun k_ => P0_1_ k_ ∨ P1_1_ k_)) (by repeat (first | (with_reducible first | exact HK.out | apply Kept.alloc | apply Kept.drewN | apply Kept.drew | refine Kept.setCell ?_ (.inr GW354.out) _ | refine Kept.setCell ?_ (.inr GW355.out) _ | refine Kept.setCell ?_ (.inr GW356.out) _) | exact HK.out)) hkp (fun k_ hs_ => Or.elim hs_ (fun e_ => (fun e_ => (HO0_1.out.1 k_ e_.symm).1) e_) (fun e_ => (fun e_ => (HO1_1.out.1 k_ e_.symm).1) e_))); replace HB := Aside0.mk (hb); clear HO0_1; clear HO1_1; (try clear hb); (try clear hkp); (try clear ho0); (try clear ho1); obtain ⟨hcz63_0, hcz63_1, hcz63_2, hfz63_0, hfz63_1, hfz63_2⟩ := cl3 BK354.out; obtain ⟨hcz64_0, hcz64_1, hcz64_2, hfz64_0, hfz64_1, hfz64_2⟩ := cl3 BK355.out; obtain ⟨Ao65, co65, eo65⟩ := Kd.R_slice HO359.out; subst eo65; obtain ⟨Ao66, co66, eo66⟩ := Kd.R_slice HO362.out; subst eo66) | ((with_reducible refine gX_ 19 29 rfl rfl ?_); refine goesY_ (some 29) Try.func19 #[.slice Ao65 t357.length co65, .slice Ao66 t360.length co66] ?_; (with_reducible refine (vernierref04_Cmp.calls k _ _ t357 _ _ t360 t367 _ ?side1 ?side2 ?side3 ?side4 A27.out).mono ?_); (case side1 => repeat (first | exact (Kd.R_reads' HO359.out).2.2 | (with_reducible refine Kd.C_alloc ?_ _) | (with_reducible refine Kd.C_drewN ?_ _) | (with_reducible refine Kd.C_drew ?_))); (case side2 => exact (Kd.R_reads' HO359.out).2.1); (case side3 => repeat (first | exact (Kd.R_reads' HO362.out).2.2 | (with_reducible refine Kd.C_alloc ?_ _) | (with_reducible refine Kd.C_drewN ?_ _) | (with_reducible refine Kd.C_drew ?_))); (case side4 => exact (Kd.R_reads' HO362.out).2.1); rintro e w' ⟨rfl, ⟨nd, rfl⟩⟩; refine ⟨_, rfl, ?_⟩; (try (rw [drewN_self w62]; generalize hq_ : World.drewN w62 _ = w62; have n0_ : Aside0 (Kd.R (Kd.int .i64) 3 w62 w0.heap.size (fun k_ => ((P0_1_ k_ ∨ P1_1_ k_) ∨ w.heap.size ≤ k_) ∧ some k_ ≠ (.slice Ao66 t360.length co66 : Value).ownBlock) (.slice Ao65 t357.length co65) t357) := ⟨by rw [← hq_]; exact (by (with_reducible repeat (first | apply Kd.R_alloc | apply Kd.R_drewN | apply Kd.R_drew)); exact HO359.out)⟩; have n1_ : Aside0 (Kd.R (Kd.int .i64) 3 w62 w0.heap.size (fun k_ => ((P0_1_ k_ ∨ P1_1_ k_) ∨ w.heap.size ≤ k_) ∧ some k_ ≠ (.slice Ao65 t357.length co65 : Value).ownBlock) (.slice Ao66 t360.length co66) t360) := ⟨by rw [← hq_]; exact (by (with_reducible repeat (first | apply Kd.R_alloc | apply Kd.R_drewN | apply Kd.R_drew)); exact HO362.out)⟩; have n2_ : Aside0 (w62.heap[gb354]? = some (.cells #[.bool a0_0, .slice Ao52 l0_1.length co52, .int .i64 a0_2] 32 (0, 0))) := ⟨by rw [← hq_]; exact (bK3 BK354.out)⟩; have n3_ : Aside0 (w62.heap[gb355]? = some (.cells #[.bool a1_0, .slice Ao54 l1_1.length co54, .int .i64 a1_2] 32 (0, 0))) := ⟨by rw [← hq_]; exact (bK3 BK355.out)⟩; have n4_ : Aside0 (w62.heap[gb356]? = some (.cells #[.bool false, .slice none 0 0, .int .i64 0] 32 (0, 0))) := ⟨by rw [← hq_]; exact (bK3 BK356.out)⟩; have n5_ : Aside0 (Kept w w62 (fun k_ => P0_1_ k_ ∨ P1_1_ k_)) := ⟨by rw [← hq_]; exact (by repeat (first | (with_reducible first | exact HK.out | apply Kept.alloc | apply Kept.drewN | apply Kept.drew | refine Kept.setCell ?_ (.inr GW354.out) _ | refine Kept.setCell ?_ (.inr GW355.out) _ | refine Kept.setCell ?_ (.inr GW356.out) _) | exact HK.out))⟩; have n6_ : Aside0 (Below w0.heap.size w0 w62) := ⟨by rw [← hq_]; exact (bR3 HB.out)⟩; clear HO359 HO362 BK354 BK355 BK356 HK HB hq_; have HO359 := n0_; have HO362 := n1_; have BK354 := n2_; have BK355 := n3_; have BK356 := n4_; have HK := n5_; have HB := n6_; clear n0_ n1_ n2_ n3_ n4_ n5_ n6_)); (try have hfz59_0 := blk_frozen BK354.out 0); (try have hfz59_1 := blk_frozen BK354.out 1); (try have hfz59_2 := blk_frozen BK354.out 2); (try have hfz61_0 := blk_frozen BK355.out 0); (try have hfz61_1 := blk_frozen BK355.out 1); (try have hfz61_2 := blk_frozen BK355.out 2); (try have hcz63_0 : w62.cell? ⟨gb354, 0, none⟩ = some (.bool a0_0) := (blk_cell BK354.out 0).trans rfl); (try have hcz63_1 : w62.cell? ⟨gb354, 1, none⟩ = some (.slice Ao52 l0_1.length co52) := (blk_cell BK354.out 1).trans rfl); (try have hcz63_2 : w62.cell? ⟨gb354, 2, none⟩ = some (.int .i64 a0_2) := (blk_cell BK354.out 2).trans rfl); (try have hfz63_0 := blk_frozen BK354.out 0); (try have hfz63_1 := blk_frozen BK354.out 1); (try have hfz63_2 := blk_frozen BK354.out 2); (try have hcz64_0 : w62.cell? ⟨gb355, 0, none⟩ = some (.bool a1_0) := (blk_cell BK355.out 0).trans rfl); (try have hcz64_1 : w62.cell? ⟨gb355, 1, none⟩ = some (.slice Ao54 l1_1.length co54) := (blk_cell BK355.out 1).trans rfl); (try have hcz64_2 : w62.cell? ⟨gb355, 2, none⟩ = some (.int .i64 a1_2) := (blk_cell BK355.out 2).trans rfl); (try have hfz64_0 := blk_frozen BK355.out 0); (try have hfz64_1 := blk_frozen BK355.out 1); (try have hfz64_2 := blk_frozen BK355.out 2)))
   have n0_ := Aside0.mk (Kd.R_drew HO359.out)
   have n1_ := Aside0.mk (Kd.R_drew HO362.out)
   have n2_ := Aside0.mk (bD BK354.out)
   have n3_ := Aside0.mk (bD BK355.out)
   have n4_ := Aside0.mk (bD BK356.out)
   have n5_ := Aside0.mk (Kept.drew HK.out)
   have n6_ := Aside0.mk (p1 HB.out)
   clear HO359
   clear HO362
   clear BK354
   clear BK355
   clear BK356
   clear HK
   clear HB
   have HO359 := n0_
   have HO362 := n1_
   have BK354 := n2_
   have BK355 := n3_
   have BK356 := n4_
   have HK := n5_
   have HB := n6_
   clear n0_ n1_ n2_ n3_ n4_ n5_ n6_
   refine start_ (n := 8) (S := fun w' => w'.cell? ⟨gb355, 0, none⟩ = some (.bool a1_0) ∧ w'.cell? ⟨gb355, 1, none⟩ = some (.slice Ao54 l1_1.length co54) ∧ w'.cell? ⟨gb355, 2, none⟩ = some (.int .i64 a1_2)) (ds := []) #[false, false, false, false, false, false, false, false] (by kernel_rfl) rfl rfl ⟨(blk_cell BK355.out 0).trans rfl, (blk_cell BK355.out 1).trans rfl, (blk_cell BK355.out 2).trans rfl⟩ (fun hHeld => ?_); refine with_tabW verniertop_plus.tab6 verniertop_plus.bits6 (fun HT_ HW_ => ?_)
   generalize w62.drew = w67 at HO359 HO362 BK354 BK355 BK356 HK HB hHeld ⊢
   refine pure_ (i := 0) (N := some 38) (v := ?_) (a' := ?_) #[true, false, false, false, false, false, false, false] rfl rfl (any_of HT_.out (by kernel_rfl)) (fun _ _ _ h => h) (Or.inl ⟨by rfl, ?_⟩) ?_ ?_
   rotate_left
   ·
    intro w'
    go_simp
    with_reducible rfl
   rotate_left
   ·
    simp only [Act.put, lS_, lZ_, lC_, i64_w, i32_w]
    rfl
   refine pure_ (i := 2) (N := some 40) (v := ?_) (a' := ?_) #[true, false, true, false, false, false, false, false] rfl rfl (any_of HT_.out (by kernel_rfl)) (fun _ _ _ h => h) (Or.inl ⟨by rfl, ?_⟩) ?_ ?_
   rotate_left
   ·
    intro w'
    go_simp
    with_reducible rfl
   rotate_left
   ·
    simp only [Act.put, lS_, lZ_, lC_, i64_w, i32_w]
    rfl
   refine pure_ (i := 3) (N := some 41) (v := ?_) (a' := ?_) #[true, false, true, true, false, false, false, false] rfl rfl (any_of HT_.out (by kernel_rfl)) (fun _ _ _ h => h) (Or.inl ⟨by rfl, ?_⟩) ?_ ?_
   rotate_left
   ·
    intro w'
    go_simp
    with_reducible rfl
   rotate_left
   ·
    simp only [Act.put, lS_, lZ_, lC_, i64_w, i32_w]
    rfl
   refine pure_ (i := 5) (N := some 43) (v := ?_) (a' := ?_) #[true, false, true, true, false, true, false, false] rfl rfl (any_of HT_.out (by kernel_rfl)) (fun _ _ _ h => h) (Or.inl ⟨by rfl, ?_⟩) ?_ ?_
   rotate_left
   ·
    intro w'
    go_simp
    with_reducible rfl
   rotate_left
   ·
    simp only [Act.put, lS_, lZ_, lC_, i64_w, i32_w]
    rfl
   refine take_ (i := 1) (N := some 39) (v := ?_) (a' := ?_) #[true, true, true, true, false, true, false, false] rfl rfl (take_ofW HT_.out HW_.out (by kernel_rfl)) (fun _ _ _ h => h) (Or.inl ⟨by rfl, ?_⟩) hHeld ?_ ?_
   rotate_left
   ·
    rintro w' ⟨s0, s1, s2⟩
    go_simp
    with_reducible rfl
   rotate_left
   ·
    simp only [Act.put, lS_, lZ_, lC_, i64_w, i32_w]
    rfl
   refine one_ (i := 4) (N := some 42) #[true, true, true, true, true, true, false, false] rfl rfl (one_of HT_.out (by kernel_rfl)) (by decide) (fun K hK => ?_)
   refine goes_ Try.func20 (by kernel_rfl) rfl #[.slice Ao66 t360.length co66, .slice Ao65 t357.length co65] (by rfl) rfl rfl (by (try simp only [List.map_toArray, List.map_cons, List.map_nil]); first | done | rfl | (simp only [List.length_drop, List.length_take]; rfl)) ?_
   with_reducible refine (vernierref04_Sub.calls k _ _ t360 _ _ t357 t371 _ ?side1 ?side2 ?side3 ?side4 A51.out).mono ?_
   (case side1 => repeat (first | exact (Kd.R_reads' HO362.out).2.2 | (with_reducible refine Kd.C_alloc ?_ _) | (with_reducible refine Kd.C_drewN ?_ _) | (with_reducible refine Kd.C_drew ?_)))
   (case side2 => exact (Kd.R_reads' HO362.out).2.1)
   (case side3 => repeat (first | exact (Kd.R_reads' HO359.out).2.2 | (with_reducible refine Kd.C_alloc ?_ _) | (with_reducible refine Kd.C_drewN ?_ _) | (with_reducible refine Kd.C_drew ?_)))
   (case side4 => exact (Kd.R_reads' HO359.out).2.1)
   rintro e w68 ⟨v372, rfl, ho0, hb⟩
   refine ⟨_, rfl, ?_⟩
   have n0_ := Aside0.mk (Kd.R_elder' (by (with_reducible repeat (first | apply Kd.R_alloc | apply Kd.R_drewN | apply Kd.R_drew)); exact HO359.out) (Kd.R_base ho0) hb)
   have n1_ := Aside0.mk (Kd.R_elder' (by (with_reducible repeat (first | apply Kd.R_alloc | apply Kd.R_drewN | apply Kd.R_drew)); exact HO362.out) (Kd.R_base ho0) hb)
   have n2_ := Aside0.mk (Kd.R_lower (Kd.R_new' (Kd.R_new' (Kd.R_newM (M := fun k_ => ((P0_1_ k_ ∨ P1_1_ k_) ∨ w.heap.size ≤ k_)) ho0 (by first | exact HK.out.1 | exact (show Kept w _ (fun k_ => P0_1_ k_ ∨ P1_1_ k_) from by repeat (first | (with_reducible first | exact HK.out | apply Kept.alloc | apply Kept.drewN | apply Kept.drew | refine Kept.setCell ?_ (.inr GW354.out) _ | refine Kept.setCell ?_ (.inr GW355.out) _ | refine Kept.setCell ?_ (.inr GW356.out) _) | exact HK.out)).1) (fun k_ h_ => .inr h_)) (Kd.R_lt (by (with_reducible repeat (first | apply Kd.R_alloc | apply Kd.R_drewN | apply Kd.R_drew)); exact HO359.out))) (Kd.R_lt (by (with_reducible repeat (first | apply Kd.R_alloc | apply Kd.R_drewN | apply Kd.R_drew)); exact HO362.out))) (bZ (bR3 HB.out)))
   have n3_ := Aside0.mk (bB3 BK354.out hb)
   have n4_ := Aside0.mk (bB3 BK355.out hb)
   have n5_ := Aside0.mk (bB3 BK356.out hb)
   have n6_ := Aside0.mk (Kept.below (S := (fun k_ => P0_1_ k_ ∨ P1_1_ k_)) (by repeat (first | (with_reducible first | exact HK.out | apply Kept.alloc | apply Kept.drewN | apply Kept.drew | refine Kept.setCell ?_ (.inr GW354.out) _ | refine Kept.setCell ?_ (.inr GW355.out) _ | refine Kept.setCell ?_ (.inr GW356.out) _) | exact HK.out)) hb)
   have n7_ := Aside0.mk (bS3 HB.out hb)
   clear HO359
   clear HO362
   clear BK354
   clear BK355
   clear BK356
   clear HK
   clear HB
   have HO359 := n0_
   have HO362 := n1_
   have HO373 := n2_
   have BK354 := n3_
   have BK355 := n4_
   have BK356 := n5_
   have HK := n6_
   have HB := n7_
   clear n0_ n1_ n2_ n3_ n4_ n5_ n6_ n7_
   (try clear hb)
   (try clear hb2)
   (try clear hk)
   (try clear hi)
   (try clear ho0)
   obtain ⟨Ao69, co69, eo69⟩ := Kd.R_slice HO373.out
   (first | subst eo69 | (injection eo69 with f1_ f2_ f3_; have f4_ := f1_.symm; have f5_ := f3_.symm; clear f1_ f2_ f3_; subst f4_; subst f5_))
   refine hK.out _ _ ⟨(blk_cell BK355.out 0).trans rfl, (blk_cell BK355.out 1).trans rfl, (blk_cell BK355.out 2).trans rfl⟩ (fun hHeld => ?_)
   clear hK K
   refine norm_ (a' := ?_) ?_ ?_
   rotate_left
   ·
    show Act.put _ (some 42) _ = _
    simp only [Act.put, lS_, lZ_, lC_, i64_w, i32_w]
    rfl
   refine pure_ (i := 6) (N := some 44) (v := ?_) (a' := ?_) #[true, true, true, true, true, true, true, false] rfl rfl (any_of HT_.out (by kernel_rfl)) (fun _ _ _ h => h) (Or.inl ⟨by rfl, ?_⟩) ?_ ?_
   rotate_left
   ·
    intro w'
    go_simp
    with_reducible rfl
   rotate_left
   ·
    simp only [Act.put, lS_, lZ_, lC_, i64_w, i32_w]
    rfl
   refine one_ (i := 7) (N := none) #[true, true, true, true, true, true, true, true] rfl rfl (one_of HT_.out (by kernel_rfl)) (by decide) (fun K hK => ?_)
   have hs70 : w68.cell? ⟨gb356, 0, none⟩ = some (.bool false) := (blk_cell BK356.out 0).trans rfl
   have hfs70 := blk_frozen BK356.out 0
   have hns70_0 := NB354_356.out
   have hns70_1 := NB355_356.out
   have hms70_0 := NB356_354.out
   have hms70_1 := NB356_355.out
   have hs71 : w68.cell? ⟨gb356, 1, none⟩ = some (.slice none 0 0) := (blk_cell BK356.out 1).trans rfl
   have hfs71 := blk_frozen BK356.out 1
   have hns71_0 := NB354_356.out
   have hns71_1 := NB355_356.out
   have hms71_0 := NB356_354.out
   have hms71_1 := NB356_355.out
   have hs72 : w68.cell? ⟨gb356, 2, none⟩ = some (.int .i64 0) := (blk_cell BK356.out 2).trans rfl
   have hfs72 := blk_frozen BK356.out 2
   have hns72_0 := NB354_356.out
   have hns72_1 := NB355_356.out
   have hms72_0 := NB356_354.out
   have hms72_1 := NB356_355.out
   refine skip_ (w1 := ?_) (by rfl) rfl ?_ ?_
   rotate_left
   ·
    go_simp
    rfl
   refine hK.out _ _ ⟨((cell_far (p := ⟨gb356, _, none⟩) NB355_356.out _).trans (((cell_far (p := ⟨gb356, _, none⟩) NB355_356.out _).trans (((cell_far (p := ⟨gb356, _, none⟩) NB355_356.out _).trans (hHeld.1)))))), ((cell_far (p := ⟨gb356, _, none⟩) NB355_356.out _).trans (((cell_far (p := ⟨gb356, _, none⟩) NB355_356.out _).trans (((cell_far (p := ⟨gb356, _, none⟩) NB355_356.out _).trans (hHeld.2.1)))))), ((cell_far (p := ⟨gb356, _, none⟩) NB355_356.out _).trans (((cell_far (p := ⟨gb356, _, none⟩) NB355_356.out _).trans (((cell_far (p := ⟨gb356, _, none⟩) NB355_356.out _).trans (hHeld.2.2))))))⟩ (fun hHeld => ?_)
   clear hK K
   refine done_ (done_of HT_.out (by kernel_rfl)) ?_
   try go_wp2
   refine bodyPost_ret (results_cell_row rfl _ _ gb356 32 #[.bool a1_0, .slice Ao69 t371.length co69, .int .i64 t363] (0, 0) _ rfl (bQ3 BK356.out) Try.underlying32 rfl (by kernel_rfl)) rfl ?_
   exact ⟨_, eR3, by (with_reducible repeat (first | apply Kd.R_alloc | apply Kd.R_drewN | apply Kd.R_drew)); exact Kd.R_mono (Kd.R_far (p := ⟨gb356, 2, none⟩) (Kd.R_far (p := ⟨gb356, 1, none⟩) (Kd.R_far (p := ⟨gb356, 0, none⟩) (Kd.R_types HO373.out BK356.out (by decide)) (fun _ hk => hk.2) (.bool a1_0)) (fun _ hk => hk.2) (.slice Ao69 t371.length co69)) (fun _ hk => hk.2) (.int .i64 t363)) (fun _ hk => hk.1.1.1.1), bR3 HB.out, by repeat (first | (with_reducible first | exact HK.out | apply Kept.alloc | apply Kept.drewN | apply Kept.drew | refine Kept.setCell ?_ (.inr GW354.out) _ | refine Kept.setCell ?_ (.inr GW355.out) _ | refine Kept.setCell ?_ (.inr GW356.out) _) | exact HK.out)⟩
def verniertop_times.f (k : Nat) (a0_0 : Bool) (l0_1 : List Int) (a0_2 : Int) (a1_0 : Bool) (l1_1 : List Int) (a1_2 : Int) : Option (Bool × List Int × Int) := (vernierref04_Mul.f k l0_1 l1_1).bind fun t388 => (some ((a0_0 != a1_0), t388, wrap64 (a0_2 + a1_2)))
def verniertop_times.T1 : Bool × List (List Nat × List Nat) := (true, [([], []), ([0], [0]), ([], []), ([2], [2]), ([1, 3], [1, 3]), ([], []), ([5], [5]), ([], []), ([7], [7]), ([6, 8], [6, 8]), ([], []), ([10], [10]), ([], []), ([12], [12]), ([11, 13], [11, 13]), ([4, 9, 14], [4, 9, 14]), ([15, 9, 0, 1, 2, 3, 4, 5, 6, 7, 8, 9, 10, 11, 12, 13, 14, 15], [15])])
def verniertop_times.B1 : List Nat := [0, 1, 0, 4, 15, 0, 32, 0, 128, 480, 0, 1024, 0, 4096, 15360, 32767, 65535]
theorem verniertop_times.tab1 : rtab .any (opsOf Try.f9 1) = verniertop_times.T1 := by kernel_rfl
theorem verniertop_times.bits1 : waitsOk verniertop_times.T1.2 verniertop_times.B1 = true := by kernel_rfl
set_option maxHeartbeats 8000000 in
set_option maxRecDepth 100000 in
theorem verniertop_times.calls (k : Nat) (a0_0 : Bool) (A0_1 : Option Addr) (c0_1 : Nat) (l0_1 : List Int) (a0_2 : Int) (a1_0 : Bool) (A1_1 : Option Addr) (c1_1 : Nat) (l1_1 : List Int) (a1_2 : Int) (r1 : Bool) (r2 : List Int) (r3 : Int) (w : World) (hr0_1 : Kd.C (Kd.int .i64) w A0_1 l0_1.length l0_1) (hc0_1 : l0_1.length ≤ c0_1) (hr1_1 : Kd.C (Kd.int .i64) w A1_1 l1_1.length l1_1) (hc1_1 : l1_1.length ≤ c1_1) (h : verniertop_times.f k a0_0 l0_1 a0_2 a1_0 l1_1 a1_2 = some (r1, r2, r3)) :
  Calls Try.prog 9 #[.agg #[.bool a0_0, .slice A0_1 l0_1.length c0_1, .int .i64 a0_2], .agg #[.bool a1_0, .slice A1_1 l1_1.length c1_1, .int .i64 a1_2]] w fun e w' => ∃ v1_ : Value, e = .returned (.agg #[.bool r1, v1_, .int .i64 r3]) ∧ Kd.R (Kd.int .i64) 3 w' w.heap.size (fun _ => True) v1_ r2 ∧ Below w.heap.size w w' := by
 have hu32 := Try.underlying32
 have HR0_1 := Aside0.mk hr0_1
 have HC0_1 := Aside0.mk hc0_1
 clear hr0_1 hc0_1
 have HR1_1 := Aside0.mk hr1_1
 have HC1_1 := Aside0.mk hc1_1
 clear hr1_1 hc1_1
 have HB := Aside0.mk (Below.refl w.heap.size w)
 have H : ((vernierref04_Mul.f k l0_1 l1_1).bind fun t388 => (some ((a0_0 != a1_0), t388, wrap64 (a0_2 + a1_2)))) = some (r1, r2, r3) := h
 clear h
 replace H := Option.bind_eq_some_iff.mp H
 obtain ⟨t388, A30, H⟩ := H
 try dsimp -simprocs only at H
 have A3 := Aside0.mk A30
 clear A30
 simp only [Option.some.injEq, Prod.mk.injEq] at H
 obtain ⟨rfl, rfl, rfl⟩ := H
 go_enter Try.func9, Try.ntmps9
 try go_wp2_with (first | ((with_reducible refine gD (N := 2) rfl ?_); refine bE3 2 #[.bool a0_0, .slice A0_1 l0_1.length c0_1, .int .i64 a0_2] 32 ?hr ?_; (case hr => first | (go_simp; done) | (go_simp; rfl)); intro gb385 hg w4 hbox hb; have BK385 := Aside0.mk (hbox); have GW385 := Aside0.mk ((bZ3 hg HB.out)); have GE385 := Aside0.mk ((bZ3 hg HB.out)); replace HB := Aside0.mk (bS3 HB.out hb); clear hb hbox hg) | ((with_reducible refine gD (N := 3) rfl ?_); refine bE3 3 #[.bool a1_0, .slice A1_1 l1_1.length c1_1, .int .i64 a1_2] 32 ?hr ?_; (case hr => first | (go_simp; done) | (go_simp; rfl)); intro gb386 hg w5 hbox hb; have BK386 := Aside0.mk (hbox); have GW386 := Aside0.mk ((bZ3 hg HB.out)); have GE386 := Aside0.mk ((bZ3 hg HB.out)); replace HB := Aside0.mk (bS3 HB.out hb); have NB385_386 := Aside0.mk ((bL3 hg BK385.out)); have NB386_385 := Aside0.mk ((bG3 hg BK385.out)); replace BK385 := Aside0.mk (bB3 BK385.out hb); clear hb hbox hg) | ((with_reducible refine gD (N := 4) rfl ?_); refine bE3 4 #[.bool false, .slice none 0 0, .int .i64 0] 32 ?hr ?_; (case hr => first | (go_simp; done) | (go_simp; rfl)); intro gb387 hg w6 hbox hb; have BK387 := Aside0.mk (hbox); have GW387 := Aside0.mk ((bZ3 hg HB.out)); have GE387 := Aside0.mk ((bZ3 hg HB.out)); replace HB := Aside0.mk (bS3 HB.out hb); have NB385_387 := Aside0.mk ((bL3 hg BK385.out)); have NB387_385 := Aside0.mk ((bG3 hg BK385.out)); replace BK385 := Aside0.mk (bB3 BK385.out hb); have NB386_387 := Aside0.mk ((bL3 hg BK386.out)); have NB387_386 := Aside0.mk ((bG3 hg BK386.out)); replace BK386 := Aside0.mk (bB3 BK386.out hb); clear hb hbox hg))
 have n0_ := Aside0.mk (bD BK385.out)
 have n1_ := Aside0.mk (bD BK386.out)
 have n2_ := Aside0.mk (bD BK387.out)
 have n3_ := Aside0.mk (p1 HB.out)
 clear BK385
 clear BK386
 clear BK387
 clear HB
 have BK385 := n0_
 have BK386 := n1_
 have BK387 := n2_
 have HB := n3_
 clear n0_ n1_ n2_ n3_
 refine start_ (n := 17) (S := fun w' => w'.cell? ⟨gb385, 0, none⟩ = some (.bool a0_0) ∧ w'.cell? ⟨gb385, 1, none⟩ = some (.slice A0_1 l0_1.length c0_1) ∧ w'.cell? ⟨gb385, 2, none⟩ = some (.int .i64 a0_2) ∧ w'.cell? ⟨gb386, 0, none⟩ = some (.bool a1_0) ∧ w'.cell? ⟨gb386, 1, none⟩ = some (.slice A1_1 l1_1.length c1_1) ∧ w'.cell? ⟨gb386, 2, none⟩ = some (.int .i64 a1_2)) (ds := []) #[false, false, false, false, false, false, false, false, false, false, false, false, false, false, false, false, false] (by kernel_rfl) rfl rfl ⟨(blk_cell BK385.out 0).trans rfl, (blk_cell BK385.out 1).trans rfl, (blk_cell BK385.out 2).trans rfl, (blk_cell BK386.out 0).trans rfl, (blk_cell BK386.out 1).trans rfl, (blk_cell BK386.out 2).trans rfl⟩ (fun hHeld => ?_); refine with_tabW verniertop_times.tab1 verniertop_times.bits1 (fun HT_ HW_ => ?_)
 generalize w6.drew = w7 at BK385 BK386 BK387 HB hHeld ⊢
 refine pure_ (i := 0) (N := some 5) (v := ?_) (a' := ?_) #[true, false, false, false, false, false, false, false, false, false, false, false, false, false, false, false, false] rfl rfl (any_of HT_.out (by kernel_rfl)) (fun _ _ _ h => h) (Or.inl ⟨by rfl, ?_⟩) ?_ ?_
 rotate_left
 ·
  intro w'
  go_simp
  with_reducible rfl
 rotate_left
 ·
  simp only [Act.put, lS_, lZ_, lC_, i64_w, i32_w]
  rfl
 refine pure_ (i := 2) (N := some 7) (v := ?_) (a' := ?_) #[true, false, true, false, false, false, false, false, false, false, false, false, false, false, false, false, false] rfl rfl (any_of HT_.out (by kernel_rfl)) (fun _ _ _ h => h) (Or.inl ⟨by rfl, ?_⟩) ?_ ?_
 rotate_left
 ·
  intro w'
  go_simp
  with_reducible rfl
 rotate_left
 ·
  simp only [Act.put, lS_, lZ_, lC_, i64_w, i32_w]
  rfl
 refine pure_ (i := 5) (N := some 10) (v := ?_) (a' := ?_) #[true, false, true, false, false, true, false, false, false, false, false, false, false, false, false, false, false] rfl rfl (any_of HT_.out (by kernel_rfl)) (fun _ _ _ h => h) (Or.inl ⟨by rfl, ?_⟩) ?_ ?_
 rotate_left
 ·
  intro w'
  go_simp
  with_reducible rfl
 rotate_left
 ·
  simp only [Act.put, lS_, lZ_, lC_, i64_w, i32_w]
  rfl
 refine pure_ (i := 7) (N := some 12) (v := ?_) (a' := ?_) #[true, false, true, false, false, true, false, true, false, false, false, false, false, false, false, false, false] rfl rfl (any_of HT_.out (by kernel_rfl)) (fun _ _ _ h => h) (Or.inl ⟨by rfl, ?_⟩) ?_ ?_
 rotate_left
 ·
  intro w'
  go_simp
  with_reducible rfl
 rotate_left
 ·
  simp only [Act.put, lS_, lZ_, lC_, i64_w, i32_w]
  rfl
 refine pure_ (i := 10) (N := some 15) (v := ?_) (a' := ?_) #[true, false, true, false, false, true, false, true, false, false, true, false, false, false, false, false, false] rfl rfl (any_of HT_.out (by kernel_rfl)) (fun _ _ _ h => h) (Or.inl ⟨by rfl, ?_⟩) ?_ ?_
 rotate_left
 ·
  intro w'
  go_simp
  with_reducible rfl
 rotate_left
 ·
  simp only [Act.put, lS_, lZ_, lC_, i64_w, i32_w]
  rfl
 refine pure_ (i := 12) (N := some 17) (v := ?_) (a' := ?_) #[true, false, true, false, false, true, false, true, false, false, true, false, true, false, false, false, false] rfl rfl (any_of HT_.out (by kernel_rfl)) (fun _ _ _ h => h) (Or.inl ⟨by rfl, ?_⟩) ?_ ?_
 rotate_left
 ·
  intro w'
  go_simp
  with_reducible rfl
 rotate_left
 ·
  simp only [Act.put, lS_, lZ_, lC_, i64_w, i32_w]
  rfl
 refine take_ (i := 1) (N := some 6) (v := ?_) (a' := ?_) #[true, true, true, false, false, true, false, true, false, false, true, false, true, false, false, false, false] rfl rfl (take_ofW HT_.out HW_.out (by kernel_rfl)) (fun _ _ _ h => h) (Or.inl ⟨by rfl, ?_⟩) hHeld ?_ ?_
 rotate_left
 ·
  rintro w' ⟨s0, s1, s2, s3, s4, s5⟩
  go_simp
  with_reducible rfl
 rotate_left
 ·
  simp only [Act.put, lS_, lZ_, lC_, i64_w, i32_w]
  rfl
 refine take_ (i := 3) (N := some 8) (v := ?_) (a' := ?_) #[true, true, true, true, false, true, false, true, false, false, true, false, true, false, false, false, false] rfl rfl (take_ofW HT_.out HW_.out (by kernel_rfl)) (fun _ _ _ h => h) (Or.inl ⟨by rfl, ?_⟩) hHeld ?_ ?_
 rotate_left
 ·
  rintro w' ⟨s0, s1, s2, s3, s4, s5⟩
  go_simp
  with_reducible rfl
 rotate_left
 ·
  simp only [Act.put, lS_, lZ_, lC_, i64_w, i32_w]
  rfl
 refine pure_ (i := 4) (N := some 9) (v := ?_) (a' := ?_) #[true, true, true, true, true, true, false, true, false, false, true, false, true, false, false, false, false] rfl rfl (any_of HT_.out (by kernel_rfl)) (fun _ _ _ h => h) (Or.inl ⟨by rfl, ?_⟩) ?_ ?_
 rotate_left
 ·
  intro w'
  go_simp
  with_reducible rfl
 rotate_left
 ·
  simp only [Act.put, lS_, lZ_, lC_, i64_w, i32_w]
  rfl
 refine take_ (i := 6) (N := some 11) (v := ?_) (a' := ?_) #[true, true, true, true, true, true, true, true, false, false, true, false, true, false, false, false, false] rfl rfl (take_ofW HT_.out HW_.out (by kernel_rfl)) (fun _ _ _ h => h) (Or.inl ⟨by rfl, ?_⟩) hHeld ?_ ?_
 rotate_left
 ·
  rintro w' ⟨s0, s1, s2, s3, s4, s5⟩
  go_simp
  with_reducible rfl
 rotate_left
 ·
  simp only [Act.put, lS_, lZ_, lC_, i64_w, i32_w]
  rfl
 refine take_ (i := 8) (N := some 13) (v := ?_) (a' := ?_) #[true, true, true, true, true, true, true, true, true, false, true, false, true, false, false, false, false] rfl rfl (take_ofW HT_.out HW_.out (by kernel_rfl)) (fun _ _ _ h => h) (Or.inl ⟨by rfl, ?_⟩) hHeld ?_ ?_
 rotate_left
 ·
  rintro w' ⟨s0, s1, s2, s3, s4, s5⟩
  go_simp
  with_reducible rfl
 rotate_left
 ·
  simp only [Act.put, lS_, lZ_, lC_, i64_w, i32_w]
  rfl
 refine take_ (i := 11) (N := some 16) (v := ?_) (a' := ?_) #[true, true, true, true, true, true, true, true, true, false, true, true, true, false, false, false, false] rfl rfl (take_ofW HT_.out HW_.out (by kernel_rfl)) (fun _ _ _ h => h) (Or.inl ⟨by rfl, ?_⟩) hHeld ?_ ?_
 rotate_left
 ·
  rintro w' ⟨s0, s1, s2, s3, s4, s5⟩
  go_simp
  with_reducible rfl
 rotate_left
 ·
  simp only [Act.put, lS_, lZ_, lC_, i64_w, i32_w]
  rfl
 refine take_ (i := 13) (N := some 18) (v := ?_) (a' := ?_) #[true, true, true, true, true, true, true, true, true, false, true, true, true, true, false, false, false] rfl rfl (take_ofW HT_.out HW_.out (by kernel_rfl)) (fun _ _ _ h => h) (Or.inl ⟨by rfl, ?_⟩) hHeld ?_ ?_
 rotate_left
 ·
  rintro w' ⟨s0, s1, s2, s3, s4, s5⟩
  go_simp
  with_reducible rfl
 rotate_left
 ·
  simp only [Act.put, lS_, lZ_, lC_, i64_w, i32_w]
  rfl
 refine pure_ (i := 14) (N := some 19) (v := ?_) (a' := ?_) #[true, true, true, true, true, true, true, true, true, false, true, true, true, true, true, false, false] rfl rfl (any_of HT_.out (by kernel_rfl)) (fun _ _ _ h => h) (Or.inl ⟨by rfl, ?_⟩) ?_ ?_
 rotate_left
 ·
  intro w'
  go_simp
  with_reducible rfl
 rotate_left
 ·
  simp only [Act.put, lS_, lZ_, lC_, i64_w, i32_w]
  rfl
 refine one_ (i := 9) (N := some 14) #[true, true, true, true, true, true, true, true, true, true, true, true, true, true, true, false, false] rfl rfl (one_of HT_.out (by kernel_rfl)) (by decide) (fun K hK => ?_)
 refine goes_ Try.func21 (by kernel_rfl) rfl #[.slice A0_1 l0_1.length c0_1, .slice A1_1 l1_1.length c1_1] (by rfl) rfl rfl (by (try simp only [List.map_toArray, List.map_cons, List.map_nil]); first | done | rfl | (simp only [List.length_drop, List.length_take]; rfl)) ?_
 with_reducible refine (vernierref04_Mul.calls k _ _ l0_1 _ _ l1_1 t388 _ ?side1 ?side2 ?side3 ?side4 A3.out).mono ?_
 (case side1 => repeat (first | exact (Kd.C_below HR0_1.out HB.out) | (with_reducible refine Kd.C_alloc ?_ _) | (with_reducible refine Kd.C_drewN ?_ _) | (with_reducible refine Kd.C_drew ?_)))
 (case side2 => exact HC0_1.out)
 (case side3 => repeat (first | exact (Kd.C_below HR1_1.out HB.out) | (with_reducible refine Kd.C_alloc ?_ _) | (with_reducible refine Kd.C_drewN ?_ _) | (with_reducible refine Kd.C_drew ?_)))
 (case side4 => exact HC1_1.out)
 rintro e w8 ⟨v389, rfl, ho0, hb⟩
 refine ⟨_, rfl, ?_⟩
 have n0_ := Aside0.mk (Kd.R_lower ho0 (bZ (bR3 HB.out)))
 have n1_ := Aside0.mk (bB3 BK385.out hb)
 have n2_ := Aside0.mk (bB3 BK386.out hb)
 have n3_ := Aside0.mk (bB3 BK387.out hb)
 have n4_ := Aside0.mk (bS3 HB.out hb)
 clear BK385
 clear BK386
 clear BK387
 clear HB
 have HO390 := n0_
 have BK385 := n1_
 have BK386 := n2_
 have BK387 := n3_
 have HB := n4_
 clear n0_ n1_ n2_ n3_ n4_
 (try clear hb)
 (try clear hb2)
 (try clear hk)
 (try clear hi)
 (try clear ho0)
 obtain ⟨Ao9, co9, eo9⟩ := Kd.R_slice HO390.out
 (first | subst eo9 | (injection eo9 with f1_ f2_ f3_; have f4_ := f1_.symm; have f5_ := f3_.symm; clear f1_ f2_ f3_; subst f4_; subst f5_))
 refine hK.out _ _ ⟨(blk_cell BK385.out 0).trans rfl, (blk_cell BK385.out 1).trans rfl, (blk_cell BK385.out 2).trans rfl, (blk_cell BK386.out 0).trans rfl, (blk_cell BK386.out 1).trans rfl, (blk_cell BK386.out 2).trans rfl⟩ (fun hHeld => ?_)
 clear hK K
 refine norm_ (a' := ?_) ?_ ?_
 rotate_left
 ·
  show Act.put _ (some 14) _ = _
  simp only [Act.put, lS_, lZ_, lC_, i64_w, i32_w]
  rfl
 refine pure_ (i := 15) (N := some 20) (v := ?_) (a' := ?_) #[true, true, true, true, true, true, true, true, true, true, true, true, true, true, true, true, false] rfl rfl (any_of HT_.out (by kernel_rfl)) (fun _ _ _ h => h) (Or.inl ⟨by rfl, ?_⟩) ?_ ?_
 rotate_left
 ·
  intro w'
  go_simp
  with_reducible rfl
 rotate_left
 ·
  simp only [Act.put, lS_, lZ_, lC_, i64_w, i32_w]
  rfl
 refine one_ (i := 16) (N := none) #[true, true, true, true, true, true, true, true, true, true, true, true, true, true, true, true, true] rfl rfl (one_of HT_.out (by kernel_rfl)) (by decide) (fun K hK => ?_)
 have hs10 : w8.cell? ⟨gb387, 0, none⟩ = some (.bool false) := (blk_cell BK387.out 0).trans rfl
 have hfs10 := blk_frozen BK387.out 0
 have hns10_0 := NB385_387.out
 have hns10_1 := NB386_387.out
 have hms10_0 := NB387_385.out
 have hms10_1 := NB387_386.out
 have hs11 : w8.cell? ⟨gb387, 1, none⟩ = some (.slice none 0 0) := (blk_cell BK387.out 1).trans rfl
 have hfs11 := blk_frozen BK387.out 1
 have hns11_0 := NB385_387.out
 have hns11_1 := NB386_387.out
 have hms11_0 := NB387_385.out
 have hms11_1 := NB387_386.out
 have hs12 : w8.cell? ⟨gb387, 2, none⟩ = some (.int .i64 0) := (blk_cell BK387.out 2).trans rfl
 have hfs12 := blk_frozen BK387.out 2
 have hns12_0 := NB385_387.out
 have hns12_1 := NB386_387.out
 have hms12_0 := NB387_385.out
 have hms12_1 := NB387_386.out
 refine skip_ (w1 := ?_) (by rfl) rfl ?_ ?_
 rotate_left
 ·
  go_simp
  rfl
 refine hK.out _ _ ⟨((cell_far (p := ⟨gb387, _, none⟩) NB385_387.out _).trans (((cell_far (p := ⟨gb387, _, none⟩) NB385_387.out _).trans (((cell_far (p := ⟨gb387, _, none⟩) NB385_387.out _).trans (hHeld.1)))))), ((cell_far (p := ⟨gb387, _, none⟩) NB385_387.out _).trans (((cell_far (p := ⟨gb387, _, none⟩) NB385_387.out _).trans (((cell_far (p := ⟨gb387, _, none⟩) NB385_387.out _).trans (hHeld.2.1)))))), ((cell_far (p := ⟨gb387, _, none⟩) NB385_387.out _).trans (((cell_far (p := ⟨gb387, _, none⟩) NB385_387.out _).trans (((cell_far (p := ⟨gb387, _, none⟩) NB385_387.out _).trans (hHeld.2.2.1)))))), ((cell_far (p := ⟨gb387, _, none⟩) NB386_387.out _).trans (((cell_far (p := ⟨gb387, _, none⟩) NB386_387.out _).trans (((cell_far (p := ⟨gb387, _, none⟩) NB386_387.out _).trans (hHeld.2.2.2.1)))))), ((cell_far (p := ⟨gb387, _, none⟩) NB386_387.out _).trans (((cell_far (p := ⟨gb387, _, none⟩) NB386_387.out _).trans (((cell_far (p := ⟨gb387, _, none⟩) NB386_387.out _).trans (hHeld.2.2.2.2.1)))))), ((cell_far (p := ⟨gb387, _, none⟩) NB386_387.out _).trans (((cell_far (p := ⟨gb387, _, none⟩) NB386_387.out _).trans (((cell_far (p := ⟨gb387, _, none⟩) NB386_387.out _).trans (hHeld.2.2.2.2.2))))))⟩ (fun hHeld => ?_)
 clear hK K
 refine done_ (done_of HT_.out (by kernel_rfl)) ?_
 try go_wp2
 refine bodyPost_ret (results_cell_row rfl _ _ gb387 32 #[.bool (a0_0 != a1_0), .slice Ao9 t388.length co9, .int .i64 (wrap64 (a0_2 + a1_2))] (0, 0) _ rfl (bQ3 BK387.out) Try.underlying32 rfl (by kernel_rfl)) rfl ?_
 exact ⟨_, eR3, by (with_reducible repeat (first | apply Kd.R_alloc | apply Kd.R_drewN | apply Kd.R_drew)); exact Kd.R_mono (Kd.R_far (p := ⟨gb387, 2, none⟩) (Kd.R_far (p := ⟨gb387, 1, none⟩) (Kd.R_far (p := ⟨gb387, 0, none⟩) (Kd.R_types HO390.out BK387.out (by decide)) (fun _ hk => hk.2) (.bool (a0_0 != a1_0))) (fun _ hk => hk.2) (.slice Ao9 t388.length co9)) (fun _ hk => hk.2) (.int .i64 (wrap64 (a0_2 + a1_2)))) (fun _ hk => trivial), bR3 HB.out⟩
def verniertop_valOf.f (k : Nat) (a0_0 : Int) (a0_1 : Bool) (a0_2 : Int) (a0_3 : Int) : Option (Bool × List Int × Int) := if a0_0 = 1 then ((vernierref04_Of.f k a0_3).bind fun t396 => (some (a0_1, t396, wrap64 (a0_2 - 63)))) else (some (false, ([] : List Int), 0))
def verniertop_valOf.T3 : Bool × List (List Nat × List Nat) := (true, [([], []), ([0], [0]), ([], []), ([2], [2]), ([3], [3]), ([], []), ([5], [5]), ([6], [6]), ([1, 4, 7], [1, 4, 7]), ([8, 4, 0, 1, 2, 3, 4, 5, 6, 7, 8], [8])])
def verniertop_valOf.B3 : List Nat := [0, 1, 0, 4, 12, 0, 32, 96, 255, 511]
theorem verniertop_valOf.tab3 : rtab .any (opsOf Try.f10 3) = verniertop_valOf.T3 := by kernel_rfl
theorem verniertop_valOf.bits3 : waitsOk verniertop_valOf.T3.2 verniertop_valOf.B3 = true := by kernel_rfl
set_option maxHeartbeats 8000000 in
set_option maxRecDepth 100000 in
theorem verniertop_valOf.calls (k : Nat) (a0_0 : Int) (a0_1 : Bool) (a0_2 : Int) (a0_3 : Int) (r1 : Bool) (r2 : List Int) (r3 : Int) (w : World) (h : verniertop_valOf.f k a0_0 a0_1 a0_2 a0_3 = some (r1, r2, r3)) :
  Calls Try.prog 10 #[.agg #[.int .i64 a0_0, .bool a0_1, .int .i64 a0_2, .int .u64 a0_3]] w fun e w' => ∃ v1_ : Value, e = .returned (.agg #[.bool r1, v1_, .int .i64 r3]) ∧ Kd.R (Kd.int .i64) 3 w' w.heap.size (fun _ => True) v1_ r2 ∧ Below w.heap.size w w' := by
 have hu35 := Try.underlying35
 have hu32 := Try.underlying32
 have HB := Aside0.mk (Below.refl w.heap.size w)
 have H : (if a0_0 = 1 then ((vernierref04_Of.f k a0_3).bind fun t396 => (some (a0_1, t396, wrap64 (a0_2 - 63)))) else (some (false, ([] : List Int), 0))) = some (r1, r2, r3) := h
 clear h
 by_cases c2 : a0_0 = 1
 ·
  rw [if_pos c2] at H
  have c2b0 : (a0_0 == 1) = true := beq_iff_eq.mpr c2
  have c2b1 : (a0_0 != 1) = false := bne_eq_false_iff_eq.mpr c2
  clear c2
  replace H := Option.bind_eq_some_iff.mp H
  obtain ⟨t396, A30, H⟩ := H
  try dsimp -simprocs only at H
  have A3 := Aside0.mk A30
  clear A30
  simp only [Option.some.injEq, Prod.mk.injEq] at H
  obtain ⟨rfl, rfl, rfl⟩ := H
  go_enter Try.func10, Try.ntmps10
  try go_wp2_with (first | ((with_reducible refine gD (N := 1) rfl ?_); refine bE3 1 #[.int .i64 a0_0, .bool a0_1, .int .i64 a0_2, .int .u64 a0_3] 35 ?hr ?_; (case hr => first | (go_simp; done) | (go_simp; rfl)); intro gb394 hg w4 hbox hb; have BK394 := Aside0.mk (hbox); have GW394 := Aside0.mk ((bZ3 hg HB.out)); have GE394 := Aside0.mk ((bZ3 hg HB.out)); replace HB := Aside0.mk (bS3 HB.out hb); clear hb hbox hg) | ((with_reducible refine gD (N := 2) rfl ?_); refine bE3 2 #[.bool false, .slice none 0 0, .int .i64 0] 32 ?hr ?_; (case hr => first | (go_simp; done) | (go_simp; rfl)); intro gb395 hg w5 hbox hb; have BK395 := Aside0.mk (hbox); have GW395 := Aside0.mk ((bZ3 hg HB.out)); have GE395 := Aside0.mk ((bZ3 hg HB.out)); replace HB := Aside0.mk (bS3 HB.out hb); have NB394_395 := Aside0.mk ((bL3 hg BK394.out)); have NB395_394 := Aside0.mk ((bG3 hg BK394.out)); replace BK394 := Aside0.mk (bB3 BK394.out hb); clear hb hbox hg; have hnb6 := NB394_395.out; have hnc6 := NB395_394.out; obtain ⟨hcz7_0, hcz7_1, hcz7_2, hcz7_3, hfz7_0, hfz7_1, hfz7_2, hfz7_3⟩ := cl4 BK394.out))
  have n0_ := Aside0.mk (bD BK394.out)
  have n1_ := Aside0.mk (bD BK395.out)
  have n2_ := Aside0.mk (p1 HB.out)
  clear BK394
  clear BK395
  clear HB
  have BK394 := n0_
  have BK395 := n1_
  have HB := n2_
  clear n0_ n1_ n2_
  refine start_ (n := 10) (S := fun w' => w'.cell? ⟨gb394, 0, none⟩ = some (.int .i64 a0_0) ∧ w'.cell? ⟨gb394, 1, none⟩ = some (.bool a0_1) ∧ w'.cell? ⟨gb394, 2, none⟩ = some (.int .i64 a0_2) ∧ w'.cell? ⟨gb394, 3, none⟩ = some (.int .u64 a0_3)) (ds := []) #[false, false, false, false, false, false, false, false, false, false] (by kernel_rfl) rfl rfl ⟨(blk_cell BK394.out 0).trans rfl, (blk_cell BK394.out 1).trans rfl, (blk_cell BK394.out 2).trans rfl, (blk_cell BK394.out 3).trans rfl⟩ (fun hHeld => ?_); refine with_tabW verniertop_valOf.tab3 verniertop_valOf.bits3 (fun HT_ HW_ => ?_)
  generalize w5.drew = w8 at BK394 BK395 HB hHeld ⊢
  refine pure_ (i := 0) (N := some 7) (v := ?_) (a' := ?_) #[true, false, false, false, false, false, false, false, false, false] rfl rfl (any_of HT_.out (by kernel_rfl)) (fun _ _ _ h => h) (Or.inl ⟨by rfl, ?_⟩) ?_ ?_
  rotate_left
  ·
   intro w'
   go_simp
   with_reducible rfl
  rotate_left
  ·
   simp only [Act.put, lS_, lZ_, lC_, i64_w, i32_w]
   rfl
  refine pure_ (i := 2) (N := some 9) (v := ?_) (a' := ?_) #[true, false, true, false, false, false, false, false, false, false] rfl rfl (any_of HT_.out (by kernel_rfl)) (fun _ _ _ h => h) (Or.inl ⟨by rfl, ?_⟩) ?_ ?_
  rotate_left
  ·
   intro w'
   go_simp
   with_reducible rfl
  rotate_left
  ·
   simp only [Act.put, lS_, lZ_, lC_, i64_w, i32_w]
   rfl
  refine pure_ (i := 5) (N := some 12) (v := ?_) (a' := ?_) #[true, false, true, false, false, true, false, false, false, false] rfl rfl (any_of HT_.out (by kernel_rfl)) (fun _ _ _ h => h) (Or.inl ⟨by rfl, ?_⟩) ?_ ?_
  rotate_left
  ·
   intro w'
   go_simp
   with_reducible rfl
  rotate_left
  ·
   simp only [Act.put, lS_, lZ_, lC_, i64_w, i32_w]
   rfl
  refine take_ (i := 1) (N := some 8) (v := ?_) (a' := ?_) #[true, true, true, false, false, true, false, false, false, false] rfl rfl (take_ofW HT_.out HW_.out (by kernel_rfl)) (fun _ _ _ h => h) (Or.inl ⟨by rfl, ?_⟩) hHeld ?_ ?_
  rotate_left
  ·
   rintro w' ⟨s0, s1, s2, s3⟩
   go_simp
   with_reducible rfl
  rotate_left
  ·
   simp only [Act.put, lS_, lZ_, lC_, i64_w, i32_w]
   rfl
  refine take_ (i := 3) (N := some 10) (v := ?_) (a' := ?_) #[true, true, true, true, false, true, false, false, false, false] rfl rfl (take_ofW HT_.out HW_.out (by kernel_rfl)) (fun _ _ _ h => h) (Or.inl ⟨by rfl, ?_⟩) hHeld ?_ ?_
  rotate_left
  ·
   rintro w' ⟨s0, s1, s2, s3⟩
   go_simp
   with_reducible rfl
  rotate_left
  ·
   simp only [Act.put, lS_, lZ_, lC_, i64_w, i32_w]
   rfl
  refine take_ (i := 6) (N := some 13) (v := ?_) (a' := ?_) #[true, true, true, true, false, true, true, false, false, false] rfl rfl (take_ofW HT_.out HW_.out (by kernel_rfl)) (fun _ _ _ h => h) (Or.inl ⟨by rfl, ?_⟩) hHeld ?_ ?_
  rotate_left
  ·
   rintro w' ⟨s0, s1, s2, s3⟩
   go_simp
   with_reducible rfl
  rotate_left
  ·
   simp only [Act.put, lS_, lZ_, lC_, i64_w, i32_w]
   rfl
  refine pure_ (i := 7) (N := some 14) (v := ?_) (a' := ?_) #[true, true, true, true, false, true, true, true, false, false] rfl rfl (any_of HT_.out (by kernel_rfl)) (fun _ _ _ h => h) (Or.inl ⟨by rfl, ?_⟩) ?_ ?_
  rotate_left
  ·
   intro w'
   go_simp
   with_reducible rfl
  rotate_left
  ·
   simp only [Act.put, lS_, lZ_, lC_, i64_w, i32_w]
   rfl
  refine one_ (i := 4) (N := some 11) #[true, true, true, true, true, true, true, true, false, false] rfl rfl (one_of HT_.out (by kernel_rfl)) (by decide) (fun K hK => ?_)
  refine goes_ Try.func22 (by kernel_rfl) rfl #[.int .u64 a0_3] (by rfl) rfl rfl (by (try simp only [List.map_toArray, List.map_cons, List.map_nil]); first | done | rfl | (simp only [List.length_drop, List.length_take]; rfl)) ?_
  with_reducible refine (vernierref04_Of.calls k a0_3 t396 _ A3.out).mono ?_
  rintro e w9 ⟨v397, rfl, ho0, hb⟩
  refine ⟨_, rfl, ?_⟩
  have n0_ := Aside0.mk (Kd.R_lower ho0 (bZ (bR3 HB.out)))
  have n1_ := Aside0.mk (bB3 BK394.out hb)
  have n2_ := Aside0.mk (bB3 BK395.out hb)
  have n3_ := Aside0.mk (bS3 HB.out hb)
  clear BK394
  clear BK395
  clear HB
  have HO398 := n0_
  have BK394 := n1_
  have BK395 := n2_
  have HB := n3_
  clear n0_ n1_ n2_ n3_
  (try clear hb)
  (try clear hb2)
  (try clear hk)
  (try clear hi)
  (try clear ho0)
  obtain ⟨Ao10, co10, eo10⟩ := Kd.R_slice HO398.out
  (first | subst eo10 | (injection eo10 with f1_ f2_ f3_; have f4_ := f1_.symm; have f5_ := f3_.symm; clear f1_ f2_ f3_; subst f4_; subst f5_))
  refine hK.out _ _ ⟨(blk_cell BK394.out 0).trans rfl, (blk_cell BK394.out 1).trans rfl, (blk_cell BK394.out 2).trans rfl, (blk_cell BK394.out 3).trans rfl⟩ (fun hHeld => ?_)
  clear hK K
  refine norm_ (a' := ?_) ?_ ?_
  rotate_left
  ·
   show Act.put _ (some 11) _ = _
   simp only [Act.put, lS_, lZ_, lC_, i64_w, i32_w]
   rfl
  refine pure_ (i := 8) (N := some 15) (v := ?_) (a' := ?_) #[true, true, true, true, true, true, true, true, true, false] rfl rfl (any_of HT_.out (by kernel_rfl)) (fun _ _ _ h => h) (Or.inl ⟨by rfl, ?_⟩) ?_ ?_
  rotate_left
  ·
   intro w'
   go_simp
   with_reducible rfl
  rotate_left
  ·
   simp only [Act.put, lS_, lZ_, lC_, i64_w, i32_w]
   rfl
  refine one_ (i := 9) (N := none) #[true, true, true, true, true, true, true, true, true, true] rfl rfl (one_of HT_.out (by kernel_rfl)) (by decide) (fun K hK => ?_)
  have hs11 : w9.cell? ⟨gb395, 0, none⟩ = some (.bool false) := (blk_cell BK395.out 0).trans rfl
  have hfs11 := blk_frozen BK395.out 0
  have hns11_0 := NB394_395.out
  have hms11_0 := NB395_394.out
  have hs12 : w9.cell? ⟨gb395, 1, none⟩ = some (.slice none 0 0) := (blk_cell BK395.out 1).trans rfl
  have hfs12 := blk_frozen BK395.out 1
  have hns12_0 := NB394_395.out
  have hms12_0 := NB395_394.out
  have hs13 : w9.cell? ⟨gb395, 2, none⟩ = some (.int .i64 0) := (blk_cell BK395.out 2).trans rfl
  have hfs13 := blk_frozen BK395.out 2
  have hns13_0 := NB394_395.out
  have hms13_0 := NB395_394.out
  refine skip_ (w1 := ?_) (by rfl) rfl ?_ ?_
  rotate_left
  ·
   go_simp
   rfl
  refine hK.out _ _ ⟨((cell_far (p := ⟨gb395, _, none⟩) NB394_395.out _).trans (((cell_far (p := ⟨gb395, _, none⟩) NB394_395.out _).trans (((cell_far (p := ⟨gb395, _, none⟩) NB394_395.out _).trans (hHeld.1)))))), ((cell_far (p := ⟨gb395, _, none⟩) NB394_395.out _).trans (((cell_far (p := ⟨gb395, _, none⟩) NB394_395.out _).trans (((cell_far (p := ⟨gb395, _, none⟩) NB394_395.out _).trans (hHeld.2.1)))))), ((cell_far (p := ⟨gb395, _, none⟩) NB394_395.out _).trans (((cell_far (p := ⟨gb395, _, none⟩) NB394_395.out _).trans (((cell_far (p := ⟨gb395, _, none⟩) NB394_395.out _).trans (hHeld.2.2.1)))))), ((cell_far (p := ⟨gb395, _, none⟩) NB394_395.out _).trans (((cell_far (p := ⟨gb395, _, none⟩) NB394_395.out _).trans (((cell_far (p := ⟨gb395, _, none⟩) NB394_395.out _).trans (hHeld.2.2.2))))))⟩ (fun hHeld => ?_)
  clear hK K
  refine done_ (done_of HT_.out (by kernel_rfl)) ?_
  try go_wp2
  refine bodyPost_ret (results_cell_row rfl _ _ gb395 32 #[.bool a0_1, .slice Ao10 t396.length co10, .int .i64 (wrap64 (a0_2 - 63))] (0, 0) _ rfl (bQ3 BK395.out) Try.underlying32 rfl (by kernel_rfl)) rfl ?_
  exact ⟨_, eR3, by (with_reducible repeat (first | apply Kd.R_alloc | apply Kd.R_drewN | apply Kd.R_drew)); exact Kd.R_mono (Kd.R_far (p := ⟨gb395, 2, none⟩) (Kd.R_far (p := ⟨gb395, 1, none⟩) (Kd.R_far (p := ⟨gb395, 0, none⟩) (Kd.R_types HO398.out BK395.out (by decide)) (fun _ hk => hk.2) (.bool a0_1)) (fun _ hk => hk.2) (.slice Ao10 t396.length co10)) (fun _ hk => hk.2) (.int .i64 (wrap64 (a0_2 - 63)))) (fun _ hk => trivial), bR3 HB.out⟩
 ·
  rw [if_neg c2] at H
  have c2b0 : (a0_0 == 1) = false := beq_eq_false_iff_ne.mpr c2
  have c2b1 : (a0_0 != 1) = true := bne_iff_ne.mpr c2
  simp only [Option.some.injEq, Prod.mk.injEq] at H
  obtain ⟨rfl, rfl, rfl⟩ := H
  go_enter Try.func10, Try.ntmps10
  go_wp2_with (first | ((with_reducible refine gD (N := 1) rfl ?_); refine bE3 1 #[.int .i64 a0_0, .bool a0_1, .int .i64 a0_2, .int .u64 a0_3] 35 ?hr ?_; (case hr => first | (go_simp; done) | (go_simp; rfl)); intro gb394 hg w14 hbox hb; have BK394 := Aside0.mk (hbox); have GW394 := Aside0.mk ((bZ3 hg HB.out)); have GE394 := Aside0.mk ((bZ3 hg HB.out)); replace HB := Aside0.mk (bS3 HB.out hb); clear hb hbox hg) | ((with_reducible refine gD (N := 2) rfl ?_); refine bE3 2 #[.bool false, .slice none 0 0, .int .i64 0] 32 ?hr ?_; (case hr => first | (go_simp; done) | (go_simp; rfl)); intro gb395 hg w15 hbox hb; have BK395 := Aside0.mk (hbox); have GW395 := Aside0.mk ((bZ3 hg HB.out)); have GE395 := Aside0.mk ((bZ3 hg HB.out)); replace HB := Aside0.mk (bS3 HB.out hb); have NB394_395 := Aside0.mk ((bL3 hg BK394.out)); have NB395_394 := Aside0.mk ((bG3 hg BK394.out)); replace BK394 := Aside0.mk (bB3 BK394.out hb); clear hb hbox hg; have hnb16 := NB394_395.out; have hnc16 := NB395_394.out; obtain ⟨hcz17_0, hcz17_1, hcz17_2, hcz17_3, hfz17_0, hfz17_1, hfz17_2, hfz17_3⟩ := cl4 BK394.out; obtain ⟨hcz18_0, hcz18_1, hcz18_2, hfz18_0, hfz18_1, hfz18_2⟩ := cl3 BK395.out))
  refine bodyPost_ret (results_cell_row rfl _ _ gb395 32 #[.bool false, .slice none 0 0, .int .i64 0] (0, 0) _ rfl (bQ3 BK395.out) Try.underlying32 rfl (by kernel_rfl)) rfl ?_
  exact ⟨_, eR3, by first | exact Kd.R_nil _ _ _ _ _ | exact Kd.N_nil _ _ _ _ _ | exact Kd.V_nil _ _ _ _ _ | exact Kd.Q_nil _ _ _ _ _ | exact Kd.S_nil _ _ _ _ _, bR3 HB.out⟩
def verniertop_sign.f (a0_0 : Bool) (l0_1 : List Int) (a0_2 : Int) : Option (Int) := if (l0_1.length : Int) = 0 then (some 0) else (if a0_0 = true then (some (-1)) else (some 1))
set_option maxHeartbeats 8000000 in
set_option maxRecDepth 100000 in
theorem verniertop_sign.calls (a0_0 : Bool) (A0_1 : Option Addr) (c0_1 : Nat) (l0_1 : List Int) (a0_2 : Int) (r : Int) (w : World) (hr0_1 : Kd.C (Kd.int .i64) w A0_1 l0_1.length l0_1) (hc0_1 : l0_1.length ≤ c0_1) (h : verniertop_sign.f a0_0 l0_1 a0_2 = some r) :
  Calls Try.prog 23 #[.agg #[.bool a0_0, .slice A0_1 l0_1.length c0_1, .int .i64 a0_2]] w fun e w' => e = .returned (.int .i64 r) ∧ Below w.heap.size w w' := by
 have hu32 := Try.underlying32
 have HR0_1 := Aside0.mk hr0_1
 have HC0_1 := Aside0.mk hc0_1
 clear hr0_1 hc0_1
 have HB := Aside0.mk (Below.refl w.heap.size w)
 have H : (if (l0_1.length : Int) = 0 then (some 0) else (if a0_0 = true then (some (-1)) else (some 1))) = some r := h
 clear h
 by_cases c2 : (l0_1.length : Int) = 0
 ·
  rw [if_pos c2] at H
  have c2b0 : ((l0_1.length : Int) == 0) = true := beq_iff_eq.mpr c2
  have c2b1 : ((l0_1.length : Int) != 0) = false := bne_eq_false_iff_eq.mpr c2
  clear c2
  obtain rfl := Option.some.inj H
  go_enter Try.func23, Try.ntmps23
  go_wp2_with (first | ((with_reducible refine gD (N := 1) rfl ?_); refine bE3 1 #[.bool a0_0, .slice A0_1 l0_1.length c0_1, .int .i64 a0_2] 32 ?hr ?_; (case hr => first | (go_simp; done) | (go_simp; rfl)); intro gb399 hg w3 hbox hb; have BK399 := Aside0.mk (hbox); have GW399 := Aside0.mk ((bZ3 hg HB.out)); have GE399 := Aside0.mk ((bZ3 hg HB.out)); replace HB := Aside0.mk (bS3 HB.out hb); clear hb hbox hg; obtain ⟨hcz4_0, hcz4_1, hcz4_2, hfz4_0, hfz4_1, hfz4_2⟩ := cl3 BK399.out))
  go_ret
  exact ⟨eR3, bR3 HB.out⟩
 ·
  rw [if_neg c2] at H
  have c2b0 : ((l0_1.length : Int) == 0) = false := beq_eq_false_iff_ne.mpr c2
  have c2b1 : ((l0_1.length : Int) != 0) = true := bne_iff_ne.mpr c2
  have c2b2 : ¬ (l0_1 = []) := fun h_ => c2 (by rw [h_]; rfl)
  by_cases c5 : a0_0 = true
  ·
   subst c5
   rw [if_pos rfl] at H
   obtain rfl := Option.some.inj H
   go_enter Try.func23, Try.ntmps23
   go_wp2_with (first | ((with_reducible refine gD (N := 1) rfl ?_); refine bE3 1 #[.bool true, .slice A0_1 l0_1.length c0_1, .int .i64 a0_2] 32 ?hr ?_; (case hr => first | (go_simp; done) | (go_simp; rfl)); intro gb399 hg w6 hbox hb; have BK399 := Aside0.mk (hbox); have GW399 := Aside0.mk ((bZ3 hg HB.out)); have GE399 := Aside0.mk ((bZ3 hg HB.out)); replace HB := Aside0.mk (bS3 HB.out hb); clear hb hbox hg; obtain ⟨hcz7_0, hcz7_1, hcz7_2, hfz7_0, hfz7_1, hfz7_2⟩ := cl3 BK399.out))
   go_ret
   exact ⟨eR3, bR3 HB.out⟩
  ·
   replace c5 := Bool.eq_false_iff.mpr c5
   subst c5
   rw [if_neg (show ¬ (false = true) by decide)] at H
   obtain rfl := Option.some.inj H
   go_enter Try.func23, Try.ntmps23
   go_wp2_with (first | ((with_reducible refine gD (N := 1) rfl ?_); refine bE3 1 #[.bool false, .slice A0_1 l0_1.length c0_1, .int .i64 a0_2] 32 ?hr ?_; (case hr => first | (go_simp; done) | (go_simp; rfl)); intro gb399 hg w8 hbox hb; have BK399 := Aside0.mk (hbox); have GW399 := Aside0.mk ((bZ3 hg HB.out)); have GE399 := Aside0.mk ((bZ3 hg HB.out)); replace HB := Aside0.mk (bS3 HB.out hb); clear hb hbox hg; obtain ⟨hcz9_0, hcz9_1, hcz9_2, hfz9_0, hfz9_1, hfz9_2⟩ := cl3 BK399.out))
   go_ret
   exact ⟨eR3, bR3 HB.out⟩
def verniertop_size.f (k : Nat) (a0_0 : Bool) (l0_1 : List Int) (a0_2 : Int) (a1_0 : Bool) (l1_1 : List Int) (a1_2 : Int) : Option (Int) := (verniertop_down.f k a0_0 l0_1 a0_2 a1_0 l1_1 a1_2).bind fun bt405 => ((vernierref04_Cmp.f k bt405.1 bt405.2.1).bind fun t412 => (some t412))
end Go.Proofs.Ytjlaijaadclghaa.F
